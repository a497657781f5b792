/- A part of the proof; what it holds is told at each theorem. -/
import Derived.Test.YtpijolohkdchcaaGreatDoorXPlA
set_option linter.unusedVariables false
set_option linter.unusedSimpArgs false
set_option linter.unusedSectionVars false
set_option linter.deprecated false
namespace Go.Vm
open Go Go.RowKit
def TotP {α:Type}(o:Option α)(Q:α→Prop):Prop:=∃r,o=some r∧Q r
section
variable {α β σ ρ:Type}
theorem TotP.ok {a:α}{Q:α→Prop}(h:Q a):TotP (some a) Q:=⟨a,rfl,h⟩
theorem TotP.okT {a:α}:TotP (some a) fun _=>True:=⟨a,rfl,trivial⟩
theorem TotP.bind {o:Option α}{f:α→Option β}{P:α→Prop}{Q:β→Prop}(h:TotP o P)(k:∀x,P x→TotP (f x) Q):TotP (o.bind f) Q:=by
 obtain⟨x,rfl,hx⟩:=h
 exact k x hx
theorem TotP.bif {c:Bool}{a b:Option α}{Q:α→Prop}(h1:c=true→TotP a Q)(h2:c=false→TotP b Q):TotP (bif c then a else b) Q:=by
 cases c with
 | true=>exact h1 rfl
 | false=>exact h2 rfl
theorem TotP.chk {c:Bool}(h:c=true):TotP (chk c) fun _=>True:=⟨(),Qtm h,trivial⟩
theorem TotP.idx {l:List α}{j:Int}(h0:0≤j)(h1:j<l.length):TotP (idx l j) fun x=>x∈l:=by
 rw [QtV h0 h1]
 exact⟨_,rfl,List.getElem_mem _⟩
theorem TotP.get {l:List α}{j:Nat}(h1:j<l.length):TotP (l[j]?) fun x=>x∈l:=by
 rw [List.getElem?_eq_getElem h1]
 exact⟨_,rfl,List.getElem_mem _⟩
theorem TotP.sidx {s:ByteArray}{j:Int}(h0:0≤j)(h1:j<s.size):TotP (sidx s j) fun _=>True:=by
 unfold Vm.sidx
 rw [if_pos h0]
 have:j.toNat<s.size:=by omega
 rw [getElem?_pos s j.toNat this]
 exact⟨_,rfl,trivial⟩
theorem TotP.mono {o:Option α}{P Q:α→Prop}(h:TotP o P)(k:∀x,P x→Q x):TotP o Q:=let ⟨r,h1,h2⟩:=h;⟨r,h1,k r h2⟩
theorem TotP.tot {o:Option α}{P:α→Prop}(h:TotP o P):∃r,o=some r:=let ⟨r,h1,_⟩:=h;⟨r,h1⟩
theorem TotP.self {o:Option α}{P:α→Prop}(h:TotP o P):TotP o fun x=>o=some x∧P x:=let ⟨r,h1,h2⟩:=h;⟨r,h1,h1,h2⟩
theorem TotP.up {body:σ→Option (σ⊕ρ)}(n:Nat)(ix:σ→Int)(J:σ→Prop){Q:ρ→Prop}{s0:σ}(h0:ix s0=0)(hJ:J s0)
  (step:∀(i:Nat) s,ix s=(i:Int)→i≤n→J s→TotP (body s) fun o=>(∀s',o=.inl s'→i<n∧ix s'=((i+1:Nat):Int)∧J s')∧∀r,o=.inr r→Q r):TotP (QE body s0) Q:=by
 have key:∀k i s,i+k=n→ix s=(i:Int)→J s→∃r,QE body s=some r∧Q r:=by
  intro k
  induction k with
  | zero=>
   intro i s hk hi hj
   obtain⟨o,ho,h1,h2⟩:=step i s hi (by omega) hj
   rw [Qdl,ho]
   cases o with
   | inl s'=>have:=(h1 s' rfl).1;omega
   | inr r=>exact⟨r,rfl,h2 r rfl⟩
  | succ k ih=>
   intro i s hk hi hj
   obtain⟨o,ho,h1,h2⟩:=step i s hi (by omega) hj
   rw [Qdl,ho]
   cases o with
   | inl s'=>
    obtain⟨_,h3,h4⟩:=h1 s' rfl
    exact ih (i+1) s' (by omega) h3 h4
   | inr r=>exact⟨r,rfl,h2 r rfl⟩
 exact key n 0 s0 (by omega) h0 hJ
theorem Qz {s:σ}{n i:Nat}{ix:σ→Int}{J:σ→Prop}{Q:ρ→Prop}(h:i<n∧ix s=((i+1:Nat):Int)∧J s):
  (∀s',(Sum.inl s:σ⊕ρ)=.inl s'→i<n∧ix s'=((i+1:Nat):Int)∧J s')∧∀r,(Sum.inl s:σ⊕ρ)=.inr r→Q r:=
 ⟨fun s' e=>(by cases e;exact h),fun r e=>(by cases e)⟩
theorem Qm {r:ρ}{n i:Nat}{ix:σ→Int}{J:σ→Prop}{Q:ρ→Prop}(h:Q r):
  (∀s',(Sum.inr r:σ⊕ρ)=.inl s'→i<n∧ix s'=((i+1:Nat):Int)∧J s')∧∀r',(Sum.inr r:σ⊕ρ)=.inr r'→Q r':=
 ⟨fun s' e=>(by cases e),fun r' e=>(by cases e;exact h)⟩
end
def lenL {α:Type}(ok:α→Prop)(l:List α):Prop:=l.length≤maxLen∧∀x∈l,ok x
theorem lenL.drop {α:Type}{ok:α→Prop}{l:List α}(h:lenL ok l)(k:Nat):lenL ok (l.drop k):=⟨by have:=h.1;rw [List.length_drop];omega,fun x hx=>h.2 x (List.mem_of_mem_drop hx)⟩
theorem lenL.take {α:Type}{ok:α→Prop}{l:List α}(h:lenL ok l)(k:Nat):lenL ok (l.take k):=⟨by have:=h.1;rw [List.length_take];omega,fun x hx=>h.2 x (List.mem_of_mem_take hx)⟩
theorem lenL.nil {α:Type}{ok:α→Prop}:lenL ok ([]:List α):=⟨by simp,fun x h=>by cases h⟩
theorem lenL.app {α:Type}{ok:α→Prop}{l m:List α}(h:lenL ok l)(hm:lenL ok m)(hs:l.length+m.length≤maxLen):lenL ok (l++m):=⟨by simpa using hs,fun x hx=>by rcases List.mem_append.1 hx with h1 | h1;exact h.2 x h1;exact hm.2 x h1⟩
def Qfk (s:ByteArray):Prop:=s.size≤maxLen
theorem QtZ {s:ByteArray}(h:QgS s (⟨#[]⟩:ByteArray)=false):0<s.size:=by
 apply Nat.pos_of_ne_zero
 intro h0
 have:s=⟨#[]⟩:=by
  obtain⟨a⟩:=s
  have:a=#[]:=Array.eq_empty_of_size_eq_zero h0
  rw [this]
 subst this
 simp [QgS]at h
theorem Qjt {a b:Int}:0≤min2 a b↔0≤a∧0≤b:=by unfold min2;split<;>omega
theorem Qju {a b n:Int}:max2 a b<n↔a<n∧b<n:=by unfold max2;split<;>omega
theorem Qiv {a b n:Int}:max2 a b≤n↔a≤n∧b≤n:=by unfold max2;split<;>omega
end Go.Vm
