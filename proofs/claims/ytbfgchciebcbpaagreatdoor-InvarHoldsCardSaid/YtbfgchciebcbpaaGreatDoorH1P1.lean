/- A part of the proof; what it holds is told at each theorem. -/
import Derived.Test.YtbfgchciebcbpaaGreatDoorH1XPlA
import Derived.Test.YtbfgchciebcbpaaGreatDoorH1V3
import Derived.Test.YtbfgchciebcbpaaGreatDoorH1T3
import Derived.KernelRfl
set_option linter.unusedVariables false
set_option linter.unusedSimpArgs false
set_option linter.unusedSectionVars false
set_option linter.deprecated false
namespace Go.Vm
open Go Go.RowKit
def Qf {α:Type}(o:Option α)(Q:α→Prop):Prop:=∃r,o=some r∧Q r
section
variable {α β σ ρ:Type}
theorem Qf.ok {a:α}{Q:α→Prop}(h:Q a):Qf (some a) Q:=⟨a,rfl,h⟩
theorem Qf.okT {a:α}:Qf (some a) fun _=>True:=⟨a,rfl,trivial⟩
theorem Qf.bind {o:Option α}{f:α→Option β}{P:α→Prop}{Q:β→Prop}(h:Qf o P)(k:∀x,P x→Qf (f x) Q):Qf (o.bind f) Q:=by
 obtain⟨x,rfl,hx⟩:=h
 exact k x hx
theorem Qf.bif {c:Bool}{a b:Option α}{Q:α→Prop}(h1:c=true→Qf a Q)(h2:c=false→Qf b Q):Qf (bif c then a else b) Q:=by
 cases c with
 | true=>exact h1 rfl
 | false=>exact h2 rfl
theorem Qf.chk {c:Bool}(h:c=true):Qf (chk c) fun _=>True:=⟨(),Qkn h,trivial⟩
theorem Qf.idx {l:List α}{j:Int}(h0:0≤j)(h1:j<l.length):Qf (idx l j) fun x=>x∈l:=by
 rw [QqB h0 h1]
 exact⟨_,rfl,QaV _⟩
theorem Qf.get {l:List α}{j:Nat}(h1:j<l.length):Qf (l[j]?) fun x=>x∈l:=by
 rw [QF h1]
 exact⟨_,rfl,QaV _⟩
theorem Qf.sidx {s:ByteArray}{j:Int}(h0:0≤j)(h1:j<s.size):Qf (sidx s j) fun _=>True:=by
 unfold Vm.sidx
 rw [if_pos h0]
 have:j.toNat<s.size:=by omega
 rw [getElem?_pos s j.toNat this]
 exact⟨_,rfl,trivial⟩
theorem Qf.mono {o:Option α}{P Q:α→Prop}(h:Qf o P)(k:∀x,P x→Q x):Qf o Q:=let ⟨r,h1,h2⟩:=h;⟨r,h1,k r h2⟩
theorem Qf.tot {o:Option α}{P:α→Prop}(h:Qf o P):∃r,o=some r:=let ⟨r,h1,_⟩:=h;⟨r,h1⟩
theorem Qf.self {o:Option α}{P:α→Prop}(h:Qf o P):Qf o fun x=>o=some x∧P x:=let ⟨r,h1,h2⟩:=h;⟨r,h1,h1,h2⟩
theorem Qf.up {body:σ→Option (σ⊕ρ)}(n:Nat)(ix:σ→Int)(J:σ→Prop){Q:ρ→Prop}{s0:σ}(h0:ix s0=0)(hJ:J s0)
  (step:∀(i:Nat) s,ix s=(i:Int)→i≤n→J s→Qf (body s) fun o=>(∀s',o=.inl s'→i<n∧ix s'=((i+1:Nat):Int)∧J s')∧∀r,o=.inr r→Q r):Qf (QD body s0) Q:=by
 have key:∀k i s,i+k=n→ix s=(i:Int)→J s→∃r,QD body s=some r∧Q r:=by
  intro k
  induction k with
  | zero=>
   intro i s hk hi hj
   obtain⟨o,ho,h1,h2⟩:=step i s hi (by omega) hj
   rw [QcC,ho]
   cases o with
   | inl s'=>have:=(h1 s' rfl).1;omega
   | inr r=>exact⟨r,rfl,h2 r rfl⟩
  | succ k ih=>
   intro i s hk hi hj
   obtain⟨o,ho,h1,h2⟩:=step i s hi (by omega) hj
   rw [QcC,ho]
   cases o with
   | inl s'=>
    obtain⟨_,h3,h4⟩:=h1 s' rfl
    exact ih (i+1) s' (by omega) h3 h4
   | inr r=>exact⟨r,rfl,h2 r rfl⟩
 exact key n 0 s0 (by omega) h0 hJ
theorem QA {s:σ}{n i:Nat}{ix:σ→Int}{J:σ→Prop}{Q:ρ→Prop}(h:i<n∧ix s=((i+1:Nat):Int)∧J s):
  (∀s',(Sum.inl s:σ⊕ρ)=.inl s'→i<n∧ix s'=((i+1:Nat):Int)∧J s')∧∀r,(Sum.inl s:σ⊕ρ)=.inr r→Q r:=
 ⟨fun s' e=>(by cases e;exact h),fun r e=>(by cases e)⟩
theorem Qn {r:ρ}{n i:Nat}{ix:σ→Int}{J:σ→Prop}{Q:ρ→Prop}(h:Q r):
  (∀s',(Sum.inr r:σ⊕ρ)=.inl s'→i<n∧ix s'=((i+1:Nat):Int)∧J s')∧∀r',(Sum.inr r:σ⊕ρ)=.inr r'→Q r':=
 ⟨fun s' e=>(by cases e),fun r' e=>(by cases e;exact h)⟩
end
def QM {α:Type}(ok:α→Prop)(l:List α):Prop:=l.length≤maxLen∧∀x∈l,ok x
theorem QM.drop {α:Type}{ok:α→Prop}{l:List α}(h:QM ok l)(k:Nat):QM ok (l.drop k):=⟨by have:=h.1;rw [Qk5];omega,fun x hx=>h.2 x (Qpv hx)⟩
theorem QM.take {α:Type}{ok:α→Prop}{l:List α}(h:QM ok l)(k:Nat):QM ok (l.take k):=⟨by have:=h.1;rw [QeY];omega,fun x hx=>h.2 x (QgW hx)⟩
theorem QM.nil {α:Type}{ok:α→Prop}:QM ok ([]:List α):=⟨by simp,fun x h=>by cases h⟩
theorem QM.app {α:Type}{ok:α→Prop}{l m:List α}(h:QM ok l)(hm:QM ok m)(hs:l.length+m.length≤maxLen):QM ok (l++m):=⟨by simpa using hs,fun x hx=>by rcases QcR.1 hx with h1 | h1;exact h.2 x h1;exact hm.2 x h1⟩
def Qg7 (s:ByteArray):Prop:=s.size≤maxLen
theorem QCk {s:ByteArray}(h:QiG s (⟨#[]⟩:ByteArray)=false):0<s.size:=by
 apply QpP
 intro h0
 have:s=⟨#[]⟩:=by
  obtain⟨a⟩:=s
  have:a=#[]:=Array.eq_empty_of_size_eq_zero h0
  rw [this]
 subst this
 simp [QiG]at h
theorem Qm7 {a b:Int}:0≤min2 a b↔0≤a∧0≤b:=by unfold min2;split<;>omega
theorem Qm8 {a b n:Int}:max2 a b<n↔a<n∧b<n:=by unfold max2;split<;>omega
theorem QlM {a b n:Int}:max2 a b≤n↔a≤n∧b≤n:=by unfold max2;split<;>omega
abbrev T0:=@Qf.bind
abbrev T1:=@Qf.bif
abbrev T2:=@Qf.ok
abbrev T3:=@Qf.okT
abbrev T4:=@Qf.idx
abbrev T5:=@Qf.chk
abbrev T6:=@Qf.mono
end Go.Vm
namespace Go.Vm
open Go Go.RowKit
def Asc (l:List (Int×Int)):Prop:=l.Pairwise fun p q=>p.1<q.1
def QnP (l:List (Int×Int)):Prop:=l.Pairwise fun p q=>p.1≠q.1
theorem Asc.nd {l:List (Int×Int)}(h:Asc l):QnP l:=h.imp fun h=>by omega
theorem QgR {p:Int×Int}{l:List (Int×Int)}:Asc (p::l)↔(∀q∈l,p.1<q.1)∧Asc l:=List.pairwise_cons
theorem Qyh {p:Int×Int}{l:List (Int×Int)}:QnP (p::l)↔(∀q∈l,p.1≠q.1)∧QnP l:=List.pairwise_cons
theorem Qvs {l:List (Int×Int)}{k:Int}:QR l k=none↔∀p∈l,p.1≠k:=by
 induction l with
 | nil=>simp [QR]
 | cons p l ih=>
  obtain⟨a,x⟩:=p
  rw [Qaf]
  by_cases h:a=k
  ·simp [h]
  simp [h,ih]
theorem Qeq {l:List (Int×Int)}(hn:QnP l){k v:Int}:QR l k=some v↔(k,v)∈l:=by
 induction l with
 | nil=>simp [QR]
 | cons p l ih=>
  obtain⟨a,x⟩:=p
  obtain⟨h1,h2⟩:=Qyh.1 hn
  rw [Qaf]
  by_cases h:a=k
  ·subst h
   rw [if_pos rfl]
   constructor
   ·intro e;cases e;simp
   intro e
   rcases Qab.1 e with e | e
   ·cases e;rfl
   exact absurd rfl (h1 (a,v) e)
  rw [if_neg h,ih h2]
  constructor
  ·intro e;exact Qah _ e
  intro e
  rcases Qab.1 e with e | e
  ·cases e;exact absurd rfl h
  exact e
theorem QCl {l m:List (Int×Int)}(hl:QnP l)(h:l.Perm m)(k:Int):QR l k=QR m k:=by
 have hm:QnP m:=(h.pairwise_iff (fun hab=>Ne.symm hab)).1 hl
 apply Option.ext
 intro v
 rw [Qeq hl,Qeq hm]
 exact h.mem_iff
theorem QAM {l m:List (Int×Int)}(hl:Asc l)(hm:Asc m)(h:∀k,QR l k=QR m k):l=m:=by
 induction l generalizing m with
 | nil=>
  cases m with
  | nil=>rfl
  | cons p m=>have:=h p.1;rw [Qaf (κ:=Int)]at this;simp [QR]at this
 | cons p l ih=>
  obtain⟨a,x⟩:=p
  cases m with
  | nil=>have:=h a;rw [Qaf]at this;simp [QR]at this
  | cons q m=>
   obtain⟨b,y⟩:=q
   obtain⟨l1,l2⟩:=QgR.1 hl
   obtain⟨m1,m2⟩:=QgR.1 hm
   have hab:a=b:=by
    rcases Int.lt_trichotomy a b with hc | hc | hc
    ·have e:=h a
     rw [Qaf,Qaf,if_pos rfl,if_neg (by omega),Qvs.2 (fun p hp=>by have:=m1 p hp;simp at this;omega)]at e
     cases e
    ·exact hc
    have e:=h b
    rw [Qaf,Qaf,if_neg (by omega),if_pos rfl,Qvs.2 (fun p hp=>by have:=l1 p hp;simp at this;omega)]at e
    cases e
   subst hab
   have e:=h a
   rw [Qaf,Qaf,if_pos rfl,if_pos rfl]at e
   cases e
   rw [ih l2 m2 fun k=>?_]
   by_cases hk:a=k
   ·subst hk
    rw [Qvs.2 (fun p hp=>by have:=l1 p hp;simp at this;omega),Qvs.2 (fun p hp=>by have:=m1 p hp;simp at this;omega)]
   have:=h k
   rwa [Qaf,Qaf,if_neg hk,if_neg hk]at this
theorem QE3 {l:List (Int×Int)}{k v:Int}{p:Int×Int}(h:p∈Qgm l k v):∃q∈l,q.1=p.1:=by
 induction l with
 | nil=>cases h
 | cons q l ih=>
  obtain⟨a,x⟩:=q
  rw [Qgm]at h
  split at h
  ·rename_i e
   rcases Qab.1 h with rfl | h
   ·exact⟨_,Q9,e⟩
   exact⟨p,Qah _ h,rfl⟩
  rcases Qab.1 h with rfl | h
  ·exact⟨_,Q9,rfl⟩
  obtain⟨q,h1,h2⟩:=ih h
  exact⟨q,Qah _ h1,h2⟩
theorem QDp {lt:Int→Int→Bool}{l:List (Int×Int)}{k v:Int}{p:Int×Int}(h:p∈Qkv lt l k v):p=(k,v)∨p∈l:=by
 induction l with
 | nil=>simp [Qkv]at h;exact .inl h
 | cons q l ih=>
  obtain⟨a,x⟩:=q
  rw [Qkv]at h
  split at h
  ·rcases Qab.1 h with h | h
   ·exact .inl h
   exact .inr h
  rcases Qab.1 h with h | h
  ·exact .inr (h▸Q9)
  rcases ih h with h | h
  ·exact .inl h
  exact .inr (Qah _ h)
theorem QzS {l:List (Int×Int)}(h:Asc l)(k v:Int):Asc (QaT ltI l k v):=by
 unfold QaT
 split
 ·rename_i x hx
  clear hx
  induction l with
  | nil=>exact h
  | cons p l ih=>
   obtain⟨a,x⟩:=p
   obtain⟨h1,h2⟩:=QgR.1 h
   rw [Qgm]
   split
   ·rename_i e;subst e;exact QgR.2 ⟨h1,h2⟩
   refine QgR.2 ⟨fun q hq=>?_,ih h2⟩
   obtain⟨q',hq',e⟩:=QE3 hq
   rw [←e];exact h1 _ hq'
 rename_i hn
 induction l with
 | nil=>exact List.pairwise_singleton _ _
 | cons p l ih=>
  obtain⟨a,x⟩:=p
  obtain⟨h1,h2⟩:=QgR.1 h
  rw [Qaf]at hn
  split at hn
  ·cases hn
  rename_i hne
  rw [Qkv]
  split
  ·rename_i e
   have e:k<a:=QV e
   refine QgR.2 ⟨fun q hq=>?_,h⟩
   rcases Qab.1 hq with rfl | hq
   ·exact e
   have:=h1 q hq;simp at this ⊢;omega
  rename_i e
  have e:¬k<a:=fun c=>e (QaS c)
  refine QgR.2 ⟨fun q hq=>?_,ih h2 hn⟩
  rcases QDp hq with rfl | hq
  ·show a<k;omega
  exact h1 q hq
theorem QDq {l:List (Int×Int)}{k v:Int}:(Qgm l k v).length=l.length:=by
 induction l with
 | nil=>rfl
 | cons p l ih=>
  obtain⟨a,x⟩:=p
  rw [Qgm]
  split
  ·rfl
  simp [ih]
theorem QDr {lt:Int→Int→Bool}{l:List (Int×Int)}{k v:Int}:(Qkv lt l k v).length=l.length+1:=by
 induction l with
 | nil=>rfl
 | cons p l ih=>
  obtain⟨a,x⟩:=p
  rw [Qkv]
  split
  ·rfl
  simp [ih]
theorem QDs {l:List (Int×Int)}{k v:Int}:(QaT ltI l k v).length≤l.length+1:=by
 unfold QaT
 split
 ·rw [QDq];omega
 rw [QDr];exact Qb4 _
theorem QDt {l:List (Int×Int)}{k v:Int}(h:Asc (l++[(k,v)])):QaT ltI l k v=l++[(k,v)]:=by
 have hl:Asc l:=(List.pairwise_append.1 h).1
 refine QAM (QzS hl k v) h fun j=>?_
 rw [QoO]
 have hk:∀p∈l,p.1<k:=fun p hp=>(List.pairwise_append.1 h).2.2 p hp (k,v) (by simp)
 clear h
 induction l with
 | nil=>
  show(if j=k then some v else none)=(if k=j then some v else none)
  by_cases c:j=k
  ·rw [if_pos c,if_pos c.symm]
  rw [if_neg c,if_neg (fun e=>c e.symm)]
 | cons p l ih=>
  obtain⟨a,x⟩:=p
  have h1:=hk (a,x) Q9
  simp only at h1
  rw [Qon,Qaf,Qaf]
  rw [←ih (QgR.1 hl).2 fun p hp=>hk p (Qah _ hp)]
  by_cases c:j=k
  ·subst c;rw [if_pos rfl,if_pos rfl,if_neg (by omega)]
  rw [if_neg c,if_neg c]
section
variable {ρ:Type}{g:Int→Int→Int}{stop:Int→Bool}{q:Option ρ}{body:List (Int×Int)→Int×Int→Option (List (Int×Int)⊕ρ)}
def QI (s:List (Int×Int))(k:Int):Int:=(QR s k).getD 0
def Qvt (g:Int→Int→Int)(s l:List (Int×Int))(k:Int):Option Int:=match QR l k with
 | some v=>some (g (QI s k) v)
 | none=>QR s k
theorem Qtm (hb:∀s p,body s p=bif stop (g (QI s p.1) p.2)then q.map Sum.inr else some (.inl (QaT ltI s p.1 (g (QI s p.1) p.2)))):
  ∀l s,Asc s→QnP l→((∃p∈l,stop (g (QI s p.1) p.2)=true)∧QbE body s l=q.map Sum.inr)∨
   ((∀p∈l,stop (g (QI s p.1) p.2)=false)∧∃s',QbE body s l=some (.inl s')∧Asc s'∧s'.length≤s.length+l.length∧∀k,QR s' k=Qvt g s l k):=by
 intro l
 induction l with
 | nil=>intro s hs _;exact .inr ⟨fun p h=>(by cases h),s,rfl,hs,by simp,fun k=>rfl⟩
 | cons p l ih=>
  intro s hs hl
  obtain⟨h1,h2⟩:=Qyh.1 hl
  simp only [QbE,hb]
  cases hst:stop (g (QI s p.1) p.2)with
  | true=>exact .inl ⟨⟨p,Q9,hst⟩,by cases q<;>rfl⟩
  | false=>
   simp only [cond_false,Qi,Sum.elim_inl]
   have hc:∀r∈l,QI (QaT ltI s p.1 (g (QI s p.1) p.2)) r.1=QI s r.1:=fun r hr=>by
    unfold QI
    rw [QoO,if_neg (fun e=>h1 r hr e.symm)]
   rcases ih _ (QzS hs p.1 (g (QI s p.1) p.2)) h2 with⟨⟨r,hr,h3⟩,h4⟩|⟨h3,s',h4,h5,h6,h7⟩
   ·exact .inl ⟨⟨r,Qah _ hr,by rw [hc r hr]at h3;exact h3⟩,h4⟩
   refine .inr ⟨fun r hr=>?_,s',h4,h5,?_,fun k=>?_⟩
   ·rcases Qab.1 hr with rfl | hr
    ·exact hst
    have:=h3 r hr;rwa [hc r hr]at this
   ·have:=QDs (l:=s) (k:=p.1) (v:=g (QI s p.1) p.2)
    simp;omega
   rw [h7]
   obtain⟨a,x⟩:=p
   unfold Qvt
   rw [Qaf]
   by_cases e:a=k
   ·subst e
    rw [if_pos rfl,Qvs.2 (fun r hr=>Ne.symm (h1 r hr)),QoO,if_pos rfl]
   rw [if_neg e]
   simp only [QI,QoO,if_neg (fun e'=>e (Eq.symm e'):¬k=a)]
theorem Qxp (hb:∀s p,body s p=bif stop (g (QI s p.1) p.2)then q.map Sum.inr else some (.inl (QaT ltI s p.1 (g (QI s p.1) p.2)))){l s:List (Int×Int)}(hs:Asc s)(hl:QnP l):
  ((∃p∈l,stop (g (QI s p.1) p.2)=true)∧∀r,q=some r→QcJ body s l=some (.inr r))∨
   ((∀p∈l,stop (g (QI s p.1) p.2)=false)∧∃s',QcJ body s l=some (.inl s')∧Asc s'∧s'.length≤s.length+l.length∧∀k,QR s' k=Qvt g s l k):=by
 have key:∀l':List (Int×Int),l'.Perm l→QbE body s l'=QbE body s l:=fun l' hp=>by
  have hl':QnP l':=(hp.pairwise_iff (fun hab=>Ne.symm hab)).2 hl
  rcases Qtm hb l' s hs hl' with⟨⟨p,h1,h2⟩,h3⟩|⟨h1,s1,h3,h4,_,h5⟩
  ·rcases Qtm hb l s hs hl with⟨_,g3⟩|⟨g1,_⟩
   ·rw [h3,g3]
   rw [g1 p (hp.mem_iff.1 h1)]at h2;cases h2
  rcases Qtm hb l s hs hl with⟨⟨p,g1,g2⟩,g3⟩|⟨g1,s2,g3,g4,_,g5⟩
  ·rw [h1 p (hp.mem_iff.2 g1)]at g2;cases g2
  rw [h3,g3,QAM h4 g4 fun k=>?_]
  rw [h5,g5]
  unfold Qvt
  rw [QCl hl' hp k]
 rcases Qtm hb l s hs hl with⟨h1,h3⟩|⟨h1,s1,h3,h4,h6,h5⟩
 ·exact .inl ⟨h1,fun r hr=>Qd4.2 ⟨key,by rw [h3,hr];rfl⟩⟩
 exact .inr ⟨h1,s1,Qd4.2 ⟨key,h3⟩,h4,h6,h5⟩
end
theorem QBx {ρ:Type}{bad:Int×Int→Bool}{q:ρ}{body:Unit→Int×Int→Option (Unit⊕ρ)}(hb:∀p,body () p=some (bif bad p then .inr q else .inl ()))(l:List (Int×Int)):
  QcJ body () l=some (bif l.any bad then .inr q else .inl ()):=by
 have h1:∀l:List (Int×Int),QbE body () l=some (bif l.any bad then .inr q else .inl ()):=by
  intro l
  induction l with
  | nil=>rfl
  | cons p l ih=>
   simp only [QbE,hb,Qi,List.any_cons]
   cases bad p with
   | true=>rfl
   | false=>exact ih
 refine Qd4.2 ⟨fun l' hp=>?_,h1 l⟩
 rw [h1,h1]
 congr 2
 rw [Bool.eq_iff_iff,Qnc,Qnc]
 exact⟨fun ⟨x,a,b⟩=>⟨x,hp.mem_iff.1 a,b⟩,fun ⟨x,a,b⟩=>⟨x,hp.mem_iff.2 a,b⟩⟩
def rtF (a:Int):List (Int×Int)→Bool
 | []=>true
 | p::r=>!(decide (p.1≤a)||(decide (p.2<1)||decide (1048576<p.2)))&&rtF p.1 r
theorem QEb {a:Int}{l:List (Int×Int)}:rtF a l=true↔Asc l∧∀p∈l,a<p.1∧1≤p.2∧p.2≤1048576:=by
 induction l generalizing a with
 | nil=>simp [rtF,Asc]
 | cons p l ih=>
  rw [rtF,Qx,ih,QgR]
  simp only [Qfk,Qc6,Q0]
  constructor
  ·rintro ⟨⟨h1,h2,h3⟩,h4,h5⟩
   refine⟨⟨fun q hq=>(h5 q hq).1,h4⟩,fun q hq=>?_⟩
   rcases Qab.1 hq with rfl | hq
   ·omega
   have:=h5 q hq;omega
  rintro ⟨⟨h1,h2⟩,h3⟩
  have:=h3 p Q9
  exact⟨by omega,h2,fun q hq=>⟨h1 q hq,(h3 q (Qah _ hq)).2⟩⟩
def Rt (l:List (Int×Int)):Prop:=Asc l∧∀p∈l,0≤p.1∧1≤p.2∧p.2≤1048576
theorem QgS {l:List (Int×Int)}:rtF (-1) l=true↔Rt l:=by
 rw [QEb]
 constructor
 ·rintro ⟨h1,h2⟩;exact⟨h1,fun p hp=>by have:=h2 p hp;omega⟩
 rintro ⟨h1,h2⟩;exact⟨h1,fun p hp=>by have:=h2 p hp;omega⟩
theorem Rt.nil : Rt []:=⟨List.Pairwise.nil,fun p h=>by cases h⟩
theorem Qog {l:List (Int×Int)}(h:QnP l){p:Int×Int}(hp:p∈l):QI l p.1=p.2:=by
 unfold QI;rw [(Qeq h).2 (show(p.1,p.2)∈l from hp)];rfl
theorem Rt.cnt {l:List (Int×Int)}(h:Rt l)(k:Int):0≤QI l k∧QI l k≤1048576:=by
 unfold QI
 cases e:QR l k with
 | none=>simp
 | some v=>have:=h.2 _ ((Qeq h.1.nd).1 e);simp at this ⊢;omega
theorem Rt.cnt_pos {l:List (Int×Int)}(h:Rt l){k:Int}(hk:0<QI l k):0≤k:=by
 unfold QI at hk
 cases e:QR l k with
 | none=>rw [e]at hk;simp at hk
 | some v=>exact(h.2 _ ((Qeq h.1.nd).1 e)).1
def QkX (l:List (Int×Int)):List (Int×Int):=l.filter fun p=>decide (0<p.2)
theorem QzT {l:List (Int×Int)}(h:Asc l)(k:Int):QI (QkX l) k=if 0<QI l k then QI l k else 0:=by
 have hp:Asc (QkX l):=h.sublist List.filter_sublist
 by_cases c:0<QI l k
 ·rw [if_pos c]
  unfold QI at c
  cases e:QR l k with
  | none=>rw [e]at c;simp at c
  | some v=>
   rw [e]at c
   have h1:(k,v)∈QkX l:=Qhl.2 ⟨(Qeq h.nd).1 e,by simpa using c⟩
   unfold QI
   rw [(Qeq hp.nd).2 h1,e]
 rw [if_neg c]
 unfold QI
 cases e:QR (QkX l) k with
 | none=>rfl
 | some v=>
  have h1:=Qhl.1 ((Qeq hp.nd).1 e)
  have h2:=(Qeq h.nd).2 h1.1
  unfold QI at c
  rw [h2]at c
  simp at h1 c;omega
theorem QCm {l:List (Int×Int)}(h:Asc l)(hb:∀k,0<QI l k→0≤k∧QI l k≤1048576):Rt (QkX l):=by
 refine⟨h.sublist List.filter_sublist,fun p hp=>?_⟩
 obtain⟨h1,h2⟩:=Qhl.1 hp
 have h3:=Qog h.nd h1
 have h4:0<p.2:=QV h2
 have:=hb p.1 (by omega)
 omega
theorem QCn {l:List (Int×Int)}(h:Asc l):Qe0 (l.map Prod.fst)=l.map Prod.fst:=by
 rw [Qs5]
 refine List.mergeSort_of_pairwise ?_
 rw [Qq2]
 exact h.imp fun h=>by simp;omega
end Go.Vm
namespace Go.Vm
open Go Go.RowKit
def upL : Int→Nat→List Int
 | _,0=>[]
 | x,k+1=>x::upL (x+1) k
def binds : List Int→List (List Int)
 | []=>[[]]
 | s::r=>(0::upL 1 (s-1).toNat).flatMap fun x=>(binds r).map (x::·)
def inB : List Int→List Int→Prop
 | [],[]=>True
 | s::r,x::d=>0≤x∧(x=0∨x<s)∧inB r d
 | _,_=>False
theorem QEc {y x:Int}{k:Nat}:y∈upL x k↔x≤y∧y<x+k:=by
 induction k generalizing x with
 | zero=>
  simp only [upL,List.not_mem_nil,false_iff];omega
 | succ k ih=>simp only [upL,Qab,ih];omega
theorem QCo {l d:List Int}:d∈binds l↔inB l d:=by
 induction l generalizing d with
 | nil=>cases d<;>simp [binds,inB]
 | cons s r ih=>
  cases d with
  | nil=>simp [binds,inB]
  | cons x d=>
   simp only [binds,List.mem_flatMap,Qab,QEc,QG,List.cons.injEq,inB,←ih]
   constructor
   ·rintro ⟨y,h1,e,h2,rfl,rfl⟩
    exact⟨by omega,by omega,h2⟩
   rintro ⟨h1,h2,h3⟩
   exact⟨x,by omega,d,h3,rfl,rfl⟩
section
variable {α:Type}
end
end Go.Vm
noncomputable section
namespace Go.Proofs
open Go Go.RowKit Go.Vm
inductive QdO : Ql→Prop where
 | mk (e:Ql):e.Kids.length≤maxLen→(∀k∈e.Kids,QdO k)→QdO e
theorem Qfi {e:Ql}(h:QdO e):QM QdO e.Kids:=by
 cases h with
 | mk _ h1 h2=>exact⟨h1,h2⟩
theorem QuS {e k:Ql}(h:k∈e.Kids):SizeOf.sizeOf k<SizeOf.sizeOf e:=by
 obtain⟨a,b,l⟩:=e
 have:=List.sizeOf_lt_of_mem h
 simp only [Ql.mk.sizeOf_spec]at *
 omega
theorem Ql.pos (e:Ql):0<SizeOf.sizeOf e:=by
 obtain⟨a,b,l⟩:=e
 simp only [Ql.mk.sizeOf_spec];omega
inductive POk (v:Int):Ql→Prop where
 | mk (e:Ql):(e.Kind=1∨e.Kind=2∨e.Kind=3∨e.Kind=4∨e.Kind=5∨e.Kind=6)→(e.Kind=2→0≤e.Num∧e.Num<v)→(e.Kind=3∨e.Kind=4→e.Kids.length=1)→(e.Kind=5→e.Kids.length=2)→(e.Kind=6→e.Kids.length=3)→(∀k∈e.Kids,POk v k)→POk v e
def QcB (x:QN):Prop:=Qg7 x.Name∧True∧True∧True∧(QM Qg7) x.Names∧True∧True
def Qdf (x:QX):Prop:=Qg7 x.Name∧True∧(QM (fun _=>True)) x.First
def QeN (x:QaD):Prop:=Qg7 x.Name∧True
def Qjq (x:QY):Prop:=True∧QdO x.Expr
def QaR (x:Qy):Prop:=Qg7 x.Name∧(QM QeN) x.Vars∧QdO x.Guard∧True∧True∧(QM Qjq) x.Ins∧(QM Qjq) x.Outs∧(QM (fun _=>True)) x.Cancel∧True∧True
def QU (x:Qk):Prop:=(QM QcB) x.Colours∧(QM Qdf) x.Places∧(QM QaR) x.Tasks∧True∧True
def Qy7 (x:Qbb):Prop:=(QM QcB) x.all∧(QM (fun _=>True)) x.sizes∧True
theorem Qxq (v1:Qk)(h_v1:QU v1):Qf (Qmw v1) fun r=>True:=by
 unfold Qmw
 exact T3
theorem QcN (l1:(List QX))(k2:Int)(h_l1:(QM Qdf) l1):Qf (Qa3 l1 k2) fun r=>r=true→0≤k2∧k2<l1.length:=by
 unfold Qa3
 exact T2 (by first | (intro hr;first | (cases hr;done) | omega | ((try simp only [Qx,QdP,Qc6,Qfk,QiC,Qz,Q0,beq_iff_eq,bne_iff_ne,ne_eq,Qpr,QqV,Qfm,Qnf,Qne,Qk5,QeY,Qex,Qm7,Qm8,QlM]at *);omega)) | ((try simp only [Qx,QdP,Qc6,Qfk,QiC,Qz,Q0,beq_iff_eq,bne_iff_ne,ne_eq,Qpr,QqV,Qfm,Qnf,Qne,Qk5,QeY,Qex,Qm7,Qm8,QlM]at *);omega) | simp_all)
theorem Qxr (v1:Qk)(h_v1:QU v1):Qf (Qmx v1) fun r=>True:=by
 unfold Qmx
 refine T0 (P:=fun _=>True) ?_ (fun x_1 hv2=>?_)
 ·unfold Qqe
  refine T0 (QcN v1.Places v1.From (h_v1.2.1)) (fun x_3 hv4=>?_)
  refine T1 (fun hc5=>?_) (fun hc5=>?_)
  ·refine T0 (QcN v1.Places v1.To (h_v1.2.1)) (fun x_6 hv7=>?_)
   exact T3
  exact T3
 unfold QiO
 exact T3
theorem Qxs (v1:Qk)(h_v1:QU v1):Qf (Qmy v1) fun r=>True:=by
 unfold Qmy
 exact T3
theorem Qxt (v1:Qk)(v2:Int)(v3:Int)(v4:Int)(h_v1:QU v1):Qf (Qmz v1 v2 v3 v4) fun r=>True:=by
 unfold Qmz
 refine T0 (Qxq v1 (h_v1)) (fun x_1 hv2=>?_)
 refine T1 (fun hc3=>?_) (fun hc3=>?_)
 ·exact T3
 refine T0 (Qxr v1 (h_v1)) (fun x_4 hv5=>?_)
 refine T1 (fun hc6=>?_) (fun hc6=>?_)
 ·exact T3
 refine T0 (Qxs v1 (h_v1)) (fun x_7 hv8=>?_)
 refine T1 (fun hc9=>?_) (fun hc9=>?_)
 ·exact T3
 exact T3
theorem Qxu (lo1:Int)(hi2:Int)  : Qf (QmA lo1 hi2) fun r=>True:=by
 unfold QmA
 refine T1 (fun hc1=>?_) (fun hc1=>?_)
 ·exact T3
 exact T3
theorem Qpn (c1:Int)  : Qf (Qfs c1) fun r=>True:=by
 unfold Qfs
 exact T3
theorem QnQ (s1:ByteArray)(h_s1:Qg7 s1):Qf (Qhg s1) fun r=>True:=by
 unfold Qhg
 refine T0 (P:=fun _=>True) ?_ (fun x_1 hv2=>?_)
 ·unfold Qqf
  refine T1 (fun hc3=>?_) (fun hc3=>?_)
  ·exact T3
  have hshc3:=QCk hc3
  refine T1 (fun hc4=>?_) (fun hc4=>?_)
  ·exact T3
  refine T0 (Qf.sidx (by omega) (by omega)) (fun c_5 hv6=>?_)
  refine T0 (Qpn c_5 ) (fun x_7 hv8=>?_)
  exact T3
 unfold QiT
 refine T1 (fun hc9=>?_) (fun hc9=>?_)
 ·exact T3
 refine T0 (Qf.up (s1.size) (fun st=>st) (fun _=>True) (Q:=fun q=>True) rfl trivial (fun i11 st hi12 hn13 hj14=>?_)) (fun q15 hq16=>?_)
 ·obtain⟨x_10,hst⟩:∃y,y=st:=⟨_,rfl⟩
  subst hst
  replace hi12:x_10=(i11:Int):=hi12
  show Qf (QiQ s1 x_10) _
  unfold QiQ
  refine T1 (fun hc17=>?_) (fun hc17=>?_)
  ·refine T0 (Qf.sidx (by omega) (by simp_all)) (fun c_18 hv19=>?_)
   refine T0 (P:=fun _=>True) ?_ (fun x_20 hv21=>?_)
   ·unfold Qqg
    refine T0 (Qpn c_18 ) (fun x_22 hv23=>?_)
    refine T1 (fun hc24=>?_) (fun hc24=>?_)
    ·refine T1 (fun hc25=>?_) (fun hc25=>?_)
     ·exact T3
     refine T1 (fun hc26=>?_) (fun hc26=>?_)
     ·exact T3
     exact T3
    exact T3
   unfold QiP
   refine T1 (fun hc27=>?_) (fun hc27=>?_)
   ·exact T2 (Qn trivial)
   exact T2 (QA ⟨(by simp_all),by subst hi12;exact Qw (by simp_all) h_s1,trivial⟩)
  exact T2 (Qn trivial)
 rcases q15 with q15 | q15
 ·show Qf (QiR) _
  unfold QiR
  exact T3
 show Qf (QiS) _
 unfold QiS
 exact T3
theorem Qwx (l1:(List ByteArray))(h_l1:(QM Qg7) l1):Qf (Qlu l1) fun r=>True:=by
 unfold Qlu
 refine T0 (Qf.up (l1.length) (fun st=>st.1) (fun _=>True) (Q:=fun q=>True) rfl trivial (fun i3 st hi4 hn5 hj6=>?_)) (fun q7 hq8=>?_)
 ·obtain⟨x_1,m_2⟩:=st
  replace hi4:x_1=(i3:Int):=hi4
  show Qf (QhY l1 x_1 m_2) _
  unfold QhY
  refine T1 (fun hc9=>?_) (fun hc9=>?_)
  ·refine T0 (T4 (by omega) (by simp_all)) (fun e_10 hv11=>?_)
   refine T0 (P:=fun _=>True) ?_ (fun x_12 hv13=>?_)
   ·unfold Qpd
    refine T0 (QnQ e_10 (((h_l1).2 e_10 hv11))) (fun x_14 hv15=>?_)
    refine T1 (fun hc16=>?_) (fun hc16=>?_)
    ·exact T3
    exact T3
   unfold QhX
   refine T1 (fun hc17=>?_) (fun hc17=>?_)
   ·exact T2 (Qn trivial)
   exact T2 (QA ⟨(by simp_all),by subst hi4;exact Qw (by simp_all) (h_l1).1,trivial⟩)
  exact T2 (Qn trivial)
 rcases q7 with q7 | q7
 ·show Qf (QhZ) _
  unfold QhZ
  exact T3
 show Qf (Qh0) _
 unfold Qh0
 exact T3
theorem Qxv (c1:QN)(ahead2:(List Int))(h_c1:QcB c1)(h_ahead2:(QM (fun _=>True)) ahead2):Qf (QmB c1 ahead2) fun r=>True:=by
 unfold QmB
 refine T1 (fun hc1=>?_) (fun hc1=>?_)
 ·refine T0 (Qxu c1.Lo c1.Hi ) (fun x_2 hv3=>?_)
  exact T3
 refine T1 (fun hc4=>?_) (fun hc4=>?_)
 ·refine T0 (Qwx c1.Names (h_c1.2.2.2.2.1)) (fun x_5 hv6=>?_)
  refine T1 (fun hc7=>?_) (fun hc7=>?_)
  ·exact T3
  unfold QdA
  exact T3
 refine T1 (fun hc8=>?_) (fun hc8=>?_)
 ·refine T1 (fun hc9=>?_) (fun hc9=>?_)
  ·refine T0 (T4 (by(try simp only [Qx,QdP,Qc6,Qfk,QiC,Qz,Q0,beq_iff_eq,bne_iff_ne,ne_eq,Qpr,QqV,Qfm,Qnf,Qne,Qk5,QeY,Qex,Qm7,Qm8,QlM]at *);omega) (by(try simp only [Qx,QdP,Qc6,Qfk,QiC,Qz,Q0,beq_iff_eq,bne_iff_ne,ne_eq,Qpr,QqV,Qfm,Qnf,Qne,Qk5,QeY,Qex,Qm7,Qm8,QlM]at *);omega)) (fun e_10 hv11=>?_)
   refine T0 (T4 (by(try simp only [Qx,QdP,Qc6,Qfk,QiC,Qz,Q0,beq_iff_eq,bne_iff_ne,ne_eq,Qpr,QqV,Qfm,Qnf,Qne,Qk5,QeY,Qex,Qm7,Qm8,QlM]at *);omega) (by(try simp only [Qx,QdP,Qc6,Qfk,QiC,Qz,Q0,beq_iff_eq,bne_iff_ne,ne_eq,Qpr,QqV,Qfm,Qnf,Qne,Qk5,QeY,Qex,Qm7,Qm8,QlM]at *);omega)) (fun e_12 hv13=>?_)
   exact T3
  unfold QdA
  exact T3
 unfold QdA
 exact T3
theorem QqC (l1:(List QN))(h_l1:(QM QcB) l1):Qf (Qii l1) fun r=>((QM (fun _=>True)) r.1∧True)∧(r.2=true→r.1.length=l1.length∧∀x∈r.1,1≤x∧x≤1024):=by
 unfold Qii
 refine T1 (fun hc=>T2 ⟨⟨QM.nil,trivial⟩,fun h=>by cases h⟩) (fun hc=>?_)
 have hl:l1.length≤32:=by simp only [Q0]at hc;omega
 refine T0 (Qf.up l1.length (fun st=>st.1) (fun st=>(st.2.2.length:Int)=st.1∧∀x∈st.2.2,1≤x∧x≤1024) (Q:=fun q=>∀l,q=.inr l→l.length=l1.length∧∀x∈l,1≤x∧x≤1024) rfl ⟨rfl,fun x h=>(by cases h)⟩ (fun i st hi hn hj=>?_)) (fun q hq=>?_)
 ·obtain⟨x,m,l⟩:=st
  replace hi:x=(i:Int):=hi
  replace hj:(l.length:Int)=x∧∀x∈l,1≤x∧x≤1024:=hj
  obtain⟨hj,hj2⟩:=hj
  show Qf (Qh2 l1 x m l) _
  unfold Qh2
  refine T1 (fun hc2=>?_) (fun hc2=>?_)
  ·simp only [Qz]at hc2
   refine T0 (T4 (by omega) (by omega)) fun e he=>?_
   refine T0 (Qxv e l (h_l1.2 e he) ⟨by unfold maxLen;omega,fun _ _=>trivial⟩) fun y _=>?_
   refine T0 (P:=fun z=>z=false→1≤y∧y≤1024) ?_ fun z hz=>?_
   ·unfold Qpe
    refine T0 (QnQ e.Name (h_l1.2 e he).1) fun z _=>?_
    refine T1 (fun _=>T2 (fun h=>by cases h)) fun _=>T1 (fun _=>T2 (fun h=>by cases h)) fun _=>T1 (fun _=>T2 (fun h=>by cases h)) fun h1=>T2 fun h2=>?_
    simp only [Q0]at h1 h2
    omega
   unfold Qh1
   refine T1 (fun _=>T2 (Qn fun l h=>by cases h)) fun hz0=>?_
   refine T0 (T5 (by simp;omega)) fun _ _=>?_
   exact T2 (QA ⟨by omega,by subst hi;exact Qw (by omega) (by unfold maxLen;omega:l1.length≤maxLen),by simp only [Qfm,Qnf];subst hi;rw [Qw (show i<l1.length by omega) (by unfold maxLen;omega)];omega,fun u hu=>by
    rcases QcR.1 hu with hu | hu
    ·exact hj2 u hu
    simp at hu;subst hu;exact hz hz0⟩)
  simp only [Q0]at hc2
  exact T2 (Qn fun l' h=>by cases h;exact⟨by omega,hj2⟩)
 rcases q with q | q
 ·exact T2 ⟨⟨QM.nil,trivial⟩,fun h=>by cases h⟩
 have:=hq q rfl
 exact T2 ⟨⟨⟨by show q.length≤maxLen;unfold maxLen;omega,fun _ _=>trivial⟩,trivial⟩,fun _=>this⟩
theorem Qwy (l1:(List QN))(h_l1:(QM QcB) l1):Qf (Qlv l1) fun r=>True:=by
 unfold Qlv
 refine T0 (QqC l1 (h_l1)) (fun x_1 hv2=>?_)
 exact T3
theorem Qsx (v1:Qk)(v2:Int)(h_v1:QU v1)(hp0:0≤v2)(hp1:v2<v1.Colours.length):Qf (QgY v1 v2) fun r=>True:=by
 have hl:=h_v1.1.1
 unfold maxLen at hl
 unfold QgY
 rw [Q3 (show -9223372036854775808≤v2+1∧v2+1≤9223372036854775807 by omega)]
 refine T0 (T5 (by simp only [Qx,Qz];omega)) fun _ _=>?_
 exact T0 (Qwy _ ((h_v1.1.drop _).take _)) fun x _=>T3
def Qxw : List ByteArray:=(Qjj).getD []
set_option maxRecDepth 100000 in
theorem QDu : Qjj=some Qxw:=by kernel_rfl
set_option maxRecDepth 100000 in
theorem QAD : (decide (Qxw.length≤1000)&&Qxw.all fun s=>decide (s.size≤1000))=true:=by kernel_rfl
theorem Qxx : Qf (Qjj) fun r=>QM Qg7 r:=by
 have h:=QAD
 rw [Qx,decide_eq_true_iff,Qad]at h
 refine⟨Qxw,QDu,by unfold maxLen;omega,fun x hx=>?_⟩
 have:=h.2 x hx
 rw [decide_eq_true_iff]at this
 unfold Qg7 maxLen;omega
theorem QnR (s1:(List ByteArray))(v2:ByteArray)(h_s1:(QM Qg7) s1)(h_v2:Qg7 v2):Qf (Qda s1 v2) fun r=>True:=by
 unfold Qda
 refine T0 (Qf.up (s1.length) (fun st=>st) (fun _=>True) (Q:=fun q=>True) rfl trivial (fun i2 st hi3 hn4 hj5=>?_)) (fun q6 hq7=>?_)
 ·obtain⟨x_1,hst⟩:∃y,y=st:=⟨_,rfl⟩
  subst hst
  replace hi3:x_1=(i2:Int):=hi3
  show Qf (Qcu s1 v2 x_1) _
  unfold Qcu
  refine T1 (fun hc8=>?_) (fun hc8=>?_)
  ·refine T0 (T4 (by omega) (by simp_all)) (fun e_9 hv10=>?_)
   refine T1 (fun hc11=>?_) (fun hc11=>?_)
   ·exact T2 (Qn trivial)
   exact T2 (QA ⟨(by simp_all),by subst hi3;exact Qw (by simp_all) (h_s1).1,trivial⟩)
  exact T2 (Qn trivial)
 rcases q6 with q6 | q6
 ·show Qf (Qcv q6) _
  unfold Qcv
  exact T3
 show Qf (Qcw) _
 unfold Qcw
 exact T3
theorem Qmp (s1:(List ByteArray))(v2:ByteArray)(h_s1:(QM Qg7) s1)(h_v2:Qg7 v2):Qf (Qcx s1 v2) fun r=>True:=by
 unfold Qcx
 refine T0 (QnR s1 v2 (h_s1) (h_v2)) (fun x_1 hv2=>?_)
 exact T3
theorem Qyi (s1:ByteArray)(h_s1:Qg7 s1):Qf (Qnv s1) fun r=>True:=by
 unfold Qnv
 refine T0 (Qxx  ) (fun x_1 hv2=>?_)
 refine T0 (Qmp x_1 s1 (hv2) (h_s1)) (fun x_3 hv4=>?_)
 exact T3
theorem Qiu (s1:ByteArray)(h_s1:Qg7 s1):Qf (Qfd s1) fun r=>True:=by
 unfold Qfd
 refine T0 (P:=fun _=>True) ?_ (fun x_1 hv2=>?_)
 ·unfold Qrk
  refine T0 (QnQ s1 (h_s1)) (fun x_3 hv4=>?_)
  refine T1 (fun hc5=>?_) (fun hc5=>?_)
  ·refine T0 (Qyi s1 (h_s1)) (fun x_6 hv7=>?_)
   exact T3
  exact T3
 unfold Qj0
 exact T3
theorem QqP (s1:ByteArray)(h_s1:Qg7 s1):Qf (Qft s1) fun r=>True:=by
 unfold Qft
 refine T0 (Qiu s1 (h_s1)) (fun x_1 hv2=>?_)
 exact T3
theorem Ql0 (s1:(List ByteArray))(h_s1:(QM Qg7) s1):Qf (Qck s1) fun r=>True:=by
 unfold Qck
 refine T0 (Qf.up (s1.length) (fun st=>st) (fun _=>True) (Q:=fun q=>True) rfl trivial (fun i2 st hi3 hn4 hj5=>?_)) (fun q6 hq7=>?_)
 ·obtain⟨x_1,hst⟩:∃y,y=st:=⟨_,rfl⟩
  subst hst
  replace hi3:x_1=(i2:Int):=hi3
  show Qf (QbG s1 x_1) _
  unfold QbG
  refine T1 (fun hc8=>?_) (fun hc8=>?_)
  ·refine T0 (T4 (by omega) (by simp_all)) (fun e_9 hv10=>?_)
   refine T0 (QqP e_9 (((h_s1).2 e_9 hv10))) (fun x_11 hv12=>?_)
   refine T1 (fun hc13=>?_) (fun hc13=>?_)
   ·exact T2 (Qn trivial)
   exact T2 (QA ⟨(by simp_all),by subst hi3;exact Qw (by simp_all) (h_s1).1,trivial⟩)
  exact T2 (Qn trivial)
 rcases q6 with q6 | q6
 ·show Qf (QbH q6) _
  unfold QbH
  exact T3
 show Qf (QbI) _
 unfold QbI
 exact T3
theorem Qks (s1:(List ByteArray))(h_s1:(QM Qg7) s1):Qf (QbJ s1) fun r=>True:=by
 unfold QbJ
 refine T0 (Ql0 s1 (h_s1)) (fun x_1 hv2=>?_)
 exact T3
theorem Qsy (v1:QN)(h_v1:QcB v1):Qf (QgZ v1) fun r=>True:=by
 unfold QgZ
 refine T0 (P:=fun _=>True) ?_ (fun x_1 hv2=>?_)
 ·unfold Qmb
  refine T0 (Qiu v1.Name (h_v1.1)) (fun x_3 hv4=>?_)
  refine T1 (fun hc5=>?_) (fun hc5=>?_)
  ·refine T1 (fun hc6=>?_) (fun hc6=>?_)
   ·exact T3
   refine T0 (Qks v1.Names (h_v1.2.2.2.2.1)) (fun x_7 hv8=>?_)
   exact T3
  exact T3
 unfold Qe2
 exact T3
theorem QuT (v1:Qk)(v2:Int)(v3:Int)(v4:QN)(v5:Int)(h_v1:QU v1)(h_v4:QcB v4)(hp0:0≤v2)(hp1:v2<v1.Colours.length):Qf (QiU v1 v2 v3 v4 v5) fun r=>True:=by
 unfold QiU
 refine T0 (Qsx v1 v2 (h_v1) (by omega) (by omega)) (fun x_1 hv2=>?_)
 refine T1 (fun hc3=>?_) (fun hc3=>?_)
 ·exact T3
 refine T0 (Qsy v4 (h_v4)) (fun x_4 hv5=>?_)
 refine T1 (fun hc6=>?_) (fun hc6=>?_)
 ·exact T3
 exact T3
theorem Qt3 (k1:Int)(c2:QN)(v3:Qk)(h_c2:QcB c2)(h_v3:QU v3)(hp0:0≤k1)(hp1:k1<v3.Colours.length):Qf (Qh3 k1 c2 v3) fun r=>True:=by
 unfold Qh3
 refine T0 (QuT v3 k1 8 c2 8 (h_v3) (h_c2) (by omega) (by omega)) (fun x_1 hv2=>?_)
 exact T3
theorem QpK (l1:(List QN))(v2:Qk)(h_l1:(QM QcB) l1)(h_v2:QU v2)(hp0:l1.length≤v2.Colours.length):Qf (QeC l1 v2) fun r=>True:=by
 unfold QeC
 refine T0 (Qf.up (l1.length) (fun st=>st) (fun _=>True) (Q:=fun q=>True) rfl trivial (fun i2 st hi3 hn4 hj5=>?_)) (fun q6 hq7=>?_)
 ·obtain⟨x_1,hst⟩:∃y,y=st:=⟨_,rfl⟩
  subst hst
  replace hi3:x_1=(i2:Int):=hi3
  show Qf (Qdt l1 v2 x_1) _
  unfold Qdt
  refine T1 (fun hc8=>?_) (fun hc8=>?_)
  ·refine T0 (T4 (by omega) (by simp_all)) (fun e_9 hv10=>?_)
   refine T0 (Qt3 x_1 e_9 v2 (((h_l1).2 e_9 hv10)) (h_v2) (by omega) (by simp_all;omega)) (fun x_11 hv12=>?_)
   refine T1 (fun hc13=>?_) (fun hc13=>?_)
   ·exact T2 (Qn trivial)
   exact T2 (QA ⟨(by simp_all),by subst hi3;exact Qw (by simp_all) (h_l1).1,trivial⟩)
  exact T2 (Qn trivial)
 rcases q6 with q6 | q6
 ·show Qf (Qdu q6.1 q6.2) _
  unfold Qdu
  exact T3
 show Qf (Qdv) _
 unfold Qdv
 exact T3
theorem Qpo (n1:Qk)(h_n1:QU n1):Qf (Qhs n1) fun r=>True:=by
 unfold Qhs
 refine T0 (QpK n1.Colours n1 (h_n1.1) (h_n1) (by omega)) (fun x_1 hv2=>?_)
 exact T3
theorem QvP (v1:QX)(h_v1:Qdf v1):Qf (Qj1 v1) fun r=>True:=by
 unfold Qj1
 refine T0 (Qiu v1.Name (h_v1.1)) (fun x_1 hv2=>?_)
 exact T3
theorem QvQ (p1:QX)(v2:QX)(h_p1:Qdf p1)(h_v2:Qdf v2):Qf (Qj2 p1 v2) fun r=>True:=by
 unfold Qj2
 exact T3
theorem Qjb (s1:(List QX))(v2:QX)(h_s1:(QM Qdf) s1)(h_v2:Qdf v2):Qf (Qbn s1 v2) fun r=>True:=by
 unfold Qbn
 refine T0 (Qf.up (s1.length) (fun st=>st) (fun _=>True) (Q:=fun q=>True) rfl trivial (fun i2 st hi3 hn4 hj5=>?_)) (fun q6 hq7=>?_)
 ·obtain⟨x_1,hst⟩:∃y,y=st:=⟨_,rfl⟩
  subst hst
  replace hi3:x_1=(i2:Int):=hi3
  show Qf (Qa4 s1 v2 x_1) _
  unfold Qa4
  refine T1 (fun hc8=>?_) (fun hc8=>?_)
  ·refine T0 (T4 (by omega) (by simp_all)) (fun e_9 hv10=>?_)
   refine T0 (QvQ e_9 v2 (((h_s1).2 e_9 hv10)) (h_v2)) (fun x_11 hv12=>?_)
   refine T1 (fun hc13=>?_) (fun hc13=>?_)
   ·exact T2 (Qn trivial)
   exact T2 (QA ⟨(by simp_all),by subst hi3;exact Qw (by simp_all) (h_s1).1,trivial⟩)
  exact T2 (Qn trivial)
 rcases q6 with q6 | q6
 ·show Qf (Qa5 q6) _
  unfold Qa5
  exact T3
 show Qf (Qa6) _
 unfold Qa6
 exact T3
theorem QhS (s1:(List QX))(v2:QX)(h_s1:(QM Qdf) s1)(h_v2:Qdf v2):Qf (Qa7 s1 v2) fun r=>True:=by
 unfold Qa7
 refine T0 (Qjb s1 v2 (h_s1) (h_v2)) (fun x_1 hv2=>?_)
 exact T3
theorem QvR (v1:Qk)(v2:Int)(v3:QX)(h_v1:QU v1)(h_v3:Qdf v3)(hp0:0≤v2)(hp1:v2<v1.Places.length):Qf (Qj3 v1 v2 v3) fun r=>True:=by
 unfold Qj3
 refine T0 (T5 (by simp_all;omega)) (fun _ _=>?_)
 refine T0 (QhS ((v1.Places.drop 0).take (v2.toNat-0)) v3 (((h_v1.2.1).drop _).take _) (h_v3)) (fun x_1 hv2=>?_)
 exact T3
theorem Qjr (l1:(List QN))(k2:Int)(h_l1:(QM QcB) l1):Qf (QcY l1 k2) fun r=>True:=by
 unfold QcY
 exact T3
theorem QvS (v1:Qk)(v2:QX)(h_v1:QU v1)(h_v2:Qdf v2):Qf (Qj4 v1 v2) fun r=>True:=by
 unfold Qj4
 refine T0 (Qjr v1.Colours v2.Colour (h_v1.1)) (fun x_1 hv2=>?_)
 exact T3
theorem Qy8 (b1:(List (Int×Int)))(h_b1:(QM (fun _=>True)) b1):Qf (Qf7 b1) fun r=>True:=by
 unfold Qf7
 refine T0 (Qf.up (b1.length) (fun st=>st.2) (fun _=>True) (Q:=fun q=>True) rfl trivial (fun i3 st hi4 hn5 hj6=>?_)) (fun q7 hq8=>?_)
 ·obtain⟨last_1,x_2⟩:=st
  replace hi4:x_2=(i3:Int):=hi4
  show Qf (Qc9 b1 last_1 x_2) _
  unfold Qc9
  refine T1 (fun hc9=>?_) (fun hc9=>?_)
  ·refine T0 (T4 (by omega) (by simp_all)) (fun e_10 hv11=>?_)
   refine T1 (fun hc12=>?_) (fun hc12=>?_)
   ·exact T2 (Qn trivial)
   exact T2 (QA ⟨(by simp_all),by subst hi4;exact Qw (by simp_all) (h_b1).1,trivial⟩)
  exact T2 (Qn trivial)
 rcases q7 with q7 | q7
 ·show Qf (Qlg) _
  unfold Qlg
  exact T3
 show Qf (Qlh) _
 unfold Qlh
 exact T3
theorem QvT (v1:QX)(h_v1:Qdf v1):Qf (Qj5 v1) fun r=>True:=by
 unfold Qj5
 refine T0 (Qy8 v1.First (h_v1.2.2)) (fun x_1 hv2=>?_)
 exact T3
theorem Qjs (l1:(List QN))(k2:Int)(h_l1:(QM QcB) l1):Qf (Qf9 l1 k2) fun r=>(True∧Qy7 r.2)∧(r.1=true→(0≤k2∧k2<r.2.sizes.length)∧r.2.k=k2∧r.2.all.length=r.2.sizes.length∧∀x∈r.2.sizes,1≤x∧x≤1024):=by
 unfold Qf9
 refine T0 (QqC l1 h_l1) fun x hx=>?_
 refine T1 (fun _=>T2 ⟨⟨trivial,QM.nil,QM.nil,trivial⟩,fun h=>by cases h⟩) fun hc=>?_
 simp only [Qc6,QiC,Q0]at hc
 have:=hx.2 hc.1
 exact T2 ⟨⟨trivial,h_l1,hx.1.1,trivial⟩,fun _=>⟨⟨by omega,by show k2<(x.1.length:Int);omega⟩,rfl,this.1.symm,this.2⟩⟩
theorem Qko (l1:(List QN))(k2:Int)(h_l1:(QM QcB) l1):Qf (Qbe l1 k2) fun r=>0≤r∧r≤1024:=by
 unfold Qbe
 refine T0 (Qjs l1 k2 h_l1) (fun x hx=>?_)
 refine T1 (fun hc=>T2 (by omega)) (fun hc=>?_)
 have h:=hx.2 (by simpa using hc)
 exact T0 (T4 (by omega) (by omega)) fun e he=>T2 (by have:=h.2.2.2 e he;omega)
theorem Qt4 (row1:(Int×Int))(v2:Int)  : Qf (Qh4 row1 v2) fun r=>True:=by
 unfold Qh4
 exact T3
theorem Ql1 (s1:(List (Int×Int)))(v2:Int)(h_s1:(QM (fun _=>True)) s1):Qf (Qcl s1 v2) fun r=>True:=by
 unfold Qcl
 refine T0 (Qf.up (s1.length) (fun st=>st) (fun _=>True) (Q:=fun q=>True) rfl trivial (fun i2 st hi3 hn4 hj5=>?_)) (fun q6 hq7=>?_)
 ·obtain⟨x_1,hst⟩:∃y,y=st:=⟨_,rfl⟩
  subst hst
  replace hi3:x_1=(i2:Int):=hi3
  show Qf (QbK s1 v2 x_1) _
  unfold QbK
  refine T1 (fun hc8=>?_) (fun hc8=>?_)
  ·refine T0 (T4 (by omega) (by simp_all)) (fun e_9 hv10=>?_)
   refine T0 (Qt4 e_9 v2 ) (fun x_11 hv12=>?_)
   refine T1 (fun hc13=>?_) (fun hc13=>?_)
   ·exact T2 (Qn trivial)
   exact T2 (QA ⟨(by simp_all),by subst hi3;exact Qw (by simp_all) (h_s1).1,trivial⟩)
  exact T2 (Qn trivial)
 rcases q6 with q6 | q6
 ·show Qf (QbL q6) _
  unfold QbL
  exact T3
 show Qf (QbM) _
 unfold QbM
 exact T3
theorem Qkt (s1:(List (Int×Int)))(v2:Int)(h_s1:(QM (fun _=>True)) s1):Qf (QbN s1 v2) fun r=>True:=by
 unfold QbN
 refine T0 (Ql1 s1 v2 (h_s1)) (fun x_1 hv2=>?_)
 exact T3
theorem QvU (v1:Qk)(v2:QX)(h_v1:QU v1)(h_v2:Qdf v2):Qf (Qj6 v1 v2) fun r=>True:=by
 unfold Qj6
 refine T0 (Qko v1.Colours v2.Colour (h_v1.1)) (fun x_1 hv2=>?_)
 refine T0 (Qkt v2.First x_1 (h_v2.2.2)) (fun x_3 hv4=>?_)
 exact T3
theorem QuU (v1:QX)(v2:Int)(v3:Qk)(v4:Int)(v5:Int)(v6:Int)(v7:Int)(v8:Int)(h_v1:Qdf v1)(h_v3:QU v3)(hp0:0≤v4)(hp1:v4<v3.Places.length):Qf (QiW v1 v2 v3 v4 v5 v6 v7 v8) fun r=>True:=by
 unfold QiW
 refine T0 (QvP v1 (h_v1)) (fun x_1 hv2=>?_)
 refine T1 (fun hc3=>?_) (fun hc3=>?_)
 ·exact T3
 refine T0 (QvR v3 v4 v1 (h_v3) (h_v1) (by omega) (by omega)) (fun x_4 hv5=>?_)
 refine T1 (fun hc6=>?_) (fun hc6=>?_)
 ·exact T3
 refine T0 (QvS v3 v1 (h_v3) (h_v1)) (fun x_7 hv8=>?_)
 refine T1 (fun hc9=>?_) (fun hc9=>?_)
 ·exact T3
 refine T0 (QvT v1 (h_v1)) (fun x_10 hv11=>?_)
 refine T1 (fun hc12=>?_) (fun hc12=>?_)
 ·exact T3
 refine T0 (QvU v3 v1 (h_v3) (h_v1)) (fun x_13 hv14=>?_)
 refine T1 (fun hc15=>?_) (fun hc15=>?_)
 ·exact T3
 exact T3
theorem Qxy (n1:Qk)(k2:Int)(h_n1:QU n1):Qf (QmC n1 k2) fun r=>True:=by
 unfold QmC
 refine T0 (QcN n1.Places k2 (h_n1.2.1)) (fun x_1 hv2=>?_)
 refine T1 (fun hc3=>?_) (fun hc3=>?_)
 ·exact T3
 refine T0 (T4 (by simp_all) (by simp_all)) (fun e_4 hv5=>?_)
 refine T0 (QuU e_4 1 n1 k2 5 3 1 8 (((h_n1.2.1).2 e_4 hv5)) (h_n1) (by simp_all) (by simp_all)) (fun x_6 hv7=>?_)
 exact T3
theorem Qxz (k1:Int)(p2:QX)(v3:Qk)(h_p2:Qdf p2)(h_v3:QU v3):Qf (QmD k1 p2 v3) fun r=>True:=by
 unfold QmD
 refine T0 (Qxy v3 k1 (h_v3)) (fun x_1 hv2=>?_)
 exact T3
theorem QqD (l1:(List QX))(v2:Qk)(h_l1:(QM Qdf) l1)(h_v2:QU v2):Qf (Qe3 l1 v2) fun r=>True:=by
 unfold Qe3
 refine T0 (Qf.up (l1.length) (fun st=>st) (fun _=>True) (Q:=fun q=>True) rfl trivial (fun i2 st hi3 hn4 hj5=>?_)) (fun q6 hq7=>?_)
 ·obtain⟨x_1,hst⟩:∃y,y=st:=⟨_,rfl⟩
  subst hst
  replace hi3:x_1=(i2:Int):=hi3
  show Qf (QdS l1 v2 x_1) _
  unfold QdS
  refine T1 (fun hc8=>?_) (fun hc8=>?_)
  ·refine T0 (T4 (by omega) (by simp_all)) (fun e_9 hv10=>?_)
   refine T0 (Qxz x_1 e_9 v2 (((h_l1).2 e_9 hv10)) (h_v2)) (fun x_11 hv12=>?_)
   refine T1 (fun hc13=>?_) (fun hc13=>?_)
   ·exact T2 (Qn trivial)
   exact T2 (QA ⟨(by simp_all),by subst hi3;exact Qw (by simp_all) (h_l1).1,trivial⟩)
  exact T2 (Qn trivial)
 rcases q6 with q6 | q6
 ·show Qf (QdT q6.1 q6.2) _
  unfold QdT
  exact T3
 show Qf (QdU) _
 unfold QdU
 exact T3
theorem QkY (l1:(List Qy))(k2:Int)(h_l1:(QM QaR) l1):Qf (Qdo l1 k2) fun r=>r=true→0≤k2∧k2<l1.length:=by
 unfold Qdo
 exact T2 (by first | (intro hr;first | (cases hr;done) | omega | ((try simp only [Qx,QdP,Qc6,Qfk,QiC,Qz,Q0,beq_iff_eq,bne_iff_ne,ne_eq,Qpr,QqV,Qfm,Qnf,Qne,Qk5,QeY,Qex,Qm7,Qm8,QlM]at *);omega)) | ((try simp only [Qx,QdP,Qc6,Qfk,QiC,Qz,Q0,beq_iff_eq,bne_iff_ne,ne_eq,Qpr,QqV,Qfm,Qnf,Qne,Qk5,QeY,Qex,Qm7,Qm8,QlM]at *);omega) | simp_all)
theorem QxA (v1:Int)(v2:Qk)(v3:Qy)(h_v2:QU v2)(h_v3:QaR v3):Qf (QmE v1 v2 v3) fun r=>True:=by
 unfold QmE
 exact T3
theorem QuV (v1:Int)(v2:Qk)(v3:Qy)(v4:Int)(h_v2:QU v2)(h_v3:QaR v3):Qf (QiX v1 v2 v3 v4) fun r=>True:=by
 unfold QiX
 exact T3
theorem QuW (v1:Int)(v2:Qk)(v3:Qy)(v4:Int)(h_v2:QU v2)(h_v3:QaR v3):Qf (QiY v1 v2 v3 v4) fun r=>True:=by
 unfold QiY
 exact T3
theorem QuX (v1:Int)(v2:Qk)(v3:Qy)(h_v2:QU v2)(h_v3:QaR v3):Qf (QiZ v1 v2 v3) fun r=>True:=by
 unfold QiZ
 exact T3
theorem Qwz (v1:Qy)(h_v1:QaR v1):Qf (Qly v1) fun r=>True:=by
 unfold Qly
 refine T0 (Qiu v1.Name (h_v1.1)) (fun x_1 hv2=>?_)
 exact T3
theorem QwA (p1:Qy)(v2:Qy)(h_p1:QaR p1)(h_v2:QaR v2):Qf (Qlz p1 v2) fun r=>True:=by
 unfold Qlz
 exact T3
theorem QjG (s1:(List Qy))(v2:Qy)(h_s1:(QM QaR) s1)(h_v2:QaR v2):Qf (QbD s1 v2) fun r=>True:=by
 unfold QbD
 refine T0 (Qf.up (s1.length) (fun st=>st) (fun _=>True) (Q:=fun q=>True) rfl trivial (fun i2 st hi3 hn4 hj5=>?_)) (fun q6 hq7=>?_)
 ·obtain⟨x_1,hst⟩:∃y,y=st:=⟨_,rfl⟩
  subst hst
  replace hi3:x_1=(i2:Int):=hi3
  show Qf (Qbf s1 v2 x_1) _
  unfold Qbf
  refine T1 (fun hc8=>?_) (fun hc8=>?_)
  ·refine T0 (T4 (by omega) (by simp_all)) (fun e_9 hv10=>?_)
   refine T0 (QwA e_9 v2 (((h_s1).2 e_9 hv10)) (h_v2)) (fun x_11 hv12=>?_)
   refine T1 (fun hc13=>?_) (fun hc13=>?_)
   ·exact T2 (Qn trivial)
   exact T2 (QA ⟨(by simp_all),by subst hi3;exact Qw (by simp_all) (h_s1).1,trivial⟩)
  exact T2 (Qn trivial)
 rcases q6 with q6 | q6
 ·show Qf (Qbg q6) _
  unfold Qbg
  exact T3
 show Qf (Qbh) _
 unfold Qbh
 exact T3
theorem Qix (s1:(List Qy))(v2:Qy)(h_s1:(QM QaR) s1)(h_v2:QaR v2):Qf (Qbi s1 v2) fun r=>True:=by
 unfold Qbi
 refine T0 (QjG s1 v2 (h_s1) (h_v2)) (fun x_1 hv2=>?_)
 exact T3
theorem QwB (v1:Qk)(v2:Int)(v3:Qy)(h_v1:QU v1)(h_v3:QaR v3)(hp0:0≤v2)(hp1:v2<v1.Tasks.length):Qf (QlA v1 v2 v3) fun r=>True:=by
 unfold QlA
 refine T0 (T5 (by simp_all;omega)) (fun _ _=>?_)
 refine T0 (Qix ((v1.Tasks.drop 0).take (v2.toNat-0)) v3 (((h_v1.2.2.1).drop _).take _) (h_v3)) (fun x_1 hv2=>?_)
 exact T3
theorem QwC (v1:Int)(v2:Qy)(h_v2:QaR v2):Qf (Qik v1 v2) fun r=>True:=by
 unfold Qik
 exact T3
theorem QqQ (v1:QaD)(h_v1:QeN v1):Qf (Qfu v1) fun r=>True:=by
 unfold Qfu
 refine T0 (Qiu v1.Name (h_v1.1)) (fun x_1 hv2=>?_)
 exact T3
theorem QqR (p1:QaD)(v2:QaD)(h_p1:QeN p1)(h_v2:QeN v2):Qf (Qfv p1 v2) fun r=>True:=by
 unfold Qfv
 exact T3
theorem QkZ (s1:(List QaD))(v2:QaD)(h_s1:(QM QeN) s1)(h_v2:QeN v2):Qf (QbX s1 v2) fun r=>True:=by
 unfold QbX
 refine T0 (Qf.up (s1.length) (fun st=>st) (fun _=>True) (Q:=fun q=>True) rfl trivial (fun i2 st hi3 hn4 hj5=>?_)) (fun q6 hq7=>?_)
 ·obtain⟨x_1,hst⟩:∃y,y=st:=⟨_,rfl⟩
  subst hst
  replace hi3:x_1=(i2:Int):=hi3
  show Qf (Qbt s1 v2 x_1) _
  unfold Qbt
  refine T1 (fun hc8=>?_) (fun hc8=>?_)
  ·refine T0 (T4 (by omega) (by simp_all)) (fun e_9 hv10=>?_)
   refine T0 (QqR e_9 v2 (((h_s1).2 e_9 hv10)) (h_v2)) (fun x_11 hv12=>?_)
   refine T1 (fun hc13=>?_) (fun hc13=>?_)
   ·exact T2 (Qn trivial)
   exact T2 (QA ⟨(by simp_all),by subst hi3;exact Qw (by simp_all) (h_s1).1,trivial⟩)
  exact T2 (Qn trivial)
 rcases q6 with q6 | q6
 ·show Qf (Qbu q6) _
  unfold Qbu
  exact T3
 show Qf (Qbv) _
 unfold Qbv
 exact T3
theorem Qjt (s1:(List QaD))(v2:QaD)(h_s1:(QM QeN) s1)(h_v2:QeN v2):Qf (Qbw s1 v2) fun r=>True:=by
 unfold Qbw
 refine T0 (QkZ s1 v2 (h_s1) (h_v2)) (fun x_1 hv2=>?_)
 exact T3
theorem QqS (v1:(List QaD))(v2:Int)(v3:QaD)(h_v1:(QM QeN) v1)(h_v3:QeN v3)(hp0:0≤v2)(hp1:v2<v1.length):Qf (Qfw v1 v2 v3) fun r=>True:=by
 unfold Qfw
 refine T0 (T5 (by simp_all;omega)) (fun _ _=>?_)
 refine T0 (Qjt ((v1.drop 0).take (v2.toNat-0)) v3 (((h_v1).drop _).take _) (h_v3)) (fun x_1 hv2=>?_)
 exact T3
theorem QqT (v1:Qk)(v2:QaD)(h_v1:QU v1)(h_v2:QeN v2):Qf (Qfx v1 v2) fun r=>True:=by
 unfold Qfx
 refine T0 (Qjr v1.Colours v2.Colour (h_v1.1)) (fun x_1 hv2=>?_)
 exact T3
theorem QuY (v1:QaD)(v2:Int)(v3:(List QaD))(v4:Int)(v5:Int)(v6:Qk)(v7:Int)(h_v1:QeN v1)(h_v3:(QM QeN) v3)(h_v6:QU v6)(hp0:0≤v4)(hp1:v4<v3.length):Qf (Qi1 v1 v2 v3 v4 v5 v6 v7) fun r=>True:=by
 unfold Qi1
 refine T0 (QqQ v1 (h_v1)) (fun x_1 hv2=>?_)
 refine T1 (fun hc3=>?_) (fun hc3=>?_)
 ·exact T3
 refine T0 (QqS v3 v4 v1 (h_v3) (h_v1) (by omega) (by omega)) (fun x_4 hv5=>?_)
 refine T1 (fun hc6=>?_) (fun hc6=>?_)
 ·exact T3
 refine T0 (QqT v6 v1 (h_v6) (h_v1)) (fun x_7 hv8=>?_)
 refine T1 (fun hc9=>?_) (fun hc9=>?_)
 ·exact T3
 exact T3
theorem Qsz (k1:Int)(v2:QaD)(v3:(List QaD))(v4:Qk)(h_v2:QeN v2)(h_v3:(QM QeN) v3)(h_v4:QU v4)(hp0:0≤k1)(hp1:k1<v3.length):Qf (Qg0 k1 v2 v3 v4) fun r=>True:=by
 unfold Qg0
 refine T0 (QuY v2 1 v3 k1 5 v4 3 (h_v2) (h_v3) (h_v4) (by omega) (by omega)) (fun x_1 hv2=>?_)
 exact T3
theorem Qr0 (l1:(List QaD))(v2:(List QaD))(v3:Qk)(h_l1:(QM QeN) l1)(h_v2:(QM QeN) v2)(h_v3:QU v3)(hp0:l1.length≤v2.length):Qf (QfX l1 v2 v3) fun r=>True:=by
 unfold QfX
 refine T0 (Qf.up (l1.length) (fun st=>st) (fun _=>True) (Q:=fun q=>True) rfl trivial (fun i2 st hi3 hn4 hj5=>?_)) (fun q6 hq7=>?_)
 ·obtain⟨x_1,hst⟩:∃y,y=st:=⟨_,rfl⟩
  subst hst
  replace hi3:x_1=(i2:Int):=hi3
  show Qf (QeD l1 v2 v3 x_1) _
  unfold QeD
  refine T1 (fun hc8=>?_) (fun hc8=>?_)
  ·refine T0 (T4 (by omega) (by simp_all)) (fun e_9 hv10=>?_)
   refine T0 (Qsz x_1 e_9 v2 v3 (((h_l1).2 e_9 hv10)) (h_v2) (h_v3) (by omega) (by simp_all;omega)) (fun x_11 hv12=>?_)
   refine T1 (fun hc13=>?_) (fun hc13=>?_)
   ·exact T2 (Qn trivial)
   exact T2 (QA ⟨(by simp_all),by subst hi3;exact Qw (by simp_all) (h_l1).1,trivial⟩)
  exact T2 (Qn trivial)
 rcases q6 with q6 | q6
 ·show Qf (QeE q6.1 q6.2) _
  unfold QeE
  exact T3
 show Qf (QeF) _
 unfold QeF
 exact T3
theorem Qt5 (n1:Qk)(l2:(List QaD))(h_n1:QU n1)(h_l2:(QM QeN) l2):Qf (Qh5 n1 l2) fun r=>True:=by
 unfold Qh5
 refine T0 (Qr0 l2 l2 n1 (h_l2) (h_l2) (h_n1) (by omega)) (fun x_1 hv2=>?_)
 exact T3
theorem QwD (v1:Qk)(v2:Qy)(h_v1:QU v1)(h_v2:QaR v2):Qf (QlB v1 v2) fun r=>True:=by
 unfold QlB
 refine T0 (Qt5 v1 v2.Vars (h_v1) (h_v2.2.1)) (fun x_1 hv2=>?_)
 exact T3
theorem QvV (v1:Qk)(v2:Qy)(v3:Int)(h_v1:QU v1)(h_v2:QaR v2):Qf (Qj8 v1 v2 v3) fun r=>True:=by
 unfold Qj8
 refine T0 (QwD v1 v2 (h_v1) (h_v2)) (fun x_1 hv2=>?_)
 exact T3
theorem QrC (n1:Qk)(k2:Int)(h_n1:QU n1):Qf (Qjl n1 k2) fun r=>True:=by
 unfold Qjl
 refine T0 (QkY n1.Tasks k2 (h_n1.2.2.1)) (fun x_1 hv2=>?_)
 refine T1 (fun hc3=>?_) (fun hc3=>?_)
 ·exact T3
 refine T0 (T4 (by simp_all) (by simp_all)) (fun e_4 hv5=>?_)
 refine T0 (Qf.up (e_4.Vars.length) (fun st=>st.2) (fun _=>True) (Q:=fun q=>True) rfl trivial (fun i8 st hi9 hn10 hj11=>?_)) (fun q12 hq13=>?_)
 ·obtain⟨out_6,x_7⟩:=st
  replace hi9:x_7=(i8:Int):=hi9
  show Qf (Qi2 e_4 n1 out_6 x_7) _
  unfold Qi2
  refine T1 (fun hc14=>?_) (fun hc14=>?_)
  ·refine T0 (T4 (by omega) (by simp_all)) (fun e_15 hv16=>?_)
   refine T0 (Qko n1.Colours e_15.Colour (h_n1.1)) (fun x_17 hv18=>?_)
   refine T1 (fun hc19=>?_) (fun hc19=>?_)
   ·exact T2 (Qn trivial)
   exact T2 (QA ⟨(by simp_all),by subst hi9;exact Qw (by simp_all) (((h_n1.2.2.1).2 e_4 hv5).2.1).1,trivial⟩)
  exact T2 (Qn trivial)
 rcases q12 with q12 | q12
 ·show Qf (Qi3) _
  unfold Qi3
  exact T3
 show Qf (Qi4 q12) _
 unfold Qi4
 exact T3
theorem QwE (v1:Qk)(v2:Int)(h_v1:QU v1):Qf (QlC v1 v2) fun r=>True:=by
 unfold QlC
 refine T0 (QrC v1 v2 (h_v1)) (fun x_1 hv2=>?_)
 exact T3
theorem Qy9 (kind1:Int):Qf (Qov kind1) fun r=>0≤r→(kind1=1∨kind1=2∨kind1=3∨kind1=4∨kind1=5∨kind1=6)∧(kind1=3∨kind1=4→r=1)∧(kind1=5→r=2)∧(kind1=6→r=3):=by
 unfold Qov
 refine T1 (fun hc=>?_) (fun hc=>?_)
 ·unfold Qim;rw [hc]
  simp only [beq_iff_eq]at hc
  exact T2 (by omega)
 simp only [beq_eq_false_iff_ne]at hc
 unfold Qim
 refine T1 (fun hc=>T2 (by simp only [beq_iff_eq]at hc;omega)) (fun hc2=>?_)
 simp only [beq_eq_false_iff_ne]at hc2
 refine T1 (fun hc3=>?_) (fun hc3=>?_)
 ·unfold Qil;rw [hc3]
  simp only [beq_iff_eq]at hc3
  exact T2 (by omega)
 simp only [beq_eq_false_iff_ne]at hc3
 unfold Qil
 refine T1 (fun hc=>T2 (by simp only [beq_iff_eq]at hc;omega)) (fun hc4=>?_)
 simp only [beq_eq_false_iff_ne]at hc4
 refine T1 (fun hc=>T2 (by simp only [beq_iff_eq]at hc;omega)) (fun hc5=>?_)
 simp only [beq_eq_false_iff_ne]at hc5
 exact T1 (fun hc=>T2 (by simp only [beq_iff_eq]at hc;omega)) (fun hc6=>T2 (by omega))
theorem Qyj (op1:Int)  : Qf (Qnx op1) fun r=>True:=by
 unfold Qnx
 exact T3
theorem Qoh (rec_:Ql→Int→Option Bool)(s1:List Ql)(v2:Int)(h1:s1.length≤maxLen)(h:∀k∈s1,Qf (rec_ k v2) fun r=>r=true→POk v2 k):Qf (Qbk rec_ s1 v2) fun r=>r=false→∀k∈s1,POk v2 k:=by
 unfold Qbk QcZ
 refine T0 (P:=fun x=>x<0→∀k∈s1,POk v2 k) ?_ fun x hx=>T2 fun h=>hx (by simp only [Q0]at h;omega)
 refine T0 (Qf.up s1.length (fun st=>st) (fun st=>∀(j:Nat) k,(j:Int)<st→s1[j]? = some k→POk v2 k) (Q:=fun q=>(∀x,q=.inl x→0≤x)∧(q=.inr ()→∀k∈s1,POk v2 k)) rfl (fun j k hj=>by omega) (fun i st hi hn hj=>?_)) (fun q hq=>?_)
 ·show Qf (Qbj s1 rec_ v2 st) _
  unfold Qbj Qoc
  refine T1 (fun hc=>?_) (fun hc=>T2 (Qn ⟨fun x h=>(by cases h),fun _ k hk=>by
   obtain⟨j,hj1,hj2⟩:=Qk7.1 hk
   simp only [Q0]at hc
   exact hj j k (by omega) (by rw [QF hj1,hj2])⟩))
  simp only [Qz]at hc
  rw [Qm6 (by omega)]
  have hlt:st.toNat<s1.length:=by omega
  rw [QF hlt]
  refine T0 (P:=fun k=>k=s1[st.toNat]) (T2 rfl) fun k hk=>?_
  subst hk
  refine T0 (P:=fun r=>r=false→POk v2 s1[st.toNat]) (T0 (h _ (QaV hlt)) fun x hx=>T2 fun h=>hx (by simpa using h)) fun x hx=>?_
  refine T1 (fun _=>T2 (Qn ⟨fun x h=>(by cases h;omega),fun h=>(by cases h)⟩)) fun hxf=>T2 (QA ⟨by omega,by rw [hi];exact Qw (by omega) h1,?_⟩)
  rw [hi,Qw (show i<s1.length by omega) h1]
  intro j k hj' hk
  by_cases c:j=i
  ·subst c
   have e:st.toNat=j:=by omega
   have:=hx hxf
   rw [QF (by omega)]at hk
   cases hk
   simpa only [e] using this
  exact hj j k (by omega) hk
 rcases q with q | q
 ·exact T2 fun h=>absurd (hq.1 q rfl) (by omega)
 exact T2 fun _=>hq.2 rfl
theorem QqE : ∀(n:Nat) (e:Ql) (v:Int),QdO e→SizeOf.sizeOf e≤n→Qf (QeT n e v) fun r=>r=true→POk v e
 | 0,e,_,_,h=>absurd e.pos (by omega)
 | n+1,e,v,he,h=>by
  unfold QeT Qod
  refine T0 (Qy9 e.Kind) fun x hx=>?_
  refine T1 (fun _=>T2 fun h=>by cases h) fun h1=>T1 (fun _=>T2 fun h=>by cases h) fun h2=>?_
  refine T0 (P:=fun _=>True) ?_ fun y _=>?_
  ·unfold Qrl
   exact T1 (fun _=>T0 (Qyj e.Num) fun x _=>T3) fun _=>T3
  unfold Qka
  refine T1 (fun _=>T2 fun h=>by cases h) fun _=>?_
  refine T0 (Qoh (QeT n) e.Kids v (Qfi he).1 fun k hk=>QqE n k v ((Qfi he).2 k hk) (by have:=QuS hk;omega)) fun x hx2=>T2 fun hx3=>?_
  simp only [bne_eq_false_iff_eq]at h1
  have h3:=hx (by omega)
  simp only [Bool.and_eq_false_iff,Qc6,Q0,beq_eq_false_iff_ne]at h2
  exact .mk e h3.1 (fun hk=>by omega) (fun hk=>by have:=h3.2.1 hk;omega) (fun hk=>by have:=h3.2.2.1 hk;omega) (fun hk=>by have:=h3.2.2.2 hk;omega) (hx2 (by simpa using hx3))
theorem Qyk (e1:Ql)(vars2:Int)(h_e1:QdO e1):Qf (Qqq e1 vars2) fun r=>r=true→POk vars2 e1:=QqE _ e1 vars2 h_e1 (Qb4 _)
theorem QqF : ∀(n:Nat) (e:Ql),QdO e→SizeOf.sizeOf e≤n→Qf (QeS n e) fun _=>True
 | 0,e,_,h=>absurd e.pos (by omega)
 | n+1,e,he,h=>by
  unfold QeS Qoa
  refine T0 (Qf.up e.Kids.length (fun st=>st.2) (fun _=>True) (Q:=fun _=>True) rfl trivial (fun i st hi hn _=>?_)) (fun q _=>?_)
  ·obtain⟨a,x⟩:=st
   replace hi:x=(i:Int):=hi
   show Qf (Qj9 e (QeS n) a x) _
   unfold Qj9
   refine T1 (fun hc=>?_) (fun hc=>?_)
   ·simp only [Qz]at hc
    refine T0 (T4 (by omega) (by omega)) fun k hk=>?_
    have:=QuS hk
    refine T0 (QqF n k ((Qfi he).2 k hk) (by omega)) fun d _=>?_
    exact T2 (QA ⟨by omega,by subst hi;exact Qw (by omega) (Qfi he).1,trivial⟩)
   exact T2 (Qn trivial)
  unfold Qnw
  exact T3
theorem Qyl (e1:Ql)(h_e1:QdO e1):Qf (Qqo e1) fun _=>True:=QqF _ e1 h_e1 (Qb4 _)
theorem QrD : ∀(n:Nat) (e:Ql),QdO e→SizeOf.sizeOf e≤n→Qf (QfK n e) fun _=>True
 | 0,e,_,h=>absurd e.pos (by omega)
 | n+1,e,he,h=>by
  unfold QfK QoW
  refine T0 (Qf.up e.Kids.length (fun st=>st.2) (fun _=>True) (Q:=fun _=>True) rfl trivial (fun i st hi hn _=>?_)) (fun q _=>?_)
  ·obtain⟨a,x⟩:=st
   replace hi:x=(i:Int):=hi
   show Qf (QlD e (QfK n) a x) _
   unfold QlD
   refine T1 (fun hc=>?_) (fun hc=>?_)
   ·simp only [Qz]at hc
    refine T0 (T4 (by omega) (by omega)) fun k hk=>?_
    have:=QuS hk
    refine T0 (QrD n k ((Qfi he).2 k hk) (by omega)) fun d _=>?_
    exact T2 (QA ⟨by omega,by subst hi;exact Qw (by omega) (Qfi he).1,trivial⟩)
   exact T2 (Qn trivial)
  unfold Qob
  exact T3
theorem Qza (e1:Ql)(h_e1:QdO e1):Qf (QrV e1) fun _=>True:=QrD _ e1 h_e1 (Qb4 _)
theorem Qoi (e1:Ql)(vars2:Int)(h_e1:QdO e1):Qf (Qio e1 vars2) fun r=>r=true→POk vars2 e1:=by
 unfold Qio
 refine T0 (P:=fun r=>r=true→POk vars2 e1) ?_ (fun x hx=>T2 hx)
 unfold Qrm
 refine T0 (Qyl e1 h_e1) (fun x _=>?_)
 refine T1 (fun _=>?_) (fun _=>T2 fun h=>by cases h)
 refine T0 (Qza e1 h_e1) (fun x _=>?_)
 refine T1 (fun _=>?_) (fun _=>T2 fun h=>by cases h)
 exact T0 (Qyk e1 vars2 h_e1) (fun x hx=>T2 hx)
theorem QwF (v1:Qy)(v2:Int)(h_v1:QaR v1):Qf (QlE v1 v2) fun r=>True:=by
 unfold QlE
 refine T0 (P:=fun _=>True) ?_ (fun x_1 hv2=>?_)
 ·unfold Qpk
  refine T0 (Qoi v1.Guard v2 (h_v1.2.2.1)) (fun x_3 hv4=>?_)
  refine T1 (fun hc5=>?_) (fun hc5=>?_)
  ·refine T1 (fun hc6=>?_) (fun hc6=>?_)
   ·exact T3
   exact T3
  exact T3
 unfold Qh6
 exact T3
theorem QuZ (v1:Qk)(v2:QY)(h_v1:QU v1)(h_v2:Qjq v2):Qf (Qi5 v1 v2) fun r=>True:=by
 unfold Qi5
 refine T0 (QcN v1.Places v2.Place (h_v1.2.1)) (fun x_1 hv2=>?_)
 exact T3
theorem Qu0 (v1:QY)(v2:Int)(h_v1:Qjq v1):Qf (Qi6 v1 v2) fun r=>True:=by
 unfold Qi6
 refine T0 (Qoi v1.Expr v2 (h_v1.2)) (fun x_1 hv2=>?_)
 exact T3
theorem Qu1 (v1:Qk)(v2:QY)(v3:Int)(v4:Int)(v5:Int)(h_v1:QU v1)(h_v2:Qjq v2):Qf (Qi7 v1 v2 v3 v4 v5) fun r=>True:=by
 unfold Qi7
 refine T0 (QuZ v1 v2 (h_v1) (h_v2)) (fun x_1 hv2=>?_)
 refine T1 (fun hc3=>?_) (fun hc3=>?_)
 ·exact T3
 refine T0 (Qu0 v2 v4 (h_v2)) (fun x_4 hv5=>?_)
 refine T1 (fun hc6=>?_) (fun hc6=>?_)
 ·exact T3
 exact T3
theorem QwG (p1:Int)(a2:QY)(v3:Qk)(v4:Int)(h_a2:Qjq a2)(h_v3:QU v3):Qf (QlF p1 a2 v3 v4) fun r=>True:=by
 unfold QlF
 refine T0 (Qu1 v3 a2 3 v4 1 (h_v3) (h_a2)) (fun x_1 hv2=>?_)
 exact T3
theorem Qr1 (l1:(List QY))(v2:Qk)(v3:Int)(h_l1:(QM Qjq) l1)(h_v2:QU v2):Qf (QfY l1 v2 v3) fun r=>True:=by
 unfold QfY
 refine T0 (Qf.up (l1.length) (fun st=>st) (fun _=>True) (Q:=fun q=>True) rfl trivial (fun i2 st hi3 hn4 hj5=>?_)) (fun q6 hq7=>?_)
 ·obtain⟨x_1,hst⟩:∃y,y=st:=⟨_,rfl⟩
  subst hst
  replace hi3:x_1=(i2:Int):=hi3
  show Qf (QeG l1 v2 v3 x_1) _
  unfold QeG
  refine T1 (fun hc8=>?_) (fun hc8=>?_)
  ·refine T0 (T4 (by omega) (by simp_all)) (fun e_9 hv10=>?_)
   refine T0 (QwG x_1 e_9 v2 v3 (((h_l1).2 e_9 hv10)) (h_v2)) (fun x_11 hv12=>?_)
   refine T1 (fun hc13=>?_) (fun hc13=>?_)
   ·exact T2 (Qn trivial)
   exact T2 (QA ⟨(by simp_all),by subst hi3;exact Qw (by simp_all) (h_l1).1,trivial⟩)
  exact T2 (Qn trivial)
 rcases q6 with q6 | q6
 ·show Qf (QeH q6.1 q6.2) _
  unfold QeH
  exact T3
 show Qf (QeI) _
 unfold QeI
 exact T3
theorem QsA (n1:Qk)(l2:(List QY))(vars3:Int)(h_n1:QU n1)(h_l2:(QM Qjq) l2):Qf (QkO n1 l2 vars3) fun r=>True:=by
 unfold QkO
 refine T0 (Qr1 l2 n1 vars3 (h_l2) (h_n1)) (fun x_1 hv2=>?_)
 exact T3
theorem QwH (v1:Qk)(v2:Qy)(v3:Int)(h_v1:QU v1)(h_v2:QaR v2):Qf (QlG v1 v2 v3) fun r=>True:=by
 unfold QlG
 refine T0 (QsA v1 v2.Ins v3 (h_v1) (h_v2.2.2.2.2.2.1)) (fun x_1 hv2=>?_)
 exact T3
theorem Qtn (v1:Qk)(v2:Qy)(v3:Int)(v4:Int)(h_v1:QU v1)(h_v2:QaR v2):Qf (Qht v1 v2 v3 v4) fun r=>True:=by
 unfold Qht
 refine T0 (QwH v1 v2 v3 (h_v1) (h_v2)) (fun x_1 hv2=>?_)
 exact T3
theorem QwI (v1:Qk)(v2:Qy)(v3:Int)(h_v1:QU v1)(h_v2:QaR v2):Qf (QlH v1 v2 v3) fun r=>True:=by
 unfold QlH
 refine T0 (QsA v1 v2.Outs v3 (h_v1) (h_v2.2.2.2.2.2.2.1)) (fun x_1 hv2=>?_)
 exact T3
theorem Qto (v1:Qk)(v2:Qy)(v3:Int)(v4:Int)(h_v1:QU v1)(h_v2:QaR v2):Qf (Qhu v1 v2 v3 v4) fun r=>True:=by
 unfold Qhu
 refine T0 (QwI v1 v2 v3 (h_v1) (h_v2)) (fun x_1 hv2=>?_)
 exact T3
theorem QsB (v1:Qk)(v2:Int)(h_v1:QU v1):Qf (Qg1 v1 v2) fun r=>True:=by
 unfold Qg1
 refine T0 (QcN v1.Places v2 (h_v1.2.1)) (fun x_1 hv2=>?_)
 exact T3
theorem QqG (s1:(List Int))(v2:Int)(h_s1:(QM (fun _=>True)) s1):Qf (Qe4 s1 v2) fun r=>True:=by
 unfold Qe4
 refine T0 (Qf.up (s1.length) (fun st=>st) (fun _=>True) (Q:=fun q=>True) rfl trivial (fun i2 st hi3 hn4 hj5=>?_)) (fun q6 hq7=>?_)
 ·obtain⟨x_1,hst⟩:∃y,y=st:=⟨_,rfl⟩
  subst hst
  replace hi3:x_1=(i2:Int):=hi3
  show Qf (QdV s1 v2 x_1) _
  unfold QdV
  refine T1 (fun hc8=>?_) (fun hc8=>?_)
  ·refine T0 (T4 (by omega) (by simp_all)) (fun e_9 hv10=>?_)
   refine T1 (fun hc11=>?_) (fun hc11=>?_)
   ·exact T2 (Qn trivial)
   exact T2 (QA ⟨(by simp_all),by subst hi3;exact Qw (by simp_all) (h_s1).1,trivial⟩)
  exact T2 (Qn trivial)
 rcases q6 with q6 | q6
 ·show Qf (QdW q6) _
  unfold QdW
  exact T3
 show Qf (QdX) _
 unfold QdX
 exact T3
theorem QiB (s1:(List Int))(v2:Int)(h_s1:(QM (fun _=>True)) s1):Qf (QbO s1 v2) fun r=>True:=by
 unfold QbO
 refine T0 (QqG s1 v2 (h_s1)) (fun x_1 hv2=>?_)
 exact T3
theorem QsC (v1:(List Int))(v2:Int)(v3:Int)(h_v1:(QM (fun _=>True)) v1)(hp0:0≤v2)(hp1:v2<v1.length):Qf (Qg2 v1 v2 v3) fun r=>True:=by
 unfold Qg2
 refine T0 (T5 (by simp_all;omega)) (fun _ _=>?_)
 refine T0 (QiB ((v1.drop 0).take (v2.toNat-0)) v3 (((h_v1).drop _).take _)) (fun x_1 hv2=>?_)
 exact T3
theorem Qu2 (v1:Qk)(v2:Int)(v3:Int)(v4:(List Int))(v5:Int)(v6:Int)(h_v1:QU v1)(h_v4:(QM (fun _=>True)) v4)(hp0:0≤v5)(hp1:v5<v4.length):Qf (Qi8 v1 v2 v3 v4 v5 v6) fun r=>True:=by
 unfold Qi8
 refine T0 (QsB v1 v2 (h_v1)) (fun x_1 hv2=>?_)
 refine T1 (fun hc3=>?_) (fun hc3=>?_)
 ·exact T3
 refine T0 (QsC v4 v5 v2 (h_v4) (by omega) (by omega)) (fun x_4 hv5=>?_)
 refine T1 (fun hc6=>?_) (fun hc6=>?_)
 ·exact T3
 exact T3
theorem Qt6 (k1:Int)(place2:Int)(v3:Qk)(v4:(List Int))(h_v3:QU v3)(h_v4:(QM (fun _=>True)) v4)(hp0:0≤k1)(hp1:k1<v4.length):Qf (Qh7 k1 place2 v3 v4) fun r=>True:=by
 unfold Qh7
 refine T0 (Qu2 v3 place2 3 v4 k1 5 (h_v3) (h_v4) (by omega) (by omega)) (fun x_1 hv2=>?_)
 exact T3
theorem Qu3 (l1:(List Int))(v2:Qk)(v3:(List Int))(h_l1:(QM (fun _=>True)) l1)(h_v2:QU v2)(h_v3:(QM (fun _=>True)) v3)(hp0:l1.length≤v3.length):Qf (Qi9 l1 v2 v3) fun r=>True:=by
 unfold Qi9
 refine T0 (Qf.up (l1.length) (fun st=>st) (fun _=>True) (Q:=fun q=>True) rfl trivial (fun i2 st hi3 hn4 hj5=>?_)) (fun q6 hq7=>?_)
 ·obtain⟨x_1,hst⟩:∃y,y=st:=⟨_,rfl⟩
  subst hst
  replace hi3:x_1=(i2:Int):=hi3
  show Qf (Qg3 l1 v2 v3 x_1) _
  unfold Qg3
  refine T1 (fun hc8=>?_) (fun hc8=>?_)
  ·refine T0 (T4 (by omega) (by simp_all)) (fun e_9 hv10=>?_)
   refine T0 (Qt6 x_1 e_9 v2 v3 (h_v2) (h_v3) (by omega) (by simp_all;omega)) (fun x_11 hv12=>?_)
   refine T1 (fun hc13=>?_) (fun hc13=>?_)
   ·exact T2 (Qn trivial)
   exact T2 (QA ⟨(by simp_all),by subst hi3;exact Qw (by simp_all) (h_l1).1,trivial⟩)
  exact T2 (Qn trivial)
 rcases q6 with q6 | q6
 ·show Qf (Qg4 q6.1 q6.2) _
  unfold Qg4
  exact T3
 show Qf (Qg5) _
 unfold Qg5
 exact T3
theorem QvW (n1:Qk)(l2:(List Int))(h_n1:QU n1)(h_l2:(QM (fun _=>True)) l2):Qf (Qkb n1 l2) fun r=>True:=by
 unfold Qkb
 refine T0 (Qu3 l2 n1 l2 (h_l2) (h_n1) (h_l2) (by omega)) (fun x_1 hv2=>?_)
 exact T3
theorem QvX (v1:Qk)(v2:Qy)(h_v1:QU v1)(h_v2:QaR v2):Qf (Qkc v1 v2) fun r=>True:=by
 unfold Qkc
 refine T0 (QvW v1 v2.Cancel (h_v1) (h_v2.2.2.2.2.2.2.2.1)) (fun x_1 hv2=>?_)
 exact T3
theorem Qtp (v1:Qk)(v2:Qy)(v3:Int)(h_v1:QU v1)(h_v2:QaR v2):Qf (Qhv v1 v2 v3) fun r=>True:=by
 unfold Qhv
 refine T0 (QvX v1 v2 (h_v1) (h_v2)) (fun x_1 hv2=>?_)
 exact T3
theorem Qpp (k1:Int)(l2:(List QY))(h_l2:(QM Qjq) l2):Qf (Qfy k1 l2) fun r=>True:=by
 unfold Qfy
 exact T3
theorem QxB (t1:Qy)(h_t1:QaR t1):Qf (Qjn t1) fun r=>True:=by
 unfold Qjn
 refine T0 (P:=fun _=>True) ?_ (fun x_1 hv2=>?_)
 ·unfold Qqr
  refine T0 (Qpp t1.Join t1.Ins (h_t1.2.2.2.2.2.1)) (fun x_3 hv4=>?_)
  refine T1 (fun hc5=>?_) (fun hc5=>?_)
  ·refine T0 (Qpp t1.Split t1.Outs (h_t1.2.2.2.2.2.2.1)) (fun x_6 hv7=>?_)
   refine T1 (fun hc8=>?_) (fun hc8=>?_)
   ·refine T1 (fun hc9=>?_) (fun hc9=>?_)
    ·refine T1 (fun hc10=>?_) (fun hc10=>?_)
     ·exact T3
     exact T3
    exact T3
   exact T3
  exact T3
 unfold Qja
 exact T3
theorem QvY (v1:Qy)(h_v1:QaR v1):Qf (Qkd v1) fun r=>True:=by
 unfold Qkd
 refine T0 (QxB v1 (h_v1)) (fun x_1 hv2=>?_)
 exact T3
theorem Qu4 (v1:Qy)(v2:Int)(v3:Qk)(v4:Int)(v5:Int)(v6:Int)(v7:Int)(v8:Int)(v9:Int)(v10:Int)(v11:Int)(v12:Int)(v13:Int)(v14:Int)(v15:Int)(h_v1:QaR v1)(h_v3:QU v3)(hp0:0≤v4)(hp1:v4<v3.Tasks.length):Qf (QgM v1 v2 v3 v4 v5 v6 v7 v8 v9 v10 v11 v12 v13 v14 v15) fun r=>True:=by
 unfold QgM
 refine T0 (Qwz v1 (h_v1)) (fun x_1 hv2=>?_)
 refine T1 (fun hc3=>?_) (fun hc3=>?_)
 ·exact T3
 refine T0 (QwB v3 v4 v1 (h_v3) (h_v1) (by omega) (by omega)) (fun x_4 hv5=>?_)
 refine T1 (fun hc6=>?_) (fun hc6=>?_)
 ·exact T3
 refine T0 (QwC v6 v1 (h_v1)) (fun x_7 hv8=>?_)
 refine T1 (fun hc9=>?_) (fun hc9=>?_)
 ·exact T3
 refine T0 (QvV v3 v1 v8 (h_v3) (h_v1)) (fun x_10 hv11=>?_)
 refine T1 (fun hc12=>?_) (fun hc12=>?_)
 ·exact T3
 refine T0 (QwE v3 v4 (h_v3)) (fun x_13 hv14=>?_)
 refine T1 (fun hc15=>?_) (fun hc15=>?_)
 ·exact T3
 refine T0 (QwF v1 v6 (h_v1)) (fun x_16 hv17=>?_)
 refine T1 (fun hc18=>?_) (fun hc18=>?_)
 ·exact T3
 refine T0 (Qtn v3 v1 v6 x_10.2 (h_v3) (h_v1)) (fun x_19 hv20=>?_)
 refine T1 (fun hc21=>?_) (fun hc21=>?_)
 ·exact T3
 refine T0 (Qto v3 v1 v6 x_19.2 (h_v3) (h_v1)) (fun x_22 hv23=>?_)
 refine T1 (fun hc24=>?_) (fun hc24=>?_)
 ·exact T3
 refine T0 (Qtp v3 v1 x_22.2 (h_v3) (h_v1)) (fun x_25 hv26=>?_)
 refine T1 (fun hc27=>?_) (fun hc27=>?_)
 ·exact T3
 refine T0 (QvY v1 (h_v1)) (fun x_28 hv29=>?_)
 refine T1 (fun hc30=>?_) (fun hc30=>?_)
 ·exact T3
 exact T3
theorem QsD (n1:Qk)(k2:Int)(h_n1:QU n1):Qf (Qdp n1 k2) fun r=>True:=by
 unfold Qdp
 refine T0 (QkY n1.Tasks k2 (h_n1.2.2.1)) (fun x_1 hv2=>?_)
 refine T1 (fun hc3=>?_) (fun hc3=>?_)
 ·exact T3
 refine T0 (Qpo n1 (h_n1)) (fun x_4 hv5=>?_)
 refine T1 (fun hc6=>?_) (fun hc6=>?_)
 ·exact T3
 refine T0 (T4 (by simp_all) (by simp_all)) (fun e_7 hv8=>?_)
 refine T0 (T4 (by simp_all) (by simp_all)) (fun e_9 hv10=>?_)
 refine T0 (QxA 0 n1 e_7 (h_n1) (((h_n1.2.2.1).2 e_7 hv8))) (fun x_11 hv12=>?_)
 refine T0 (QuV 0 n1 e_7 (e_9.Vars.length:Int) (h_n1) (((h_n1.2.2.1).2 e_7 hv8))) (fun x_13 hv14=>?_)
 refine T0 (QuW 0 n1 e_7 (e_9.Vars.length:Int) (h_n1) (((h_n1.2.2.1).2 e_7 hv8))) (fun x_15 hv16=>?_)
 refine T0 (QuX 0 n1 e_7 (h_n1) (((h_n1.2.2.1).2 e_7 hv8))) (fun x_17 hv18=>?_)
 refine T0 (Qu4 e_7 1 n1 k2 5 (e_9.Vars.length:Int) 2 0 (-1) 2 1 (-1) (-1) (-1) 11 (((h_n1.2.2.1).2 e_7 hv8)) (h_n1) (by simp_all) (by simp_all)) (fun x_19 hv20=>?_)
 refine T1 (fun hc21=>?_) (fun hc21=>?_)
 ·exact T3
 exact T3
theorem QxC (k1:Int)(p2:Qy)(v3:Qk)(h_p2:QaR p2)(h_v3:QU v3):Qf (Qjo k1 p2 v3) fun r=>True:=by
 unfold Qjo
 refine T0 (QsD v3 k1 (h_v3)) (fun x_1 hv2=>?_)
 exact T3
theorem QqU (l1:(List Qy))(v2:Qk)(h_l1:(QM QaR) l1)(h_v2:QU v2):Qf (QcP l1 v2) fun r=>True:=by
 unfold QcP
 refine T0 (Qf.up (l1.length) (fun st=>st) (fun _=>True) (Q:=fun q=>True) rfl trivial (fun i2 st hi3 hn4 hj5=>?_)) (fun q6 hq7=>?_)
 ·obtain⟨x_1,hst⟩:∃y,y=st:=⟨_,rfl⟩
  subst hst
  replace hi3:x_1=(i2:Int):=hi3
  show Qf (Qb2 l1 v2 x_1) _
  unfold Qb2
  refine T1 (fun hc8=>?_) (fun hc8=>?_)
  ·refine T0 (T4 (by omega) (by simp_all)) (fun e_9 hv10=>?_)
   refine T0 (QxC x_1 e_9 v2 (((h_l1).2 e_9 hv10)) (h_v2)) (fun x_11 hv12=>?_)
   refine T1 (fun hc13=>?_) (fun hc13=>?_)
   ·exact T2 (Qn trivial)
   exact T2 (QA ⟨(by simp_all),by subst hi3;exact Qw (by simp_all) (h_l1).1,trivial⟩)
  exact T2 (Qn trivial)
 rcases q6 with q6 | q6
 ·show Qf (Qd7 q6.1 q6.2) _
  unfold Qd7
  exact T3
 show Qf (Qd8) _
 unfold Qd8
 exact T3
theorem QtM (n1:Qk)(h_n1:QU n1):Qf (QhJ n1) fun r=>True:=by
 unfold QhJ
 refine T0 (Qxt n1 2 3 1 (h_n1)) (fun x_1 hv2=>?_)
 refine T1 (fun hc3=>?_) (fun hc3=>?_)
 ·exact T3
 refine T0 (Qpo n1 (h_n1)) (fun x_4 hv5=>?_)
 refine T1 (fun hc6=>?_) (fun hc6=>?_)
 ·exact T3
 refine T0 (QqD n1.Places n1 (h_n1.2.1) (h_n1)) (fun x_7 hv8=>?_)
 refine T1 (fun hc9=>?_) (fun hc9=>?_)
 ·exact T3
 refine T0 (QqU n1.Tasks n1 (h_n1.2.2.1) (h_n1)) (fun x_10 hv11=>?_)
 refine T1 (fun hc12=>?_) (fun hc12=>?_)
 ·exact T3
 exact T3
theorem QzU (a1:Int)(b2:Int)  : Qf (Qlj a1 b2) fun r=>True:=by
 unfold Qlj
 refine T1 (fun hc1=>?_) (fun hc1=>?_)
 ·exact T3
 exact T3
theorem Qt7 (a1:Int)(b2:Int)  : Qf (QhW a1 b2) fun r=>True:=by
 unfold QhW
 refine T1 (fun hc1=>?_) (fun hc1=>?_)
 ·exact T3
 exact T3
theorem QtN (a1:Int)  : Qf (QhH a1) fun r=>True:=by
 unfold QhH
 refine T1 (fun hc1=>?_) (fun hc1=>?_)
 ·exact T3
 exact T3
theorem Qt8 (p1:Int)(y2:Int)  : Qf (Qeg p1 y2) fun r=>True:=by
 unfold Qeg
 exact T3
theorem QwJ (a1:Int)(b2:Int)  : Qf (Qgf a1 b2) fun r=>True:=by
 unfold Qgf
 refine T0 (QtN a1 ) (fun x_1 hv2=>?_)
 refine T0 (QtN b2 ) (fun x_3 hv4=>?_)
 refine T0 (Qt8 x_1 x_3 ) (fun x_5 hv6=>?_)
 refine T1 (fun hc7=>?_) (fun hc7=>?_)
 ·unfold Qde
  refine T1 (fun hc8=>?_) (fun hc8=>?_)
  ·exact T3
  exact T3
 unfold Qde
 refine T1 (fun hc9=>?_) (fun hc9=>?_)
 ·exact T3
 exact T3
theorem Qpq (a1:Int)(b2:Int)  : Qf (Qhq a1 b2) fun r=>True:=by
 unfold Qhq
 refine T1 (fun hc1=>?_) (fun hc1=>?_)
 ·exact T3
 refine T1 (fun hc2=>?_) (fun hc2=>?_)
 ·exact T3
 refine T0 (T5 (by simp_all)) (fun _ _=>?_)
 refine T0 (T5 (by simp_all)) (fun _ _=>?_)
 exact T3
theorem Qfj (is1:Bool)  : Qf (Qd6 is1) fun r=>True:=by
 unfold Qd6
 refine T1 (fun hc1=>?_) (fun hc1=>?_)
 ·exact T3
 exact T3
theorem Qmq (op1:Int)(a2:Int)(b3:Int)  : Qf (QcX op1 a2 b3) fun r=>True:=by
 unfold QcX
 refine T1 (fun hc1=>?_) (fun hc1=>?_)
 ·refine T0 (QzU a2 b3 ) (fun x_2 hv3=>?_)
  exact T3
 refine T1 (fun hc4=>?_) (fun hc4=>?_)
 ·refine T0 (Qt7 a2 b3 ) (fun x_5 hv6=>?_)
  exact T3
 refine T1 (fun hc7=>?_) (fun hc7=>?_)
 ·refine T0 (QwJ a2 b3 ) (fun x_8 hv9=>?_)
  exact T3
 refine T1 (fun hc10=>?_) (fun hc10=>?_)
 ·refine T0 (Qpq a2 b3 ) (fun x_11 hv12=>?_)
  exact T3
 refine T1 (fun hc13=>?_) (fun hc13=>?_)
 ·refine T0 (Qpq a2 b3 ) (fun x_14 hv15=>?_)
  exact T3
 refine T1 (fun hc16=>?_) (fun hc16=>?_)
 ·refine T0 (Qfj (a2==b3) ) (fun x_17 hv18=>?_)
  exact T3
 refine T1 (fun hc19=>?_) (fun hc19=>?_)
 ·refine T0 (Qfj (a2 != b3) ) (fun x_20 hv21=>?_)
  exact T3
 refine T1 (fun hc22=>?_) (fun hc22=>?_)
 ·refine T0 (Qfj (decide (a2<b3)) ) (fun x_23 hv24=>?_)
  exact T3
 refine T1 (fun hc25=>?_) (fun hc25=>?_)
 ·refine T0 (Qfj (decide (a2≤b3)) ) (fun x_26 hv27=>?_)
  exact T3
 refine T1 (fun hc28=>?_) (fun hc28=>?_)
 ·refine T0 (P:=fun _=>True) ?_ (fun v_29 hv30=>?_)
  ·unfold Qus
   refine T1 (fun hc31=>?_) (fun hc31=>?_)
   ·refine T0 (Qfj (b3 != 0) ) (fun x_32 hv33=>?_)
    exact T3
   refine T0 (Qfj false ) (fun x_34 hv35=>?_)
   exact T3
  unfold Qnp
  exact T3
 refine T1 (fun hc36=>?_) (fun hc36=>?_)
 ·refine T0 (P:=fun _=>True) ?_ (fun v_37 hv38=>?_)
  ·unfold Qut
   refine T1 (fun hc39=>?_) (fun hc39=>?_)
   ·refine T0 (Qfj true ) (fun x_40 hv41=>?_)
    exact T3
   refine T0 (Qfj (b3 != 0) ) (fun x_42 hv43=>?_)
   exact T3
  unfold Qnq
  exact T3
 exact T3
theorem Qu5 (a1:Int)  : Qf (QpF a1) fun r=>True:=by
 unfold QpF
 refine T0 (Qmq 2 0 a1 ) (fun x_1 hv2=>?_)
 exact T3
end Go.Proofs
noncomputable section
namespace Go.Proofs
open Go Go.RowKit Go.Vm
theorem Qu6 (b:List (Int×Int))(h:b.length≤maxLen):Qf7 b=some (rtF (-1) b):=by
 unfold Qf7
 have h1:=QyH (body:=fun st=>Qc9 b st.1 st.2) (l:=b) (ρ:=Unit⊕Unit) (fun i (t:Int)=>(t,(i:Int)))
  (fun i t x=>bif ((decide (x.1≤t))||((decide (x.2<1))||(decide (1048576<x.2))))then .inr (.inl ())else .inl x.1) (fun _=>.inr ())
  (fun i t x hi hx=>by
   show Qc9 b t i=_
   unfold Qc9
   rw [QaS (by omega:(i:Int)<b.length),cond_true,QO,hx,Qi]
   cases ((decide (x.1≤t))||((decide (x.2<1))||(decide (1048576<x.2))))with
   | true=>rfl
   | false=>simp only [cond_false,Sum.elim_inl];rw [Qw hi h])
  (fun t=>by
   show Qc9 b t b.length=_
   unfold Qc9
   rw [Qbs (by omega)];rfl) (-1) (s0:=(-1,0)) rfl
 rw [h1]
 have:∀(l:List (Int×Int)) (k:Nat) (t:Int),QnO (fun i t (x:Int×Int)=>(bif ((decide (x.1≤t))||((decide (x.2<1))||(decide (1048576<x.2))))then .inr (.inl ())else .inl x.1:Int⊕(Unit⊕Unit))) (fun _=>.inr ()) k t l=bif rtF t l then .inr ()else .inl ():=by
  intro l
  induction l with
  | nil=>intro k t;rfl
  | cons x l ih=>
   intro k t
   rw [QnO,rtF]
   cases ((decide (x.1≤t))||((decide (x.2<1))||(decide (1048576<x.2))))with
   | true=>rfl
   | false=>simp only [cond_false,Sum.elim_inl,Bool.not_false,Bool.true_and];exact ih _ _
 rw [this]
 cases rtF (-1) b<;>rfl
theorem QrE (b:List (Int×Int))(h:b.length≤maxLen):QmN b=some (bif rtF (-1) b then .inr b else .inl ()):=by
 unfold QmN
 rw [Qu6 b h,Qi]
 cases hr:rtF (-1) b with
 | false=>rfl
 | true=>
  simp only [Qms,cond_false,cond_true]
  have ha:=(QgS.1 hr).1
  obtain⟨r,h1,h2⟩:=Qjx (body:=fun st=>QhG b st.1 st.2) b.length (fun i s=>s=((i:Int),b.take i)) (fun r=>r=b)
   (fun i s hi hs=>by
    subst hs
    refine .inl ⟨(((i+1:Nat):Int),b.take (i+1)),?_,rfl⟩
    show QhG b i (b.take i)=_
    unfold QhG
    rw [QaS (by omega:(i:Int)<b.length),cond_true,QO,QF hi,Qi,Qw hi h]
    have e:b.take (i+1)=b.take i++[b[i]]:=by rw [QdQ,QF hi];rfl
    rw [e,←QDt (by have:=(ha.sublist (List.take_sublist (i+1) b));rw [e]at this;exact this)])
   (fun s hs=>by
    subst hs
    refine⟨_,?_,rfl⟩
    show QhG b b.length (b.take b.length)=_
    unfold QhG
    rw [Qbs (by omega),Qk9];rfl) (0,[]) rfl
  rw [h1,h2];rfl
theorem Qr2 (a b:List (Int×Int))(ha:a.length≤maxLen)(hb:b.length≤maxLen):QlK a b=some (bif rtF (-1) a then(bif rtF (-1) b then .inr (.inr (.inr (a,b)))else .inr (.inr (.inl a)))else(bif rtF (-1) b then .inr (.inl b)else .inl ())):=by
 unfold QlK
 rw [QrE a ha]
 cases rtF (-1) a with
 | true=>
  simp only [cond_true,Qi,Sum.elim_inr]
  unfold QoZ
  rw [QrE b hb]
  cases rtF (-1) b<;>rfl
 | false=>
  simp only [cond_false,Qi,Sum.elim_inl]
  unfold QoY
  rw [QrE b hb]
  cases rtF (-1) b<;>rfl
theorem QmG (m:List (Int×Int))(ha:Asc m)(h':m.length≤4294967296):QeU m=some (QkX m):=by
 have h:m.length≤maxLen:=by unfold maxLen;omega
 unfold QeU Qd9 QjE
 simp only [QaS h',Qkn rfl,Qi,QCn ha]
 obtain⟨r,h1,h2⟩:=Qjx (body:=fun st=>QcF (m.map Prod.fst) m st.1 st.2) m.length (fun i s=>s=((i:Int),QkX (m.take i))) (fun r=>r=QkX m)
  (fun i s hi hs=>by
   subst hs
   refine .inl ⟨(((i+1:Nat):Int),QkX (m.take (i+1))),?_,rfl⟩
   show QcF (m.map Prod.fst) m i (QkX (m.take i))=_
   unfold QcF
   have e:m.take (i+1)=m.take i++[m[i]]:=by rw [QdQ,QF hi];rfl
   have ec:(QR m m[i].1).getD 0=m[i].2:=Qog ha.nd (QaV hi)
   rw [QaS (by simp;omega),cond_true,QO,Qao,QF hi,Qd2,Qi,ec]
   have hl:(QkX (m.take i)).length≤i:=Qaa (Qvg _ _) (by simp;omega)
   cases hc:decide (0<m[i].2)with
   | true=>
    simp only [cond_true]
    rw [QnN (by simp;omega),Qi]
    unfold QeL
    rw [Qw hi h,e]
    unfold QkX
    rw [List.filter_append,Qnd,if_pos hc];rfl
   | false=>
    simp only [cond_false]
    unfold QeL
    rw [Qw hi h,e]
    unfold QkX
    rw [List.filter_append,Qnd,if_neg (by rw [hc];decide),List.filter_nil,QqX])
  (fun s hs=>by
   subst hs
   refine⟨_,?_,rfl⟩
   show QcF (m.map Prod.fst) m m.length (QkX (m.take m.length))=_
   unfold QcF
   rw [Qbs (by simp),Qk9];rfl) (0,[]) rfl
 rw [h1,h2];rfl
theorem QzV (m:List (Int×Int)):(QkX m).length≤m.length:=Qvg _ _
theorem Qk0 (a b:List (Int×Int))(h:a.length+b.length≤4294967296):(¬(Rt a∧Rt b)∧QbU a b=some ([],1))∨(Rt a∧Rt b∧(∃k,1048576<QI a k+QI b k)∧QbU a b=some ([],2))∨
  (Rt a∧Rt b∧∃r,QbU a b=some (r,0)∧Rt r∧(∀k,QI r k=QI a k+QI b k)∧r.length≤a.length+b.length):=by
 unfold QbU
 rw [Qr2 a b (by unfold maxLen;omega) (by unfold maxLen;omega),Qi]
 cases ra:rtF (-1) a with
 | false=>exact .inl ⟨fun hh=>(by rw [QgS.2 hh.1]at ra;cases ra),by cases rtF (-1) b<;>rfl⟩
 | true=>
  cases rb:rtF (-1) b with
  | false=>exact .inl ⟨fun hh=>(by rw [QgS.2 hh.2]at rb;cases rb),rfl⟩
  | true=>
   have hra:=QgS.1 ra
   have hrb:=QgS.1 rb
   simp only [cond_true,Sum.elim_inr]
   unfold Qqu
   have hw:∀p∈b,QI a p.1+p.2=QI a p.1+QI b p.1:=fun p hp=>by rw [Qog hrb.1.nd hp]
   rcases Qxp (g:=fun x v=>w64 (x+v)) (stop:=fun x=>decide (1048576<x)) (q:=some ()) (body:=fun st p=>Qiq st p.1 p.2) (fun s p=>by
     show Qiq s p.1 p.2=_
     unfold Qiq
     rw [QoO,if_pos rfl]
     unfold QI
     simp only [Qni]
     cases decide (1048576<w64 ((QR s p.1).getD 0+p.2))<;>rfl) hra.1 hrb.1.nd with⟨⟨p,h1,h2⟩,h3⟩|⟨h1,s',h3,h4,h5,h6⟩
   ·refine .inr (.inl ⟨hra,hrb,⟨p.1,?_⟩,?_⟩)
    ·have:=hra.cnt p.1
     have:=hrb.cnt p.1
     have h2:=QV h2
     rw [Qog hrb.1.nd h1]
     rw [Qog hrb.1.nd h1]at this
     rwa [Q3 (by omega)]at h2
    simp only [h3 () rfl];rfl
   have hk:∀k,QI s' k=QI a k+QI b k∧QI s' k≤1048576:=fun k=>by
    have ca:=hra.cnt k
    have cb:=hrb.cnt k
    have e:=h6 k
    unfold Qvt at e
    cases hm:QR b k with
    | none=>
     rw [hm]at e
     simp only at e
     have:QI b k=0:=by unfold QI;rw [hm];rfl
     have e2:QI s' k=QI a k:=by unfold QI;rw [e]
     omega
    | some v=>
     rw [hm]at e
     simp only at e
     have e1:QI b k=v:=by unfold QI;rw [hm];rfl
     have e2:QI s' k=w64 (QI a k+v):=by unfold QI;rw [e];rfl
     have h7:=h1 (k,v) ((Qeq hrb.1.nd).1 hm)
     simp only [Q0]at h7
     rw [Q3 (by omega)]at e2 h7
     omega
   refine .inr (.inr ⟨hra,hrb,QkX s',?_,QCm h4 (fun k hk0=>⟨?_,(hk k).2⟩),fun k=>?_,Qaa (QzV s') h5⟩)
   ·simp only [h3,Qi,Sum.elim_inl]
    unfold Qqt
    rw [QmG s' h4 (by omega)];rfl
   ·have:=(hk k).1
    have ca:=hra.cnt k
    have cb:=hrb.cnt k
    by_cases c:0<QI a k
    ·exact hra.cnt_pos c
    exact hrb.cnt_pos (by omega)
   rw [QzT h4,(hk k).1]
   have ca:=hra.cnt k
   have cb:=hrb.cnt k
   split<;>omega
theorem QqH (m m':List (Int×Int)):QeM m m'=some (!(m.any fun p=>decide (QI m' p.1<p.2))):=by
 unfold QeM
 rw [QBx (bad:=fun p=>decide (QI m' p.1<p.2)) (q:=()) (fun p=>by
  show Qdr m' p.1 p.2=_
  unfold Qdr QI
  cases decide ((QR m' p.1).getD 0<p.2)<;>rfl)]
 cases m.any fun p=>decide (QI m' p.1<p.2)<;>rfl
theorem QxD {a b:List (Int×Int)}(ha:Rt a)(hb:Rt b):(a.any fun p=>decide (QI b p.1<p.2))=false↔∀k,QI a k≤QI b k:=by
 rw [←Qpr,Qnc]
 simp only [Qz,not_exists,not_and]
 constructor
 ·intro h k
  have cb:=hb.cnt k
  cases e:QR a k with
  | none=>
   have:QI a k=0:=by unfold QI;rw [e];rfl
   omega
  | some v=>
   have h1:=h _ ((Qeq ha.1.nd).1 e)
   have:QI a k=v:=by unfold QI;rw [e];rfl
   simp only at h1
   omega
 intro h p hp hlt
 have:=h p.1
 rw [Qog ha.1.nd hp]at this
 omega
theorem QxE (a b:List (Int×Int))(ha:a.length≤maxLen)(hb:b.length≤maxLen):∃r,QnG a b=some r∧(r=true↔Rt a∧Rt b∧∀k,QI a k≤QI b k):=by
 unfold QnG
 rw [Qr2 a b ha hb,Qi]
 cases ra:rtF (-1) a with
 | false=>exact⟨false,by cases rtF (-1) b<;>rfl,by simp;intro hh;rw [QgS.2 hh]at ra;cases ra⟩
 | true=>
  cases rb:rtF (-1) b with
  | false=>exact⟨false,rfl,by simp;intro _ hh;rw [QgS.2 hh]at rb;cases rb⟩
  | true=>
   have hra:=QgS.1 ra
   have hrb:=QgS.1 rb
   refine⟨!(a.any fun p=>decide (QI b p.1<p.2)),?_,?_⟩
   ·simp only [cond_true,Sum.elim_inr]
    unfold QnF
    rw [QqH];rfl
   rw [Qfk,QxD hra hrb]
   exact⟨fun h=>⟨hra,hrb,h⟩,fun h=>h.2.2⟩
theorem Qo2 (a b:List (Int×Int))(h:a.length+b.length≤4294967296):(¬(Rt a∧Rt b)∧Qcn a b=some ([],1))∨(Rt a∧Rt b∧(∃k,QI a k<QI b k)∧Qcn a b=some ([],10))∨
  (Rt a∧Rt b∧(∀k,QI b k≤QI a k)∧∃r,Qcn a b=some (r,0)∧Rt r∧(∀k,QI r k=QI a k-QI b k)∧r.length≤a.length+b.length):=by
 unfold Qcn
 rw [Qr2 a b (by unfold maxLen;omega) (by unfold maxLen;omega),Qi]
 cases ra:rtF (-1) a with
 | false=>exact .inl ⟨fun hh=>(by rw [QgS.2 hh.1]at ra;cases ra),by cases rtF (-1) b<;>rfl⟩
 | true=>
  cases rb:rtF (-1) b with
  | false=>exact .inl ⟨fun hh=>(by rw [QgS.2 hh.2]at rb;cases rb),rfl⟩
  | true=>
   have hra:=QgS.1 ra
   have hrb:=QgS.1 rb
   simp only [cond_true,Sum.elim_inr]
   unfold Qo1
   rw [QqH,Qi]
   cases hw:b.any fun p=>decide (QI a p.1<p.2)with
   | true=>
    refine .inr (.inl ⟨hra,hrb,?_,rfl⟩)
    obtain⟨p,h1,h2⟩:=Qnc.1 hw
    exact⟨p.1,by rw [Qog hrb.1.nd h1];exact QV h2⟩
   | false=>
    have hle:=(QxD hrb hra).1 hw
    simp only [Bool.not_false,Qms,cond_false]
    rcases Qxp (g:=fun x v=>w64 (x-v)) (stop:=fun _=>false) (q:=none) (body:=fun st p=>Qhi st p.1 p.2) (fun s p=>by
      show Qhi s p.1 p.2=_
      unfold Qhi QI
      rfl) hra.1 hrb.1.nd with⟨⟨p,h1,h2⟩,h3⟩|⟨h1,s',h3,h4,h5,h6⟩
    ·cases h2
    have hk:∀k,QI s' k=QI a k-QI b k:=fun k=>by
     have ca:=hra.cnt k
     have cb:=hrb.cnt k
     have e:=h6 k
     unfold Qvt at e
     cases hm:QR b k with
     | none=>
      rw [hm]at e
      simp only at e
      have:QI b k=0:=by unfold QI;rw [hm];rfl
      have e2:QI s' k=QI a k:=by unfold QI;rw [e]
      omega
     | some v=>
      rw [hm]at e
      simp only at e
      have e1:QI b k=v:=by unfold QI;rw [hm];rfl
      have e2:QI s' k=w64 (QI a k-v):=by unfold QI;rw [e];rfl
      rw [Q3 (by omega)]at e2
      omega
    refine .inr (.inr ⟨hra,hrb,hle,QkX s',?_,QCm h4 (fun k hk0=>?_),fun k=>?_,Qaa (QzV s') h5⟩)
    ·simp only [h3,Qi,Sum.elim_inl]
     unfold Qo0
     rw [QmG s' h4 (by omega)];rfl
    ·have:=hk k
     have ca:=hra.cnt k
     have cb:=hrb.cnt k
     exact⟨hra.cnt_pos (by omega),by omega⟩
    rw [QzT h4,hk k]
    have:=hle k
    split<;>omega
theorem QxF (t:Int):Qtk [t]=some (bif decide (0≤t)then [(t,1)]else []):=by
 unfold Qtk
 rw [QcC]
 show((Qga [t] 0 []).bind _).bind _=_
 unfold Qga
 rw [QaS (by simp),cond_true,show idx [t] 0=some t from rfl,Qi]
 unfold Qox
 rw [show w64 (0+1)=1 from by decide]
 cases h:decide (0≤t)with
 | false=>
  simp only [cond_false,Qi,Sum.elim_inl]
  rw [QcC]
  show((Qga [t] 1 []).bind _).bind _=_
  unfold Qga
  rw [Qbs (by simp)]
  simp only [cond_false,Qi,Sum.elim_inr]
  unfold Qoy
  rw [QmG [] List.Pairwise.nil (by simp)];rfl
 | true=>
  simp only [cond_true,Qi,Sum.elim_inl]
  rw [QcC]
  show((Qga [t] 1 [(t,min2 (w64 (0+1)) 1048576)]).bind _).bind _=_
  unfold Qga
  rw [Qbs (by simp)]
  simp only [cond_false,Qi,Sum.elim_inr]
  unfold Qoy
  rw [QmG _ (List.pairwise_singleton _ _) (by simp [maxLen]),show min2 (w64 (0+1)) 1048576=1 from by decide];rfl
end Go.Proofs
noncomputable section
namespace Go.Proofs
open Go Go.RowKit Go.Vm
theorem QAN : ∀(n:Nat) (e:Ql) (d:Int),QdO e→SizeOf.sizeOf e≤n→Qf (QfJ n e d) fun _=>True
 | 0,e,_,_,h=>absurd e.pos (by omega)
 | n+1,e,d,he,h=>by
  unfold QfJ QoU
  refine T1 (fun _=>T3) fun _=>?_
  refine T0 (Qf.up e.Kids.length (fun st=>st.2) (fun _=>True) (Q:=fun _=>True) rfl trivial (fun i st hi hn _=>?_)) (fun q _=>?_)
  ·obtain⟨a,x⟩:=st
   replace hi:x=(i:Int):=hi
   show Qf (Qlp e (QfJ n) d a x) _
   unfold Qlp
   refine T1 (fun hc=>?_) (fun hc=>T2 (Qn trivial))
   simp only [Qz]at hc
   refine T0 (T4 (by omega) (by omega)) fun k hk=>?_
   have:=QuS hk
   refine T0 (QAN n k _ ((Qfi he).2 k hk) (by omega)) fun y _=>?_
   refine T1 (fun _=>T2 (Qn trivial)) fun _=>T1 (fun _=>T2 (Qn trivial)) fun _=>?_
   exact T2 (QA ⟨by omega,by subst hi;exact Qw (by omega) (Qfi he).1,trivial⟩)
  rcases q with q | q
  ·exact T3
  exact T3
theorem Qym (e:Ql)(he:QdO e):Qf (Qjv e) fun _=>True:=by
 unfold Qjv QrR
 exact T0 (QAN _ e 60 he (Qb4 _)) fun _ _=>T3
theorem QEd (n1:Qk)(h:QU n1)(q0:Int):Qf (QjY n1 q0) fun r=>r=true→q0≤400:=by
 unfold QjY
 refine T0 (Qf.up n1.Tasks.length (fun st=>st.2) (fun _=>True) (Q:=fun _=>True) rfl trivial (fun i st hi hn _=>?_)) (fun q _=>?_)
 ·obtain⟨a,x⟩:=st
  replace hi:x=(i:Int):=hi
  show Qf (QjX n1 a x) _
  unfold QjX
  refine T1 (fun hc=>?_) (fun _=>T2 (Qn trivial))
  simp only [Qz]at hc
  refine T0 (T4 (by omega) (by omega)) fun e he=>?_
  have ke:=h.2.2.1.2 e he
  refine T1 (fun _=>T2 (Qn trivial)) fun _=>?_
  refine T0 (Qf.up e.Vars.length (fun st=>st) (fun _=>True) (Q:=fun _=>True) rfl trivial (fun i2 st hi2 hn2 _=>?_)) (fun q _=>?_)
  ·show Qf (QjR e st) _
   unfold QjR
   refine T1 (fun hc=>?_) (fun _=>T2 (Qn trivial))
   simp only [Qz]at hc
   refine T0 (T4 (by omega) (by omega)) fun s _=>?_
   exact T1 (fun _=>T2 (Qn trivial)) fun _=>T2 (QA ⟨by omega,by rw [hi2];exact Qw (by omega) ke.2.1.1,trivial⟩)
  rcases q with q | q
  ·exact T2 (Qn trivial)
  show Qf (QjW e a x) _
  unfold QjW
  refine T0 (Qym e.Guard ke.2.2.1) fun g _=>?_
  refine T0 (Qf.up e.Ins.length (fun st=>st.2) (fun _=>True) (Q:=fun _=>True) rfl trivial (fun i2 st hi2 hn2 _=>?_)) (fun q _=>?_)
  ·obtain⟨b,y⟩:=st
   replace hi2:y=(i2:Int):=hi2
   show Qf (QjS e b y) _
   unfold QjS
   refine T1 (fun hc=>?_) (fun _=>T2 (Qn trivial))
   simp only [Qz]at hc
   refine T0 (T4 (by omega) (by omega)) fun s hs=>?_
   refine T0 (Qym s.Expr (ke.2.2.2.2.2.1.2 s hs).2) fun g _=>?_
   exact T2 (QA ⟨by omega,by subst hi2;exact Qw (by omega) ke.2.2.2.2.2.1.1,trivial⟩)
  show Qf (QjV e a x q) _
  unfold QjV
  refine T0 (Qf.up e.Outs.length (fun st=>st.2) (fun _=>True) (Q:=fun _=>True) rfl trivial (fun i2 st hi2 hn2 _=>?_)) (fun q _=>?_)
  ·obtain⟨b,y⟩:=st
   replace hi2:y=(i2:Int):=hi2
   show Qf (QjT e b y) _
   unfold QjT
   refine T1 (fun hc=>?_) (fun _=>T2 (Qn trivial))
   simp only [Qz]at hc
   refine T0 (T4 (by omega) (by omega)) fun s hs=>?_
   refine T0 (Qym s.Expr (ke.2.2.2.2.2.2.1.2 s hs).2) fun g _=>?_
   exact T2 (QA ⟨by omega,by subst hi2;exact Qw (by omega) ke.2.2.2.2.2.2.1.1,trivial⟩)
  show Qf (QjU a e x q) _
  unfold QjU
  exact T1 (fun _=>T2 (Qn trivial)) fun _=>T2 (QA ⟨by omega,by subst hi;exact Qw (by omega) h.2.2.1.1,trivial⟩)
 rcases q with q | q
 ·exact T2 fun h=>by cases h
 exact T2 fun h=>by simpa using h
theorem QAO (n1:Qk)(h:QU n1):Qf (Qjw n1) fun r=>r=true→n1.Colours.length≤40∧n1.Places.length≤70∧n1.Tasks.length≤70:=by
 unfold Qjw
 refine T1 (fun _=>T2 fun h=>by cases h) fun hc=>?_
 simp only [Qc6,Q0]at hc
 refine T6 (P:=fun _=>True) ?_ fun _ _ _=>by omega
 refine T0 (Qf.up n1.Colours.length (fun st=>st.2) (fun _=>True) (Q:=fun _=>True) rfl trivial (fun i st hi hn _=>?_)) (fun q _=>?_)
 ·obtain⟨a,x⟩:=st
  replace hi:x=(i:Int):=hi
  show Qf (Qls n1 a x) _
  unfold Qls
  refine T1 (fun hc=>?_) (fun _=>T2 (Qn trivial))
  simp only [Qz]at hc
  refine T0 (T4 (by omega) (by omega)).self fun e he=>?_
  obtain⟨he,hm⟩:=he
  refine T0 (P:=fun _=>True) ?_ fun y _=>?_
  ·unfold Qsj
   rw [he,Qi]
   exact T1 (fun _=>T3) fun _=>T3
  unfold Qlr
  refine T1 (fun _=>T2 (Qn trivial)) fun _=>?_
  refine T0 (Qf.up e.Names.length (fun st=>st) (fun _=>True) (Q:=fun _=>True) rfl trivial (fun i2 st hi2 hn2 _=>?_)) (fun q _=>?_)
  ·show Qf (Qlq n1 x st) _
   unfold Qlq
   simp only [he,Qi]
   refine T1 (fun hc=>?_) (fun _=>T2 (Qn trivial))
   simp only [Qz]at hc
   refine T0 (T4 (by omega) (by omega)) fun s _=>?_
   refine T1 (fun _=>T2 (Qn trivial)) fun _=>?_
   exact T2 (QA ⟨by omega,by rw [hi2];exact Qw (by omega) (h.1.2 e hm).2.2.2.2.1.1,trivial⟩)
  rcases q with q | q
  ·exact T2 (Qn trivial)
  exact T2 (QA ⟨by omega,by subst hi;exact Qw (by omega) h.1.1,trivial⟩)
 rcases q with q | q
 ·exact T3
 show Qf (QjZ n1 q) _
 unfold QjZ
 refine T0 (Qf.up n1.Places.length (fun st=>st.2) (fun _=>True) (Q:=fun _=>True) rfl trivial (fun i st hi hn _=>?_)) (fun q _=>?_)
 ·obtain⟨a,x⟩:=st
  replace hi:x=(i:Int):=hi
  show Qf (Qlt n1 a x) _
  unfold Qlt
  refine T1 (fun hc=>?_) (fun _=>T2 (Qn trivial))
  simp only [Qz]at hc
  refine T0 (T4 (by omega) (by omega)) fun e _=>?_
  refine T0 (T4 (by omega) (by omega)) fun e2 _=>?_
  exact T1 (fun _=>T2 (Qn trivial)) fun _=>T2 (QA ⟨by omega,by subst hi;exact Qw (by omega) h.2.1.1,trivial⟩)
 rcases q with q | q
 ·exact T3
 exact(QEd n1 h q).mono fun _ _=>trivial
theorem QEe (m:List (List (Int×Int)))(h:m.length≤maxLen):Qf (Qow m) fun _=>True:=by
 unfold Qow
 refine T0 (Qf.up m.length (fun st=>st.2) (fun _=>True) (Q:=fun _=>True) rfl trivial (fun i st hi hn _=>?_)) (fun q _=>T3)
 obtain⟨a,x⟩:=st
 replace hi:x=(i:Int):=hi
 show Qf (QlI m a x) _
 unfold QlI
 refine T1 (fun hc=>?_) (fun _=>T2 (Qn trivial))
 simp only [Qx,Qz]at hc
 refine T0 (T4 (by omega) (by omega)) fun e _=>?_
 exact T2 (QA ⟨by omega,by subst hi;exact Qw (by omega) h,trivial⟩)
theorem QEf {l:List (Int×Int)}(h:Asc l):∀{a:Int},(∀p∈l,a≤p.1)→∀(i:Nat) (hi:i<l.length),a+i≤(l[i]).1:=by
 induction l with
 | nil=>intro a _ i hi;simp at hi
 | cons p l ih=>
  intro a ha i hi
  obtain⟨h1,h2⟩:=QgR.1 h
  cases i with
  | zero=>have:=ha p Q9;simpa using this
  | succ i=>
   have h3:=ih h2 (a:=a+1) (fun q hq=>by have:=h1 q hq;have:=ha p Q9;omega) i (by simpa using hi)
   simp only [List.getElem_cons_succ]
   omega
theorem QDv {l:List (Int×Int)}(h:Asc l)(h0:0<l.length){k:Int}(hk:0<QI l k):k≤(l[l.length-1]).1:=by
 unfold QI at hk
 cases e:QR l k with
 | none=>rw [e]at hk;simp at hk
 | some v=>
  obtain⟨j,hj,hjk⟩:=Qk7.1 ((Qeq h.nd).1 e)
  by_cases c:j=l.length-1
  ·subst c;rw [hjk];exact Int.le_refl _
  have:=List.pairwise_iff_getElem.1 h j (l.length-1) hj (by omega) (by omega)
  rw [hjk]at this
  simp only at this
  omega
def MOk (n:Qk)(c:Nat)(m:List (List (Int×Int))):Prop:=m.length=n.Places.length∧∀b∈m,Rt b∧b.length≤c
theorem MOk.mono {n:Qk}{c c':Nat}{m:List (List (Int×Int))}(h:MOk n c m)(hc:c≤c'):MOk n c' m:=⟨h.1,fun b hb=>⟨(h.2 b hb).1,Qaa (h.2 b hb).2 hc⟩⟩
def Low (n:Qk)(m:List (List (Int×Int))):Prop:=∀(j:Nat) b p,m[j]? = some b→n.Places[j]? = some p→∀k,0<QI b k→∃z,Qbe n.Colours p.Colour=some z∧k<z
theorem QzW (n1:Qk)(m:List (List (Int×Int)))(h:QU n1)(hm:QM (QM fun _=>True) m):Qf (QnB n1 m) fun r=>r=true→MOk n1 1024 m∧Low n1 m:=by
 unfold QnB
 refine T1 (fun _=>T2 fun h=>by cases h) fun hc=>?_
 have hl:m.length=n1.Places.length:=by simp only [bne_eq_false_iff_eq]at hc;omega
 refine T0 (Qf.up m.length (fun st=>st) (fun st=>∀(j:Nat) (hj:j<m.length),(j:Int)<st→(Rt m[j]∧(m[j]).length≤1024)∧∀p,n1.Places[j]? = some p→∀k,0<QI m[j] k→∃z,Qbe n1.Colours p.Colour=some z∧k<z) (Q:=fun q=>q=.inr ()→(∀b∈m,Rt b∧b.length≤1024)∧Low n1 m) rfl (fun j _ hj=>by omega) (fun i st hi hn hJ=>?_)) (fun q hq=>?_)
 ·show Qf (Qkf m n1 st) _
  unfold Qkf
  refine T1 (fun hc=>?_) (fun hc=>T2 (Qn fun _=>⟨fun b hb=>by
   obtain⟨j,hj,rfl⟩:=Qk7.1 hb
   simp only [Q0]at hc
   exact(hJ j hj (by omega)).1,fun j b p hb hp=>by
   obtain⟨hj,rfl⟩:=QQ.1 hb
   simp only [Q0]at hc
   exact(hJ j hj (by omega)).2 p hp⟩))
  simp only [Qz]at hc
  have hlt:i<m.length:=by omega
  have hlp:i<n1.Places.length:=by omega
  rw [hi,QO,QF hlt,Qi,QO,QF hlp,Qi]
  refine T0 (Qko n1.Colours (n1.Places[i]).Colour h.1).self fun sz hsz=>?_
  obtain⟨hze,hsz⟩:=hsz
  have hb:=hm.2 _ (QaV hlt)
  have hbl:=hb.1
  refine T0 (P:=fun r=>r=false→(Rt m[i]∧(m[i]).length≤1024)∧∀k,0<QI m[i] k→k<sz) ?_ fun x hx=>?_
  ·unfold Qro
   rw [Qu6 _ hb.1,Qi]
   refine T1 (fun _=>T2 fun h=>by cases h) fun hr=>?_
   have hrt:=QgS.1 (by simpa using hr:rtF (-1) m[i]=true)
   refine T1 (fun h0=>?_) (fun h0=>T2 fun _=>⟨⟨hrt,by simp only [Q0]at h0;omega⟩,fun k hk=>by
    simp only [Q0]at h0
    rw [show m[i]=[]from Qq1.1 (by omega)]at hk
    simp [QI,QR]at hk⟩)
   simp only [Qz]at h0
   unfold maxLen at hbl
   rw [Q3 (by omega),show((m[i]).length:Int)-1=(((m[i]).length-1:Nat):Int) by omega,QO,QF (by omega),Qi]
   refine T2 fun hf=>?_
   simp only [Q0]at hf
   have:=QEf hrt.1 (a:=0) (fun p hp=>(hrt.2 p hp).1) ((m[i]).length-1) (by omega)
   refine⟨⟨hrt,by omega⟩,fun k hk=>?_⟩
   have:=QDv hrt.1 (by omega) hk
   omega
  unfold Qke
  refine T1 (fun _=>T2 (Qn fun h=>by cases h)) fun hxf=>?_
  refine T2 (QA ⟨hlt,Qw hlt hm.1,fun j hj hjs=>?_⟩)
  rw [Qw hlt hm.1]at hjs
  by_cases c:j=i
  ·subst c
   refine⟨(hx hxf).1,fun p hp k hk=>⟨sz,?_,(hx hxf).2 k hk⟩⟩
   rw [QF hlp]at hp
   cases hp
   exact hze
  exact hJ j hj (by omega)
 rcases q with q | q
 ·exact T2 fun h=>by cases h
 exact T2 fun _=>⟨⟨hl,(hq rfl).1⟩,(hq rfl).2⟩
structure QaQ (n:Qk):Prop where
 k:QU n
 pl:n.Places.length≤70
 tl:n.Tasks.length≤12
 tk:∀t∈n.Tasks,t.Vars.length≤16∧t.Ins.length≤16∧t.Outs.length≤16∧t.Cancel.length≤16
theorem QCp (n1:Qk)(k2:Int)(h:Qdp n1 k2=some 0):∃t,idx n1.Tasks k2=some t∧t.Vars.length≤16∧t.Ins.length≤16∧t.Outs.length≤16∧t.Cancel.length≤16:=by
 unfold Qdp at h
 obtain⟨x5,_,h⟩:=Qc h
 rcases Qt h with⟨_,h⟩|⟨_,h⟩
 ·cases h
 obtain⟨x7,_,h⟩:=Qc h
 rcases Qt h with⟨c,h⟩|⟨_,h⟩
 ·simp only [Option.some.injEq]at h;rw [h]at c;cases c
 obtain⟨e9,he9,h⟩:=Qc h
 obtain⟨e10,he10,h⟩:=Qc h
 rw [he9]at he10;cases he10
 obtain⟨_,_,h⟩:=Qc h
 obtain⟨_,_,h⟩:=Qc h
 obtain⟨_,_,h⟩:=Qc h
 obtain⟨_,_,h⟩:=Qc h
 obtain⟨x15,hx,h⟩:=Qc h
 have bad:∀a b:Int,0<a→x15=(a,b)→False:=fun a b ha e=>by
  subst e
  simp only at h
  rcases Qt h with⟨c,h⟩|⟨_,h⟩
  ·simp only [beq_iff_eq]at c;omega
  simp only [Option.some.injEq]at h;omega
 unfold QgM at hx
 obtain⟨x20,_,hx⟩:=Qc hx
 rcases Qt hx with⟨_,hx⟩|⟨_,hx⟩
 ·exact(bad _ _ (by decide) (Option.some.inj hx).symm).elim
 obtain⟨x22,_,hx⟩:=Qc hx
 rcases Qt hx with⟨_,hx⟩|⟨_,hx⟩
 ·exact(bad _ _ (by decide) (Option.some.inj hx).symm).elim
 obtain⟨x24,h24,hx⟩:=Qc hx
 rcases Qt hx with⟨_,hx⟩|⟨c,hx⟩
 ·exact(bad _ _ (by decide) (Option.some.inj hx).symm).elim
 unfold Qik at h24
 simp only [Option.some.injEq]at h24
 rw [←h24]at c
 simp only [QiC,Qx,Qz,QlM]at c
 exact⟨e9,he9,by omega,by omega,by omega,by omega⟩
theorem QAE (l1:List Qy)(n1:Qk)(h:QU n1)(hl:QM QaR l1):Qf (QcP l1 n1) fun r=>r.2=0→∀(j:Nat),j<l1.length→Qdp n1 j=some 0:=by
 unfold QcP
 refine T0 (Qf.up l1.length (fun st=>st) (fun st=>∀(j:Nat),(j:Int)<st→Qdp n1 j=some 0) (Q:=fun q=>(∀a b,q=.inl (a,b)→b≠0)∧(q=.inr ()→∀(j:Nat),j<l1.length→Qdp n1 j=some 0)) rfl (fun j hj=>by omega) (fun i st hi hn hJ=>?_)) (fun q hq=>?_)
 ·show Qf (Qb2 l1 n1 st) _
  unfold Qb2
  refine T1 (fun hc=>?_) (fun hc=>T2 (Qn ⟨fun a b h=>(by cases h),fun _ j hj=>by
   simp only [Q0]at hc
   exact hJ j (by omega)⟩))
  simp only [Qz]at hc
  refine T0 (T4 (by omega) (by omega)) fun e he=>?_
  refine T0 (P:=fun x=>Qdp n1 st=some x) ?_ fun x hx=>?_
  ·unfold Qjo
   exact T0 (QsD n1 st h).self fun x hx=>T2 hx.1
  refine T1 (fun hc=>T2 (Qn ⟨fun a b h=>(by cases h;simpa using hc),fun h=>(by cases h)⟩)) fun hc=>?_
  simp only [bne_eq_false_iff_eq]at hc
  refine T2 (QA ⟨by omega,by rw [hi];exact Qw (by omega) hl.1,fun j hj=>?_⟩)
  rw [hi,Qw (show i<l1.length by omega) hl.1]at hj
  by_cases c:j=i
  ·subst c;rw [←hi,hx,hc]
  exact hJ j (by omega)
 rcases q with q | q
 ·exact T2 fun h=>absurd h (hq.1 q.1 q.2 rfl)
 exact T2 fun _=>hq.2 rfl
theorem QyJ (n1:Qk)(h:QU n1){p:QfV}(hn:QhJ n1=some (0,p)):∀t∈n1.Tasks,t.Vars.length≤16∧t.Ins.length≤16∧t.Outs.length≤16∧t.Cancel.length≤16:=by
 unfold QhJ at hn
 obtain⟨x6,_,hn⟩:=Qc hn
 rcases Qt hn with⟨c,hn⟩|⟨_,hn⟩
 ·simp only [Option.some.injEq,Prod.mk.injEq]at hn;rw [hn.1]at c;cases c
 obtain⟨x8,_,hn⟩:=Qc hn
 rcases Qt hn with⟨c,hn⟩|⟨_,hn⟩
 ·simp only [Option.some.injEq,Prod.mk.injEq]at hn;rw [hn.1]at c;cases c
 obtain⟨x10,_,hn⟩:=Qc hn
 rcases Qt hn with⟨c,hn⟩|⟨_,hn⟩
 ·simp only [Option.some.injEq,Prod.mk.injEq]at hn;rw [hn.1]at c;cases c
 obtain⟨x12,h12,hn⟩:=Qc hn
 rcases Qt hn with⟨c,hn⟩|⟨c,hn⟩
 ·simp only [Option.some.injEq,Prod.mk.injEq]at hn;rw [hn.1]at c;cases c
 simp only [bne_eq_false_iff_eq]at c
 obtain⟨r,hr,hr2⟩:=QAE n1.Tasks n1 h h.2.2.1
 rw [h12]at hr;cases hr
 intro t ht
 obtain⟨j,hj,rfl⟩:=Qk7.1 ht
 obtain⟨t,h1,h2⟩:=QCp n1 j (hr2 c j hj)
 rw [QO,QF hj]at h1
 cases h1
 exact h2
theorem QE4 (n1:Qk)(m:List (List (Int×Int)))(h:QU n1)(hm:QM (QM fun _=>True) m):Qf (QnC n1 m) fun r=>r=true→QaQ n1∧MOk n1 1024 m∧Low n1 m:=by
 unfold QnC
 refine T0 (QAO n1 h) fun x5 h5=>?_
 refine T0 (QEe m hm.1) fun x6 _=>?_
 refine T1 (fun _=>T2 fun h=>by cases h) fun hc=>?_
 simp only [Qc6,QiC,Q0]at hc
 have h5:=h5 hc.1
 refine T0 (QtM n1 h).self fun x11 h11=>?_
 refine T0 (P:=fun r=>r=false→QaQ n1∧MOk n1 1024 m∧Low n1 m) ?_ fun x12 h12=>?_
 ·unfold Qrr
  refine T1 (fun _=>T2 fun h=>by cases h) fun hc1=>?_
  simp only [bne_eq_false_iff_eq]at hc1
  refine T0 (QzW n1 m h hm) fun r hr=>T2 fun hrf=>⟨⟨h,h5.2.1,by omega,?_⟩,hr (by simpa using hrf)⟩
  obtain⟨a,b⟩:=x11
  simp only at hc1
  subst hc1
  exact QyJ n1 h h11.1
 unfold Qkh
 refine T1 (fun _=>T2 fun h=>by cases h) fun hx=>?_
 have hfin:=h12 hx
 refine T6 (P:=fun _=>True) ?_ fun _ _ _=>hfin
 refine T0 (Qf.up n1.Tasks.length (fun st=>st.2) (fun _=>True) (Q:=fun _=>True) rfl trivial (fun i st hi hn _=>?_)) (fun q _=>T3)
 obtain⟨a,x⟩:=st
 replace hi:x=(i:Int):=hi
 show Qf (Qkg n1 a x) _
 unfold Qkg
 refine T1 (fun hc=>?_) (fun _=>T2 (Qn trivial))
 simp only [Qz]at hc
 refine T0 (T4 (by omega) (by omega)) fun e _=>?_
 refine T0 (QrC n1 x h) fun y _=>?_
 exact T2 (QA ⟨by omega,by subst hi;exact Qw (by omega) h.2.2.1.1,trivial⟩)
end Go.Proofs
noncomputable section
namespace Go.Proofs
open Go Go.RowKit Go.Vm
theorem QyK (s:Qbb)(m:Int)(h:0≤s.k∧s.k<s.sizes.length):Qf (QdB s m) fun r=>r=true→0≤m:=by
 unfold QdB
 refine T0 (P:=fun r=>r=true→0≤m) ?_ fun x hx=>T2 hx
 unfold Qg6
 refine T1 (fun hc=>?_) fun _=>T2 fun h=>by cases h
 exact T0 (T4 h.1 h.2) fun _ _=>T2 fun _=>by simpa using hc
theorem Qiv (s:Qbb)(h:0≤s.k∧s.k<s.all.length):Qf (Qdj s) fun _=>True:=by
 unfold Qdj
 exact T0 (T4 h.1 h.2) fun _ _=>T3
theorem QDw (l:List QN)(k m:Int)(hl:QM QcB l):Qf (Qfz l k m) fun _=>True:=by
 unfold Qfz
 refine T0 (Qjs l k hl) fun x hx=>?_
 refine T0 (P:=fun r=>r=false→x.1=true) ?_ fun r hr=>?_
 ·unfold QkP
  refine T1 (fun _=>T2 fun h=>by cases h) fun hc=>?_
  have hc:x.1=true:=by simpa using hc
  have h:=hx.2 hc
  exact T0 (QyK x.2 m (by omega)) fun _ _=>T2 fun _=>hc
 unfold Qfe
 refine T1 (fun _=>T3) fun hc=>?_
 have h:=hx.2 (hr hc)
 refine T0 (Qiv x.2 (by omega)) fun _ _=>?_
 refine T1 (fun _=>?_) fun _=>T3
 exact T0 (Qiv x.2 (by omega)) fun _ _=>T3
theorem QzX (l:List QN)(k n:Int)(hl:QM QcB l):Qf (QfA l k n) fun r=>r.2=true→0≤r.1:=by
 unfold QfA
 refine T0 (Qjs l k hl) fun x hx=>?_
 refine T1 (fun _=>T2 fun h=>by cases h) fun hc=>?_
 have h:=hx.2 (by simpa using hc)
 have k1:∀m,Qf (Qc1 x m) fun r=>r.2=true→0≤r.1:=fun m=>by
  unfold Qc1
  refine T0 (QyK x.2 m (by omega)) fun y hy=>?_
  exact T1 (fun _=>T2 fun h=>by cases h) fun hc=>T2 fun _=>hy (by simpa using hc)
 refine T0 (Qiv x.2 (by omega)) fun _ _=>?_
 refine T1 (fun _=>?_) fun _=>k1 _
 exact T1 (fun _=>T2 fun h=>by cases h) fun _=>k1 _
theorem QCq (l:List QN)(k n:Int)(hl:QM QcB l):Qf (QfA l k n) fun r=>r.2=true→∃z,Qbe l k=some z∧r.1<z:=by
 unfold QfA Qbe
 refine T0 (Qjs l k hl).self fun x hx=>?_
 obtain⟨hxe,hx⟩:=hx
 refine T1 (fun _=>T2 fun h=>by cases h) fun hc=>?_
 have h:=hx.2 (by simpa using hc)
 have hk:k.toNat<x.2.sizes.length:=by omega
 have ei:idx x.2.sizes k=some x.2.sizes[k.toNat]:=QqB h.1.1 h.1.2
 have k1:∀m,Qf (Qc1 x m) fun r=>r.2=true→∃z,((Qf9 l k).bind fun x5=>bif (!x5.1)then some 0 else(idx x5.2.sizes k).bind fun e7=>some e7)=some z∧r.1<z:=fun m=>by
  unfold Qc1
  refine T0 (P:=fun y=>y=true→m<x.2.sizes[k.toNat]) ?_ fun y hy=>?_
  ·unfold QdB
   refine T0 (P:=fun y=>y=true→m<x.2.sizes[k.toNat]) ?_ fun y hy=>T2 hy
   unfold Qg6
   refine T1 (fun _=>?_) fun _=>T2 fun h=>by cases h
   rw [h.2.1,ei,Qi]
   exact T2 fun h=>by simpa using h
  refine T1 (fun _=>T2 fun h=>by cases h) fun hc2=>T2 fun _=>⟨x.2.sizes[k.toNat],?_,hy (by simpa using hc2)⟩
  rw [hxe,Qi,hc,cond_false,ei];rfl
 refine T0 (Qiv x.2 (by omega)) fun _ _=>?_
 refine T1 (fun _=>?_) fun _=>k1 _
 exact T1 (fun _=>T2 fun h=>by cases h) fun _=>k1 _
theorem Qei {α:Type}{o:Option α}{P:α→Prop}(h:Qf o P){r:α}(e:o=some r):P r:=by
 obtain⟨r',h1,h2⟩:=h
 rw [e]at h1;cases h1;exact h2
theorem QzY : ∀(n:Nat) (v:List Int) (e:Ql),POk v.length e→SizeOf.sizeOf e≤n→Qf (QaM n v e) fun _=>True
 | 0,_,e,_,h=>absurd e.pos (by omega)
 | n+1,v,e,he,h=>by
  cases he with
  | mk _ hk h2 h3 h5 h6 hr=>
  unfold QaM QlZ
  have sub:∀(j:Nat) (hj:j<e.Kids.length),Qf (QaM n v (e.Kids[j])) fun _=>True:=fun j hj=>
   QzY n v _ (hr _ (QaV hj)) (by have:=QuS (QaV hj);omega)
  have kid:∀(j:Nat) (hj:j<e.Kids.length),idx e.Kids (j:Int)=some e.Kids[j]:=fun j hj=>by rw [QO,QF hj]
  rcases hk with hk | hk | hk | hk | hk | hk
  ·refine T0 (P:=fun x=>x=.inl v) (by unfold Qdh;rw [hk];exact T2 rfl) fun x hx=>?_
   subst hx
   exact T3
  ·refine T0 (P:=fun x=>x=.inr (.inl v)) (by unfold Qdh;rw [hk];exact T2 rfl) fun x hx=>?_
   subst hx
   show Qf (Qhw e v) _
   unfold Qhw QjC
   have:=h2 hk
   exact T0 (T0 (T4 (by omega) (by omega)) fun _ _=>T3) fun _ _=>T3
  ·refine T0 (P:=fun x=>x=.inr (.inr (.inl v))) (by unfold Qdh Qc0;rw [hk];exact T2 rfl) fun x hx=>?_
   subst hx
   show Qf (QdM (QaM n) e v) _
   unfold QdM Qh8
   have hl:=h3 (.inl hk)
   refine T0 (P:=fun _=>True) ?_ fun _ _=>T3
   rw [show idx e.Kids 0=some (e.Kids[0]'(by omega))from kid 0 (by omega),Qi]
   refine T0 (sub 0 (by omega)) fun x _=>?_
   refine T1 (fun _=>T3) fun _=>T1 (fun _=>T0 (Qu5 _) fun _ _=>T3) fun _=>T0 (Qmq _ _ _) fun _ _=>T3
  ·refine T0 (P:=fun x=>x=.inr (.inr (.inl v))) (by unfold Qdh Qc0;rw [hk];exact T2 rfl) fun x hx=>?_
   subst hx
   show Qf (QdM (QaM n) e v) _
   unfold QdM Qh8
   have hl:=h3 (.inr hk)
   refine T0 (P:=fun _=>True) ?_ fun _ _=>T3
   rw [show idx e.Kids 0=some (e.Kids[0]'(by omega))from kid 0 (by omega),Qi]
   refine T0 (sub 0 (by omega)) fun x _=>?_
   refine T1 (fun _=>T3) fun _=>T1 (fun _=>T0 (Qu5 _) fun _ _=>T3) fun _=>T0 (Qmq _ _ _) fun _ _=>T3
  ·refine T0 (P:=fun x=>x=.inr (.inr (.inr (.inl v)))) (by unfold Qdh Qc0;rw [hk];exact T2 rfl) fun x hx=>?_
   subst hx
   show Qf (Qhx (QaM n) e v) _
   unfold Qhx Qoe
   have hl:=h5 hk
   refine T0 (P:=fun _=>True) ?_ fun _ _=>T3
   rw [show idx e.Kids 0=some (e.Kids[0]'(by omega))from kid 0 (by omega),Qi]
   refine T0 (sub 0 (by omega)) fun x _=>?_
   have k1:∀b,Qf (Qeh x e (QaM n) v b) fun _=>True:=fun b=>by
    unfold Qeh
    refine T1 (fun _=>T0 (Qmq _ _ _) fun _ _=>T3) fun _=>?_
    rw [show idx e.Kids 1=some (e.Kids[1]'(by omega))from kid 1 (by omega),Qi]
    refine T0 (sub 1 (by omega)) fun y _=>?_
    exact T1 (fun _=>T3) fun _=>T0 (Qmq _ _ _) fun _ _=>T3
   exact T1 (fun _=>T3) fun _=>T1 (fun _=>k1 _) fun _=>T1 (fun _=>k1 _) fun _=>k1 _
  refine T0 (P:=fun x=>x=.inr (.inr (.inr (.inr v)))) (by unfold Qdh Qc0;rw [hk];exact T2 rfl) fun x hx=>?_
  subst hx
  show Qf (Qhy (QaM n) e v) _
  unfold Qhy QlY
  have hl:=h6 hk
  refine T0 (P:=fun _=>True) ?_ fun _ _=>T3
  rw [show idx e.Kids 0=some (e.Kids[0]'(by omega))from kid 0 (by omega),Qi]
  refine T0 (sub 0 (by omega)) fun x _=>?_
  refine T1 (fun _=>T3) fun _=>T1 (fun _=>?_) fun _=>?_
  ·rw [show idx e.Kids 1=some (e.Kids[1]'(by omega))from kid 1 (by omega),Qi]
   exact T0 (sub 1 (by omega)) fun y _=>T3
  rw [show idx e.Kids 2=some (e.Kids[2]'(by omega))from kid 2 (by omega),Qi]
  exact T0 (sub 2 (by omega)) fun y _=>T3
theorem QzZ (e:Ql)(v:List Int)(h:QdO e):Qf (Qmc e v) fun _=>True:=by
 unfold Qmc
 refine T0 (Qoi e v.length h) fun x hx=>?_
 refine T1 (fun _=>T3) fun hc=>?_
 unfold QnD
 exact T0 (QzY _ v e (hx (by simpa using hc)) (Qb4 _)) fun _ _=>T3
theorem QxG (n:Qk)(task:Int)(vars:List Int)(h:QaQ n):Qf (QfZ n task vars) fun r=>r.2=0→0≤task∧task<n.Tasks.length:=by
 unfold QfZ
 refine T1 (fun _=>T2 fun h=>by cases h) fun hc=>?_
 simp only [Qc6,Q0]at hc
 refine T0 (T4 (by omega) (by omega)) fun e he=>?_
 have hv:=(h.tk e he).1
 have ke:=h.k.2.2.1.2 e he
 refine T1 (fun _=>T2 fun h=>by cases h) fun hl=>?_
 simp only [bne_eq_false_iff_eq]at hl
 refine T0 (T5 (by simp only [Qx,Qz];omega)) fun _ _=>?_
 refine T6 (P:=fun _=>True) ?_ fun _ _ _=>by omega
 refine T0 (Qf.up e.Vars.length (fun st=>st.1) (fun st=>st.2.length=e.Vars.length) (Q:=fun _=>True) rfl (by simp) (fun i st hi hn hJ=>?_)) (fun q _=>?_)
 ·obtain⟨x,l⟩:=st
  replace hi:x=(i:Int):=hi
  replace hJ:l.length=e.Vars.length:=hJ
  show Qf (Qhh e vars n x l) _
  unfold Qhh
  refine T1 (fun hc=>?_) (fun _=>T2 (Qn trivial))
  simp only [Qz]at hc
  refine T0 (T4 (by omega) (by omega)) fun a _=>?_
  refine T0 (T4 (by omega) (by omega)) fun b _=>?_
  refine T0 (QDw _ _ _ h.k.1) fun c _=>?_
  refine T1 (fun _=>T2 (Qn trivial)) fun _=>?_
  refine T0 (T4 (by omega) (by omega)) fun d _=>?_
  exact T2 (QA ⟨by omega,by subst hi;exact Qw (by omega) (by unfold maxLen;omega:e.Vars.length≤maxLen),by simpa using hJ⟩)
 rcases q with q | q
 ·exact T3
 exact T3
theorem Qoj {α:Type}{l:List α}{i:Nat}{x y:α}(h:y∈l.set i x):y=x∨y∈l:=by
 rcases Qzd h with h | h
 ·exact .inr h
 exact .inl h
theorem QqI (n:Qk)(l:List QY)(which env:List Int)(h:QaQ n)(hl:QM Qjq l)(hw:which.length≤1000):Qf (Qc5 n l which env) fun r=>r.2=0→MOk n which.length r.1∧Low n r.1:=by
 unfold Qc5
 have hpl:=h.pl
 refine T0 (T5 (by simp only [Qx,Qz];omega)) fun _ _=>?_
 refine T0 (Qf.up which.length (fun st=>st.1) (fun st=>(st.2.length=n.Places.length∧∀b∈st.2,Rt b∧(b.length:Int)≤st.1)∧Low n st.2) (Q:=fun q=>(∀x,q=.inl x→x≠0)∧∀m,q=.inr m→MOk n which.length m∧Low n m) rfl ⟨⟨by simp,fun b hb=>?_⟩,fun j b p hb hp k hk=>?_⟩ (fun i st hi hn hJ=>?_)) (fun q hq=>?_)
 ·have:=QqY hb
  subst this
  exact⟨Rt.nil,by simp⟩
 ·have:=QqY (QaA hb)
  subst this
  simp [QI,QR]at hk
 ·obtain⟨x,m⟩:=st
  replace hi:x=(i:Int):=hi
  obtain⟨⟨hJ1,hJ2⟩,hJ3⟩:(m.length=n.Places.length∧∀b∈m,Rt b∧(b.length:Int)≤x)∧Low n m:=hJ
  have err:∀y:Int,y≠0→(∀s',(Sum.inr (Sum.inl y):(Int×List (List (Int×Int)))⊕(Int⊕List (List (Int×Int))))=.inl s'→i<which.length∧s'.1=((i+1:Nat):Int)∧(s'.2.length=n.Places.length∧∀b∈s'.2,Rt b∧(b.length:Int)≤s'.1)∧Low n s'.2)∧∀r,(Sum.inr (Sum.inl y):(Int×List (List (Int×Int)))⊕(Int⊕List (List (Int×Int))))=.inr r→(∀x,r=.inl x→x≠0)∧∀m,r=.inr m→MOk n which.length m∧Low n m:=
   fun y hy=>⟨fun s' e=>(by cases e),fun r e=>(by cases e;exact⟨fun x e=>(by cases e;exact hy),fun m e=>(by cases e)⟩)⟩
  show Qf (QeV which l env n x m) _
  unfold QeV
  refine T1 (fun hc=>?_) (fun hc=>T2 (Qn ⟨fun x e=>(by cases e),fun m' e=>?_⟩))
  ·simp only [Qz]at hc
   refine T0 (T4 (by omega) (by omega)) fun e18 _=>?_
   refine T1 (fun _=>T2 (err _ (by decide))) fun hc1=>?_
   simp only [Qc6,Q0]at hc1
   refine T0 (T4 (by omega) (by omega)) fun e22 h22=>?_
   refine T0 (QzZ e22.Expr env (hl.2 e22 h22).2) fun x23 _=>?_
   refine T1 (fun hc2=>T2 (err _ (by simpa using hc2))) fun _=>?_
   refine T0 (T4 (by omega) (by omega)) fun e25 _=>?_
   refine T1 (fun _=>T2 (err _ (by decide))) fun hc3=>?_
   simp only [Qc6,Q0]at hc3
   refine T0 (T4 (by omega) (by omega)).self fun e29 h29=>?_
   refine T0 (QzX _ _ _ h.k.1).self fun x30 h30=>?_
   refine T1 (fun _=>T2 (err _ (by decide))) fun hc4=>?_
   have hz:=Qei (QCq _ _ _ h.k.1) h30.1 (by simpa using hc4)
   have h30:=h30.2 (by simpa using hc4)
   refine T0 (T4 (by omega) (by omega)).self fun e32 h32e=>?_
   have h32:=h32e.2
   have h32e:=h32e.1
   have h29:=h29.1
   rw [QxF,QaS h30]
   simp only [cond_true,Qi]
   have hb:=hJ2 e32 h32
   have key:∃s,QbU e32 [(x30.1,1)]=some s∧(s.2=0→(Rt s.1∧s.1.length≤e32.length+1)∧∀k,QI s.1 k=QI e32 k+QI [(x30.1,1)] k):=by
    rcases Qk0 e32 [(x30.1,1)] (by simp;omega)with⟨_,e⟩|⟨_,_,_,e⟩|⟨_,_,r,e,h1,hcn,h2⟩
    ·exact⟨_,e,fun h=>by cases h⟩
    ·exact⟨_,e,fun h=>by cases h⟩
    exact⟨_,e,fun _=>⟨⟨h1,by simpa using h2⟩,hcn⟩⟩
   obtain⟨s,es,hs⟩:=key
   rw [es,Qi]
   refine T0 (T4 (by omega) (by omega)) fun _ _=>?_
   refine T1 (fun hc5=>T2 (err _ (by simpa using hc5))) fun hc5=>?_
   obtain⟨hs,hcn⟩:=hs (by simpa using hc5)
   refine T2 (QA ⟨by omega,by subst hi;exact Qw (by omega) (by unfold maxLen;omega:which.length≤maxLen),⟨by simpa using hJ1,fun b hb'=>?_⟩,fun j b p hb' hp k hk=>?_⟩)
   ·subst hi
    show Rt b∧(b.length:Int)≤w64 ((i:Int)+1)
    rw [Qw (by omega) (by unfold maxLen;omega:which.length≤maxLen)]
    rcases Qoj hb' with rfl | hb'
    ·exact⟨hs.1,by omega⟩
    have:=hJ2 b hb'
    exact⟨this.1,by omega⟩
   have hb':(m.set e25.Place.toNat s.1)[j]? = some b:=hb'
   by_cases cj:e25.Place.toNat=j
   ·subst cj
    rw [Qq0 (by omega)]at hb'
    cases hb'
    rw [Qm6 (by omega)]at h29 h32e
    rw [h29]at hp
    cases hp
    rw [hcn]at hk
    by_cases c0:0<QI e32 k
    ·exact hJ3 _ e32 e29 h32e h29 k c0
    have h9:0<QI [(x30.1,1)] k:=by omega
    have h8:x30.1=k:=by
     apply Decidable.byContradiction
     intro hne
     simp [QI,QR,hne]at h9
    obtain⟨z,hz1,hz2⟩:=hz
    exact⟨z,hz1,by omega⟩
   rw [QqZ cj]at hb'
   exact hJ3 j b p hb' hp k hk
  cases e
  exact⟨⟨hJ1,fun b hb=>⟨(hJ2 b hb).1,by have:=(hJ2 b hb).2;omega⟩⟩,hJ3⟩
 rcases q with q | q
 ·exact T2 fun h=>absurd h (hq.1 q rfl)
 exact T2 fun _=>hq.2 q rfl
theorem Qz0 (a m:List (List (Int×Int)))(ha:QM (QM fun _=>True) a)(hm:QM (QM fun _=>True) m):Qf (Qjp a m) fun _=>True:=by
 unfold Qjp Qaw
 refine T0 (P:=fun _=>True) ?_ fun _ _=>T3
 refine T1 (fun _=>T3) fun hc=>?_
 simp only [bne_eq_false_iff_eq]at hc
 refine T0 (Qf.up a.length (fun st=>st) (fun _=>True) (Q:=fun _=>True) rfl trivial (fun i st hi hn hJ=>?_)) (fun q _=>?_)
 ·show Qf (Q8 a m st) _
  unfold Q8
  refine T1 (fun hc=>?_) (fun _=>T2 (Qn trivial))
  simp only [Qz]at hc
  refine T0 (T4 (by omega) (by omega)) fun x hx=>?_
  refine T0 (T4 (by omega) (by omega)) fun y hy=>?_
  refine T0 (P:=fun _=>True) (by obtain⟨r,hr,_⟩:=QxE x y (ha.2 x hx).1 (hm.2 y hy).1;exact⟨r,hr,trivial⟩) fun _ _=>?_
  exact T1 (fun _=>T2 (Qn trivial)) fun _=>T2 (QA ⟨by omega,by rw [hi];exact Qw (by omega) ha.1,trivial⟩)
 rcases q with q | q
 ·exact T3
 exact T3
theorem MOk.len {n:Qk}{c:Nat}{m:List (List (Int×Int))}(h:MOk n c m)(hn:QaQ n)(hc:c≤1000000):QM (QM fun _=>True) m:=
 ⟨by have:=h.1;have:=hn.pl;unfold maxLen;omega,fun b hb=>⟨by have:=(h.2 b hb).2;unfold maxLen;omega,fun _ _=>trivial⟩⟩
end Go.Proofs
noncomputable section
namespace Go.Proofs
open Go Go.RowKit Go.Vm
structure BOk (n:Qk) (m:List (List (Int×Int))) (b:QP):Prop where
 net:b.net=n
 mm:b.m=m
 task:b.task∈n.Tasks
theorem QAP (n:Qk)(m:List (List (Int×Int)))(task:Int)(vars:List Int)(h:QaQ n):Qf (Qcq n m task vars) fun r=>r.1=0→BOk n m r.2:=by
 unfold Qcq
 refine T0 (QxG n task vars h) fun x hx=>?_
 refine T1 (fun hc=>T2 fun h=>absurd h (by simpa using hc)) fun hc=>?_
 have:=hx (by simpa using hc)
 exact T0 (T4 this.1 this.2) fun e he=>T2 fun _=>⟨rfl,rfl,he⟩
theorem QyL (n:Qk)(m:List (List (Int×Int)))(b:QP)(h:QaQ n)(hb:BOk n m b):Qf (Qan b) fun _=>True:=by
 unfold Qan
 refine T0 (QzZ _ _ (h.k.2.2.1.2 _ hb.task).2.2.1) fun x _=>?_
 exact T1 (fun _=>T3) fun _=>T1 (fun _=>T3) fun _=>T3
theorem Qyn (n:Qk)(m:List (List (Int×Int)))(b:QP)(outs:List Int)(h:QaQ n)(hb:BOk n m b)(ho:outs.length≤1000):Qf (QaF b outs) fun _=>True:=by
 unfold QaF
 rw [hb.net]
 exact T0 (QqI n _ outs _ h (h.k.2.2.1.2 _ hb.task).2.2.2.2.2.2.1 ho) fun x _=>T3
theorem QBy (l:List Int)(x:Int)(h:l.length≤maxLen):Qf (QbO l x) fun _=>True:=QiB l x ⟨h,fun _ _=>trivial⟩
theorem QoP (l:List Int)(h:l.length≤4294967296):Qae l=some l:=by
 unfold Qae
 rw [QnN (by simp;omega)];rfl
theorem QDx (l:List Int)(h:l.length≤4294967296):Qa1 l=some (Qe0 l):=by
 unfold Qa1
 rw [QnN (by omega)];rfl
theorem QAQ (n:Qk)(m:List (List (Int×Int)))(b:QP)(ins:List Int)(h:QaQ n)(hb:BOk n m b)(hm:QM (QM fun _=>True) m)(hi:ins.length≤100):Qf (Qaq b ins) fun _=>True:=by
 have ki:=(h.k.2.2.1.2 _ hb.task).2.2.2.2.2.1
 have kl:=(h.tk _ hb.task).2.1
 unfold Qaq
 rw [hb.net,hb.mm]
 refine T0 (QqI n _ ins _ h ki (by omega)) fun x hx=>?_
 refine T1 (fun _=>T3) fun hc=>?_
 have hx:=hx (by simpa using hc)
 refine T0 (Qz0 _ _ (hx.1.len h (by omega)) hm) fun y _=>?_
 refine T1 (fun _=>T3) fun _=>T1 (fun _=>T3) fun _=>?_
 refine T0 (Qf.up b.task.Ins.length (fun st=>st) (fun _=>True) (Q:=fun _=>True) rfl trivial (fun i st hi hn _=>?_)) (fun q _=>?_)
 ·show Qf (Qe7 b ins st) _
  unfold Qe7
  refine T1 (fun hc=>?_) (fun _=>T2 (Qn trivial))
  simp only [Qz]at hc
  have step:Qf (Qe5 st) fun o=>(∀s',o=.inl s'→i<b.task.Ins.length∧s'=((i+1:Nat):Int)∧True)∧∀r:Unit⊕Unit,o=.inr r→True:=
   T2 (QA (ix:=fun st=>st) (J:=fun _=>True) (Q:=fun _=>True) ⟨by omega,by rw [hi];exact Qw (by omega) ki.1,trivial⟩)
  refine T0 (QBy ins st (by unfold maxLen;omega)) fun z _=>?_
  refine T1 (fun _=>step) fun _=>?_
  rw [QoP ins (by omega),Qi]
  refine T0 (T5 (by simp;omega)) fun _ _=>?_
  rw [QDx _ (by simp;omega),Qi]
  refine T0 (T5 (by simp [Qho])) fun _ _=>?_
  rw [hb.net]
  refine T0 (QqI n _ _ _ h ki (by rw [Qho];simp;omega)) fun u hu=>?_
  refine T0 (P:=fun _=>True) ?_ fun v _=>?_
  ·unfold Qmk
   rw [hb.mm]
   refine T1 (fun hc2=>?_) fun _=>T3
   have hu:=hu (by simpa using hc2)
   refine T0 (Qz0 _ _ (hu.1.len h (by rw [Qho];simp;omega)) hm) fun _ _=>T3
  unfold Qe6
  exact T1 (fun _=>T2 (Qn trivial)) fun _=>step
 rcases q with q | q
 ·exact T3
 exact T3
def Qk1 (r:List (List Int)):Prop:=r.length≤16∧∀row∈r,row.length≤16
def chB (o:Option (List (List Int))):Bool:=match o with
 | some r=>decide (r.length≤16)&&r.all fun row=>decide (row.length≤16)
 | none=>false
theorem Qz1 {o:Option (List (List Int))}(h:chB o=true):Qf o Qk1:=by
 cases o with
 | none=>cases h
 | some r=>
  simp only [chB,Qx,Qz,Qad]at h
  exact T2 h
theorem QE5 {arcs:Int}(h0:¬arcs<0)(h1:¬16<arcs):arcs=0∨arcs=1∨arcs=2∨arcs=3∨arcs=4∨arcs=5∨arcs=6∨arcs=7∨arcs=8∨arcs=9∨arcs=10∨arcs=11∨arcs=12∨arcs=13∨arcs=14∨arcs=15∨arcs=16:=by omega
set_option maxRecDepth 100000 in
theorem QrF (kind arcs:Int):Qf (QaG kind arcs) Qk1:=by
 by_cases hg:((decide (arcs<0))||((decide (16<arcs))||((kind==3)&&(decide (4<arcs)))))=true
 ·unfold QaG
  rw [hg]
  exact T2 ⟨by simp,fun r h=>by cases h⟩
 simp only [QdP,Qx,Qz,beq_iff_eq,not_or,not_and]at hg
 obtain⟨h0,h1,h2⟩:=hg
 by_cases e1:kind=1
 ·subst e1
  rcases QE5 h0 h1 with rfl | rfl | rfl | rfl | rfl | rfl | rfl | rfl | rfl | rfl | rfl | rfl | rfl | rfl | rfl | rfl | rfl<;>exact Qz1 (by kernel_rfl)
 by_cases e2:kind=2
 ·subst e2
  rcases QE5 h0 h1 with rfl | rfl | rfl | rfl | rfl | rfl | rfl | rfl | rfl | rfl | rfl | rfl | rfl | rfl | rfl | rfl | rfl<;>exact Qz1 (by kernel_rfl)
 by_cases e3:kind=3
 ·subst e3
  have h3:=h2 rfl
  have:arcs=0∨arcs=1∨arcs=2∨arcs=3∨arcs=4:=by omega
  rcases this with rfl | rfl | rfl | rfl | rfl<;>exact Qz1 (by kernel_rfl)
 have f1:(kind==1)=false:=by simpa using e1
 have f2:(kind==2)=false:=by simpa using e2
 have f3:(kind==3)=false:=by simpa using e3
 unfold QaG Qee
 rw [f1,f2,f3]
 exact T1 (fun _=>T2 ⟨by simp,fun r h=>by cases h⟩) fun _=>T2 ⟨by simp,fun r h=>by cases h⟩
theorem QEg (a b:List Int)(ha:a.length≤maxLen):Qf (QbF a b) fun _=>True:=by
 unfold QbF
 refine T1 (fun _=>T3) fun hc=>?_
 simp only [bne_eq_false_iff_eq]at hc
 refine T0 (Qf.up a.length (fun st=>st) (fun _=>True) (Q:=fun _=>True) rfl trivial (fun i st hi hn hJ=>?_)) (fun q _=>?_)
 ·show Qf (QbP a b st) _
  unfold QbP
  refine T1 (fun hc=>?_) (fun _=>T2 (Qn trivial))
  simp only [Qz]at hc
  refine T0 (T4 (by omega) (by omega)) fun x hx=>?_
  refine T0 (T4 (by omega) (by omega)) fun y hy=>?_
  exact T1 (fun _=>T2 (Qn trivial)) fun _=>T2 (QA ⟨by omega,by rw [hi];exact Qw (by omega) ha,trivial⟩)
 rcases q with q | q
 ·exact T3
 exact T3
theorem Qz2 (kind arcs:Int)(row:List Int):Qf (Qeo kind arcs row) fun _=>True:=by
 unfold Qeo Qcm QcM
 refine T0 (QrF kind arcs) fun x hx=>?_
 refine T0 (P:=fun _=>True) ?_ fun _ _=>T3
 refine T0 (P:=fun _=>True) ?_ fun _ _=>T3
 have hl:=hx.1
 refine T0 (Qf.up x.length (fun st=>st) (fun _=>True) (Q:=fun _=>True) rfl trivial (fun i st hi hn hJ=>?_)) (fun q _=>?_)
 ·show Qf (Qaj x row st) _
  unfold Qaj Qkk
  refine T1 (fun hc=>?_) (fun _=>T2 (Qn trivial))
  simp only [Qz]at hc
  refine T0 (T4 (by omega) (by omega)) fun e he=>?_
  have:=hx.2 e he
  refine T0 (T0 (QEg e row (by unfold maxLen;omega)) fun _ _=>T3) fun _ _=>?_
  exact T1 (fun _=>T2 (Qn trivial)) fun _=>T2 (QA ⟨by omega,by rw [hi];exact Qw (by omega) (by unfold maxLen;omega:x.length≤maxLen),trivial⟩)
 rcases q with q | q
 ·exact T3
 exact T3
def Qb3 (n:Qk)(o:Qq):Prop:=o.Vars.length≤20∧o.Ins.length≤20∧o.Outs.length≤20
theorem QEh (n:Qk)(m:List (List (Int×Int)))(o:Qq)(h:QaQ n)(hm:QM (QM fun _=>True) m)(ho:Qb3 n o):Qf (Qfg n m o) fun _=>True:=by
 unfold Qfg
 refine T0 (QAP n m o.Task o.Vars h) fun x hx=>?_
 have k3:∀e,(e=0→x.1=0)→Qf (Qdi x o e) fun _=>True:=fun e he=>by
  unfold Qdi
  refine T1 (fun _=>T3) fun hc=>?_
  have hb:=hx (he (by simpa using hc))
  refine T0 (P:=fun _=>True) ?_ fun y _=>?_
  ·unfold Qkl
   refine T0 (Qz2 _ _ _) fun z _=>?_
   exact T1 (fun _=>T3) fun _=>T0 (Qz2 _ _ _) fun _ _=>T3
  unfold QfC
  refine T1 (fun _=>T3) fun _=>?_
  refine T0 (QAQ n m x.2 o.Ins h hb hm (by have:=ho.2.1;omega)) fun z _=>?_
  refine T1 (fun _=>T3) fun _=>?_
  exact T0 (Qyn n m x.2 o.Outs h hb (by have:=ho.2.2;omega)) fun _ _=>T3
 refine T1 (fun hc=>?_) fun hc=>k3 _ fun h=>h
 have hc:x.1=0:=by simpa using hc
 exact T0 (QyL n m x.2 h (hx hc)) fun e _=>k3 e fun _=>hc
theorem QAR (n:Qk)(o:Qq)(h:QaQ n)(ho:Qb3 n o):Qf (QgP n o) fun r=>r.2=0→MOk n 20 r.1∧Low n r.1:=by
 unfold QgP
 refine T0 (QxG n o.Task o.Vars h) fun x hx=>?_
 refine T1 (fun hc=>T2 fun h=>absurd h (by simpa using hc)) fun hc=>?_
 have:=hx (by simpa using hc)
 refine T0 (T4 this.1 this.2) fun e he=>?_
 have hl:=ho.2.1
 exact T0 (QqI n _ _ _ h (h.k.2.2.1.2 _ he).2.2.2.2.2.1 (by omega)) fun y hy=>T2 fun h0=>⟨(hy h0).1.mono hl,(hy h0).2⟩
theorem Qyo (n:Qk)(o:Qq)(h:QaQ n)(ho:Qb3 n o):Qf (QgQ n o) fun r=>r.2=0→(MOk n 20 r.1∧Low n r.1)∧0≤o.Task∧o.Task<n.Tasks.length:=by
 unfold QgQ
 refine T0 (QxG n o.Task o.Vars h) fun x hx=>?_
 refine T1 (fun hc=>T2 fun h=>absurd h (by simpa using hc)) fun hc=>?_
 have:=hx (by simpa using hc)
 refine T0 (T4 this.1 this.2) fun e he=>?_
 have hl:=ho.2.2
 exact T0 (QqI n _ _ _ h (h.k.2.2.1.2 _ he).2.2.2.2.2.2.1 (by omega)) fun y hy=>T2 fun h0=>⟨⟨(hy h0).1.mono hl,(hy h0).2⟩,this⟩
end Go.Proofs
