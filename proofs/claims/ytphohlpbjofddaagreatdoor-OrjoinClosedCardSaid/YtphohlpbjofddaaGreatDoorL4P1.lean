/- A part of the proof; what it holds is told at each theorem. -/
import Derived.Test.YtphohlpbjofddaaGreatDoorL4XPlA
import Derived.Test.YtphohlpbjofddaaGreatDoorL4V3
import Derived.Test.YtphohlpbjofddaaGreatDoorL4T3
import Derived.KernelRfl
set_option linter.unusedVariables false
set_option linter.unusedSimpArgs false
set_option linter.unusedSectionVars false
set_option linter.deprecated false
namespace Go.Vm
open Go Go.RowKit
def TotP {α:Type}(o:Option α)(Q:α→Prop):Prop:=∃r,o=some r∧Q r
section
variable {α β σ ρ:Type}
theorem TotP.ok {a:α}{Q:α→Prop}(h:Q a):TotP (some a) Q:=⟨a,rfl,h⟩
theorem TotP.okT {a:α}:TotP (some a) fun _=>True:=⟨a,rfl,trivial⟩
theorem TotP.bind {o:Option α}{f:α→Option β}{P:α→Prop}{Q:β→Prop}(h:TotP o P)(k:∀x,P x→TotP (f x) Q):TotP (o.bind f) Q:=by
 obtain⟨x,rfl,hx⟩:=h
 exact k x hx
theorem TotP.bif {c:Bool}{a b:Option α}{Q:α→Prop}(h1:c=true→TotP a Q)(h2:c=false→TotP b Q):TotP (bif c then a else b) Q:=by
 cases c with
 | true=>exact h1 rfl
 | false=>exact h2 rfl
theorem TotP.chk {c:Bool}(h:c=true):TotP (chk c) fun _=>True:=⟨(),Qvb h,trivial⟩
theorem TotP.idx {l:List α}{j:Int}(h0:0≤j)(h1:j<l.length):TotP (idx l j) fun x=>x∈l:=by
 rw [QpM h0 h1]
 exact⟨_,rfl,List.getElem_mem _⟩
theorem TotP.get {l:List α}{j:Nat}(h1:j<l.length):TotP (l[j]?) fun x=>x∈l:=by
 rw [List.getElem?_eq_getElem h1]
 exact⟨_,rfl,List.getElem_mem _⟩
theorem TotP.sidx {s:ByteArray}{j:Int}(h0:0≤j)(h1:j<s.size):TotP (sidx s j) fun _=>True:=by
 unfold Vm.sidx
 rw [if_pos h0]
 have:j.toNat<s.size:=by omega
 rw [getElem?_pos s j.toNat this]
 exact⟨_,rfl,trivial⟩
theorem TotP.mono {o:Option α}{P Q:α→Prop}(h:TotP o P)(k:∀x,P x→Q x):TotP o Q:=let ⟨r,h1,h2⟩:=h;⟨r,h1,k r h2⟩
theorem TotP.tot {o:Option α}{P:α→Prop}(h:TotP o P):∃r,o=some r:=let ⟨r,h1,_⟩:=h;⟨r,h1⟩
theorem TotP.self {o:Option α}{P:α→Prop}(h:TotP o P):TotP o fun x=>o=some x∧P x:=let ⟨r,h1,h2⟩:=h;⟨r,h1,h1,h2⟩
theorem TotP.up {body:σ→Option (σ⊕ρ)}(n:Nat)(ix:σ→Int)(J:σ→Prop){Q:ρ→Prop}{s0:σ}(h0:ix s0=0)(hJ:J s0)
  (step:∀(i:Nat) s,ix s=(i:Int)→i≤n→J s→TotP (body s) fun o=>(∀s',o=.inl s'→i<n∧ix s'=((i+1:Nat):Int)∧J s')∧∀r,o=.inr r→Q r):TotP (QA body s0) Q:=by
 have key:∀k i s,i+k=n→ix s=(i:Int)→J s→∃r,QA body s=some r∧Q r:=by
  intro k
  induction k with
  | zero=>
   intro i s hk hi hj
   obtain⟨o,ho,h1,h2⟩:=step i s hi (by omega) hj
   rw [QdR,ho]
   cases o with
   | inl s'=>have:=(h1 s' rfl).1;omega
   | inr r=>exact⟨r,rfl,h2 r rfl⟩
  | succ k ih=>
   intro i s hk hi hj
   obtain⟨o,ho,h1,h2⟩:=step i s hi (by omega) hj
   rw [QdR,ho]
   cases o with
   | inl s'=>
    obtain⟨_,h3,h4⟩:=h1 s' rfl
    exact ih (i+1) s' (by omega) h3 h4
   | inr r=>exact⟨r,rfl,h2 r rfl⟩
 exact key n 0 s0 (by omega) h0 hJ
theorem Qx {s:σ}{n i:Nat}{ix:σ→Int}{J:σ→Prop}{Q:ρ→Prop}(h:i<n∧ix s=((i+1:Nat):Int)∧J s):
  (∀s',(Sum.inl s:σ⊕ρ)=.inl s'→i<n∧ix s'=((i+1:Nat):Int)∧J s')∧∀r,(Sum.inl s:σ⊕ρ)=.inr r→Q r:=
 ⟨fun s' e=>(by cases e;exact h),fun r e=>(by cases e)⟩
theorem Ql {r:ρ}{n i:Nat}{ix:σ→Int}{J:σ→Prop}{Q:ρ→Prop}(h:Q r):
  (∀s',(Sum.inr r:σ⊕ρ)=.inl s'→i<n∧ix s'=((i+1:Nat):Int)∧J s')∧∀r',(Sum.inr r:σ⊕ρ)=.inr r'→Q r':=
 ⟨fun s' e=>(by cases e),fun r' e=>(by cases e;exact h)⟩
end
def lenL {α:Type}(ok:α→Prop)(l:List α):Prop:=l.length≤maxLen∧∀x∈l,ok x
theorem lenL.drop {α:Type}{ok:α→Prop}{l:List α}(h:lenL ok l)(k:Nat):lenL ok (l.drop k):=⟨by have:=h.1;rw [List.length_drop];omega,fun x hx=>h.2 x (List.mem_of_mem_drop hx)⟩
theorem lenL.take {α:Type}{ok:α→Prop}{l:List α}(h:lenL ok l)(k:Nat):lenL ok (l.take k):=⟨by have:=h.1;rw [List.length_take];omega,fun x hx=>h.2 x (List.mem_of_mem_take hx)⟩
theorem lenL.nil {α:Type}{ok:α→Prop}:lenL ok ([]:List α):=⟨by simp,fun x h=>by cases h⟩
theorem lenL.app {α:Type}{ok:α→Prop}{l m:List α}(h:lenL ok l)(hm:lenL ok m)(hs:l.length+m.length≤maxLen):lenL ok (l++m):=⟨by simpa using hs,fun x hx=>by rcases List.mem_append.1 hx with h1 | h1;exact h.2 x h1;exact hm.2 x h1⟩
def Qf0 (s:ByteArray):Prop:=s.size≤maxLen
theorem QvX {s:ByteArray}(h:QhI s (⟨#[]⟩:ByteArray)=false):0<s.size:=by
 apply Nat.pos_of_ne_zero
 intro h0
 have:s=⟨#[]⟩:=by
  obtain⟨a⟩:=s
  have:a=#[]:=Array.eq_empty_of_size_eq_zero h0
  rw [this]
 subst this
 simp [QhI]at h
theorem QkG {a b:Int}:0≤min2 a b↔0≤a∧0≤b:=by unfold min2;split<;>omega
theorem QkH {a b n:Int}:max2 a b<n↔a<n∧b<n:=by unfold max2;split<;>omega
theorem Qjp {a b n:Int}:max2 a b≤n↔a≤n∧b≤n:=by unfold max2;split<;>omega
end Go.Vm
namespace Go.Vm
open Go Go.RowKit
def Asc (l:List (Int×Int)):Prop:=l.Pairwise fun p q=>p.1<q.1
def QlM (l:List (Int×Int)):Prop:=l.Pairwise fun p q=>p.1≠q.1
theorem Asc.nd {l:List (Int×Int)}(h:Asc l):QlM l:=h.imp fun h=>by omega
theorem QfW {p:Int×Int}{l:List (Int×Int)}:Asc (p::l)↔(∀q∈l,p.1<q.1)∧Asc l:=List.pairwise_cons
theorem Qut {p:Int×Int}{l:List (Int×Int)}:QlM (p::l)↔(∀q∈l,p.1≠q.1)∧QlM l:=List.pairwise_cons
theorem QrX {l:List (Int×Int)}{k:Int}:mget l k=none↔∀p∈l,p.1≠k:=by
 induction l with
 | nil=>simp [mget]
 | cons p l ih=>
  obtain⟨a,x⟩:=p
  rw [Qac]
  by_cases h:a=k
  ·simp [h]
  ·simp [h,ih]
theorem QdC {l:List (Int×Int)}(hn:QlM l){k v:Int}:mget l k=some v↔(k,v)∈l:=by
 induction l with
 | nil=>simp [mget]
 | cons p l ih=>
  obtain⟨a,x⟩:=p
  obtain⟨h1,h2⟩:=Qut.1 hn
  rw [Qac]
  by_cases h:a=k
  ·subst h
   rw [if_pos rfl]
   constructor
   ·intro e;cases e;simp
   ·intro e
    rcases List.mem_cons.1 e with e | e
    ·cases e;rfl
    ·exact absurd rfl (h1 (a,v) e)
  ·rw [if_neg h,ih h2]
   constructor
   ·intro e;exact List.mem_cons_of_mem _ e
   ·intro e
    rcases List.mem_cons.1 e with e | e
    ·cases e;exact absurd rfl h
    ·exact e
theorem QvY {l m:List (Int×Int)}(hl:QlM l)(h:l.Perm m)(k:Int):mget l k=mget m k:=by
 have hm:QlM m:=(h.pairwise_iff (fun hab=>Ne.symm hab)).1 hl
 apply Option.ext
 intro v
 rw [QdC hl,QdC hm]
 exact h.mem_iff
theorem Quu {l m:List (Int×Int)}(hl:Asc l)(hm:Asc m)(h:∀k,mget l k=mget m k):l=m:=by
 induction l generalizing m with
 | nil=>
  cases m with
  | nil=>rfl
  | cons p m=>have:=h p.1;rw [Qac (κ:=Int)]at this;simp [mget]at this
 | cons p l ih=>
  obtain⟨a,x⟩:=p
  cases m with
  | nil=>have:=h a;rw [Qac]at this;simp [mget]at this
  | cons q m=>
   obtain⟨b,y⟩:=q
   obtain⟨l1,l2⟩:=QfW.1 hl
   obtain⟨m1,m2⟩:=QfW.1 hm
   have hab:a=b:=by
    rcases Int.lt_trichotomy a b with hc | hc | hc
    ·have e:=h a
     rw [Qac,Qac,if_pos rfl,if_neg (by omega),QrX.2 (fun p hp=>by have:=m1 p hp;simp at this;omega)]at e
     cases e
    ·exact hc
    ·have e:=h b
     rw [Qac,Qac,if_neg (by omega),if_pos rfl,QrX.2 (fun p hp=>by have:=l1 p hp;simp at this;omega)]at e
     cases e
   subst hab
   have e:=h a
   rw [Qac,Qac,if_pos rfl,if_pos rfl]at e
   cases e
   rw [ih l2 m2 fun k=>?_]
   by_cases hk:a=k
   ·subst hk
    rw [QrX.2 (fun p hp=>by have:=l1 p hp;simp at this;omega),QrX.2 (fun p hp=>by have:=m1 p hp;simp at this;omega)]
   ·have:=h k
    rwa [Qac,Qac,if_neg hk,if_neg hk]at this
theorem QxS {l:List (Int×Int)}{k v:Int}{p:Int×Int}(h:p∈mrep l k v):∃q∈l,q.1=p.1:=by
 induction l with
 | nil=>cases h
 | cons q l ih=>
  obtain⟨a,x⟩:=q
  rw [mrep]at h
  split at h
  ·rename_i e
   rcases List.mem_cons.1 h with rfl | h
   ·exact⟨_,List.mem_cons_self,e⟩
   ·exact⟨p,List.mem_cons_of_mem _ h,rfl⟩
  ·rcases List.mem_cons.1 h with rfl | h
   ·exact⟨_,List.mem_cons_self,rfl⟩
   ·obtain⟨q,h1,h2⟩:=ih h
    exact⟨q,List.mem_cons_of_mem _ h1,h2⟩
theorem QwH {lt:Int→Int→Bool}{l:List (Int×Int)}{k v:Int}{p:Int×Int}(h:p∈mins lt l k v):p=(k,v)∨p∈l:=by
 induction l with
 | nil=>simp [mins]at h;exact .inl h
 | cons q l ih=>
  obtain⟨a,x⟩:=q
  rw [mins]at h
  split at h
  ·rcases List.mem_cons.1 h with h | h
   ·exact .inl h
   ·exact .inr h
  ·rcases List.mem_cons.1 h with h | h
   ·exact .inr (h▸List.mem_cons_self)
   ·rcases ih h with h | h
    ·exact .inl h
    ·exact .inr (List.mem_cons_of_mem _ h)
theorem QtO {l:List (Int×Int)}(h:Asc l)(k v:Int):Asc (mset ltI l k v):=by
 unfold mset
 split
 ·rename_i x hx
  clear hx
  induction l with
  | nil=>exact h
  | cons p l ih=>
   obtain⟨a,x⟩:=p
   obtain⟨h1,h2⟩:=QfW.1 h
   rw [mrep]
   split
   ·rename_i e;subst e;exact QfW.2 ⟨h1,h2⟩
   ·refine QfW.2 ⟨fun q hq=>?_,ih h2⟩
    obtain⟨q',hq',e⟩:=QxS hq
    rw [←e];exact h1 _ hq'
 ·rename_i hn
  induction l with
  | nil=>exact List.pairwise_singleton _ _
  | cons p l ih=>
   obtain⟨a,x⟩:=p
   obtain⟨h1,h2⟩:=QfW.1 h
   rw [Qac]at hn
   split at hn
   ·cases hn
   ·rename_i hne
    rw [mins]
    split
    ·rename_i e
     have e:k<a:=of_decide_eq_true e
     refine QfW.2 ⟨fun q hq=>?_,h⟩
     rcases List.mem_cons.1 hq with rfl | hq
     ·exact e
     ·have:=h1 q hq;simp at this ⊢;omega
    ·rename_i e
     have e:¬k<a:=fun c=>e (decide_eq_true c)
     refine QfW.2 ⟨fun q hq=>?_,ih h2 hn⟩
     rcases QwH hq with rfl | hq
     ·show a<k;omega
     ·exact h1 q hq
theorem QwI {l:List (Int×Int)}{k v:Int}:(mrep l k v).length=l.length:=by
 induction l with
 | nil=>rfl
 | cons p l ih=>
  obtain⟨a,x⟩:=p
  rw [mrep]
  split
  ·rfl
  ·simp [ih]
theorem QwJ {lt:Int→Int→Bool}{l:List (Int×Int)}{k v:Int}:(mins lt l k v).length=l.length+1:=by
 induction l with
 | nil=>rfl
 | cons p l ih=>
  obtain⟨a,x⟩:=p
  rw [mins]
  split
  ·rfl
  ·simp [ih]
theorem QwK {l:List (Int×Int)}{k v:Int}:(mset ltI l k v).length≤l.length+1:=by
 unfold mset
 split
 ·rw [QwI];omega
 ·rw [QwJ];exact Nat.le_refl _
theorem QwL {l:List (Int×Int)}{k v:Int}(h:Asc (l++[(k,v)])):mset ltI l k v=l++[(k,v)]:=by
 have hl:Asc l:=(List.pairwise_append.1 h).1
 refine Quu (QtO hl k v) h fun j=>?_
 rw [QkF]
 have hk:∀p∈l,p.1<k:=fun p hp=>(List.pairwise_append.1 h).2.2 p hp (k,v) (by simp)
 clear h
 induction l with
 | nil=>
  show(if j=k then some v else none)=(if k=j then some v else none)
  by_cases c:j=k
  ·rw [if_pos c,if_pos c.symm]
  ·rw [if_neg c,if_neg (fun e=>c e.symm)]
 | cons p l ih=>
  obtain⟨a,x⟩:=p
  have h1:=hk (a,x) List.mem_cons_self
  simp only at h1
  rw [List.cons_append,Qac,Qac]
  rw [←ih (QfW.1 hl).2 fun p hp=>hk p (List.mem_cons_of_mem _ hp)]
  by_cases c:j=k
  ·subst c;rw [if_pos rfl,if_pos rfl,if_neg (by omega)]
  ·rw [if_neg c,if_neg c]
section
variable {ρ:Type}{g:Int→Int→Int}{stop:Int→Bool}{q:Option ρ}{body:List (Int×Int)→Int×Int→Option (List (Int×Int)⊕ρ)}
def cntL (s:List (Int×Int))(k:Int):Int:=(mget s k).getD 0
def Qqa (g:Int→Int→Int)(s l:List (Int×Int))(k:Int):Option Int:=match mget l k with
 | some v=>some (g (cntL s k) v)
 | none=>mget s k
theorem QoJ (hb:∀s p,body s p=bif stop (g (cntL s p.1) p.2)then q.map Sum.inr else some (.inl (mset ltI s p.1 (g (cntL s p.1) p.2)))):
  ∀l s,Asc s→QlM l→((∃p∈l,stop (g (cntL s p.1) p.2)=true)∧runL body s l=q.map Sum.inr)∨
   ((∀p∈l,stop (g (cntL s p.1) p.2)=false)∧∃s',runL body s l=some (.inl s')∧Asc s'∧s'.length≤s.length+l.length∧∀k,mget s' k=Qqa g s l k):=by
 intro l
 induction l with
 | nil=>intro s hs _;exact .inr ⟨fun p h=>(by cases h),s,rfl,hs,by simp,fun k=>rfl⟩
 | cons p l ih=>
  intro s hs hl
  obtain⟨h1,h2⟩:=Qut.1 hl
  simp only [runL,hb]
  cases hst:stop (g (cntL s p.1) p.2)with
  | true=>exact .inl ⟨⟨p,List.mem_cons_self,hst⟩,by cases q<;>rfl⟩
  | false=>
   simp only [cond_false,Option.bind_some,Sum.elim_inl]
   have hc:∀r∈l,cntL (mset ltI s p.1 (g (cntL s p.1) p.2)) r.1=cntL s r.1:=fun r hr=>by
    unfold cntL
    rw [QkF,if_neg (fun e=>h1 r hr e.symm)]
   rcases ih _ (QtO hs p.1 (g (cntL s p.1) p.2)) h2 with⟨⟨r,hr,h3⟩,h4⟩|⟨h3,s',h4,h5,h6,h7⟩
   ·exact .inl ⟨⟨r,List.mem_cons_of_mem _ hr,by rw [hc r hr]at h3;exact h3⟩,h4⟩
   ·refine .inr ⟨fun r hr=>?_,s',h4,h5,?_,fun k=>?_⟩
    ·rcases List.mem_cons.1 hr with rfl | hr
     ·exact hst
     ·have:=h3 r hr;rwa [hc r hr]at this
    ·have:=QwK (l:=s) (k:=p.1) (v:=g (cntL s p.1) p.2)
     simp;omega
    ·rw [h7]
     obtain⟨a,x⟩:=p
     unfold Qqa
     rw [Qac]
     by_cases e:a=k
     ·subst e
      rw [if_pos rfl,QrX.2 (fun r hr=>Ne.symm (h1 r hr)),QkF,if_pos rfl]
     ·rw [if_neg e]
      simp only [cntL,QkF,if_neg (fun e'=>e (Eq.symm e'):¬k=a)]
theorem QrY (hb:∀s p,body s p=bif stop (g (cntL s p.1) p.2)then q.map Sum.inr else some (.inl (mset ltI s p.1 (g (cntL s p.1) p.2)))){l s:List (Int×Int)}(hs:Asc s)(hl:QlM l):
  ((∃p∈l,stop (g (cntL s p.1) p.2)=true)∧∀r,q=some r→Qh3 body s l=some (.inr r))∨
   ((∀p∈l,stop (g (cntL s p.1) p.2)=false)∧∃s',Qh3 body s l=some (.inl s')∧Asc s'∧s'.length≤s.length+l.length∧∀k,mget s' k=Qqa g s l k):=by
 have key:∀l':List (Int×Int),l'.Perm l→runL body s l'=runL body s l:=fun l' hp=>by
  have hl':QlM l':=(hp.pairwise_iff (fun hab=>Ne.symm hab)).2 hl
  rcases QoJ hb l' s hs hl' with⟨⟨p,h1,h2⟩,h3⟩|⟨h1,s1,h3,h4,_,h5⟩
  ·rcases QoJ hb l s hs hl with⟨_,g3⟩|⟨g1,_⟩
   ·rw [h3,g3]
   ·rw [g1 p (hp.mem_iff.1 h1)]at h2;cases h2
  ·rcases QoJ hb l s hs hl with⟨⟨p,g1,g2⟩,g3⟩|⟨g1,s2,g3,g4,_,g5⟩
   ·rw [h1 p (hp.mem_iff.2 g1)]at g2;cases g2
   ·rw [h3,g3,Quu h4 g4 fun k=>?_]
    rw [h5,g5]
    unfold Qqa
    rw [QvY hl' hp k]
 rcases QoJ hb l s hs hl with⟨h1,h3⟩|⟨h1,s1,h3,h4,h6,h5⟩
 ·exact .inl ⟨h1,fun r hr=>Qi9.2 ⟨key,by rw [h3,hr];rfl⟩⟩
 ·exact .inr ⟨h1,s1,Qi9.2 ⟨key,h3⟩,h4,h6,h5⟩
end
theorem Qvd {ρ:Type}{bad:Int×Int→Bool}{q:ρ}{body:Unit→Int×Int→Option (Unit⊕ρ)}(hb:∀p,body () p=some (bif bad p then .inr q else .inl ()))(l:List (Int×Int)):
  Qh3 body () l=some (bif l.any bad then .inr q else .inl ()):=by
 have h1:∀l:List (Int×Int),runL body () l=some (bif l.any bad then .inr q else .inl ()):=by
  intro l
  induction l with
  | nil=>rfl
  | cons p l ih=>
   simp only [runL,hb,Option.bind_some,List.any_cons]
   cases bad p with
   | true=>rfl
   | false=>exact ih
 refine Qi9.2 ⟨fun l' hp=>?_,h1 l⟩
 rw [h1,h1]
 congr 2
 rw [Bool.eq_iff_iff,List.any_eq_true,List.any_eq_true]
 exact⟨fun ⟨x,a,b⟩=>⟨x,hp.mem_iff.1 a,b⟩,fun ⟨x,a,b⟩=>⟨x,hp.mem_iff.2 a,b⟩⟩
def rtF (a:Int):List (Int×Int)→Bool
 | []=>true
 | p::r=>!(decide (p.1≤a)||(decide (p.2<1)||decide (1048576<p.2)))&&rtF p.1 r
theorem Qxl {a:Int}{l:List (Int×Int)}:rtF a l=true↔Asc l∧∀p∈l,a<p.1∧1≤p.2∧p.2≤1048576:=by
 induction l generalizing a with
 | nil=>simp [rtF,Asc]
 | cons p l ih=>
  rw [rtF,Bool.and_eq_true,ih,QfW]
  simp only [Bool.not_eq_true',Bool.or_eq_false_iff,decide_eq_false_iff_not]
  constructor
  ·rintro ⟨⟨h1,h2,h3⟩,h4,h5⟩
   refine⟨⟨fun q hq=>(h5 q hq).1,h4⟩,fun q hq=>?_⟩
   rcases List.mem_cons.1 hq with rfl | hq
   ·omega
   ·have:=h5 q hq;omega
  ·rintro ⟨⟨h1,h2⟩,h3⟩
   have:=h3 p List.mem_cons_self
   exact⟨by omega,h2,fun q hq=>⟨h1 q hq,(h3 q (List.mem_cons_of_mem _ hq)).2⟩⟩
def Rt (l:List (Int×Int)):Prop:=Asc l∧∀p∈l,0≤p.1∧1≤p.2∧p.2≤1048576
theorem Qdr {l:List (Int×Int)}:rtF (-1) l=true↔Rt l:=by
 rw [Qxl]
 constructor
 ·rintro ⟨h1,h2⟩;exact⟨h1,fun p hp=>by have:=h2 p hp;omega⟩
 ·rintro ⟨h1,h2⟩;exact⟨h1,fun p hp=>by have:=h2 p hp;omega⟩
theorem Rt.nil : Rt []:=⟨List.Pairwise.nil,fun p h=>by cases h⟩
theorem Qin {l:List (Int×Int)}(h:QlM l){p:Int×Int}(hp:p∈l):cntL l p.1=p.2:=by
 unfold cntL;rw [(QdC h).2 (show(p.1,p.2)∈l from hp)];rfl
theorem Rt.cnt {l:List (Int×Int)}(h:Rt l)(k:Int):0≤cntL l k∧cntL l k≤1048576:=by
 unfold cntL
 cases e:mget l k with
 | none=>simp
 | some v=>have:=h.2 _ ((QdC h.1.nd).1 e);simp at this ⊢;omega
theorem Rt.cnt_pos {l:List (Int×Int)}(h:Rt l){k:Int}(hk:0<cntL l k):0≤k:=by
 unfold cntL at hk
 cases e:mget l k with
 | none=>rw [e]at hk;simp at hk
 | some v=>exact(h.2 _ ((QdC h.1.nd).1 e)).1
def posL (l:List (Int×Int)):List (Int×Int):=l.filter fun p=>decide (0<p.2)
theorem QtP {l:List (Int×Int)}(h:Asc l)(k:Int):cntL (posL l) k=if 0<cntL l k then cntL l k else 0:=by
 have hp:Asc (posL l):=h.sublist List.filter_sublist
 by_cases c:0<cntL l k
 ·rw [if_pos c]
  unfold cntL at c
  cases e:mget l k with
  | none=>rw [e]at c;simp at c
  | some v=>
   rw [e]at c
   have h1:(k,v)∈posL l:=List.mem_filter.2 ⟨(QdC h.nd).1 e,by simpa using c⟩
   unfold cntL
   rw [(QdC hp.nd).2 h1,e]
 ·rw [if_neg c]
  unfold cntL
  cases e:mget (posL l) k with
  | none=>rfl
  | some v=>
   have h1:=List.mem_filter.1 ((QdC hp.nd).1 e)
   have h2:=(QdC h.nd).2 h1.1
   unfold cntL at c
   rw [h2]at c
   simp at h1 c;omega
theorem QvZ {l:List (Int×Int)}(h:Asc l)(hb:∀k,0<cntL l k→0≤k∧cntL l k≤1048576):Rt (posL l):=by
 refine⟨h.sublist List.filter_sublist,fun p hp=>?_⟩
 obtain⟨h1,h2⟩:=List.mem_filter.1 hp
 have h3:=Qin h.nd h1
 have h4:0<p.2:=of_decide_eq_true h2
 have:=hb p.1 (by omega)
 omega
theorem Qv0 {l:List (Int×Int)}(h:Asc l):QeW (l.map Prod.fst)=l.map Prod.fst:=by
 rw [Qov]
 refine List.mergeSort_of_pairwise ?_
 rw [List.pairwise_map]
 exact h.imp fun h=>by simp;omega
end Go.Vm
namespace Go.Vm
open Go Go.RowKit
def upL : Int→Nat→List Int
 | _,0=>[]
 | x,k+1=>x::upL (x+1) k
def binds : List Int→List (List Int)
 | []=>[[]]
 | s::r=>(0::upL 1 (s-1).toNat).flatMap fun x=>(binds r).map (x::·)
def Qds : List Int→List Int→List (List Int)
 | s::r,x::d=>(Qds r d).map (x::·)++(upL (x+1) (s-(x+1)).toNat).flatMap fun y=>(binds r).map (y::·)
 | _,_=>[]
def Qi4 (l:List Int):List Int:=List.replicate l.length 0
theorem QqM (l:List Int):binds l=Qi4 l::Qds l (Qi4 l):=by
 induction l with
 | nil=>rfl
 | cons s r ih=>
  show(0::upL 1 (s-1).toNat).flatMap (fun x=>(binds r).map (x::·))=(0::Qi4 r)::((Qds r (Qi4 r)).map (0::·)++(upL (0+1) (s-(0+1)).toNat).flatMap fun y=>(binds r).map (y::·))
  rw [List.flatMap_cons,Int.zero_add]
  have:(binds r).map (fun x=>(0:Int)::x)=(0::Qi4 r)::(Qds r (Qi4 r)).map (0::·):=by rw [ih];rfl
  rw [this];rfl
def Qmt : List Int→List Int→Option (List Int)
 | s::r,x::d=>match Qmt r d with
  | some e=>some (x::e)
  | none=>if x+1<s then some ((x+1)::Qi4 r)else none
 | _,_=>none
theorem Qve : ∀l d:List Int,Qds l d=match Qmt l d with
  | none=>[]
  | some e=>e::Qds l e:=by
 intro l
 induction l with
 | nil=>intro d;rfl
 | cons s r ih=>
  intro d
  cases d with
  | nil=>rfl
  | cons x d=>
   have h:=ih d
   rw [Qmt]
   cases e:Qmt r d with
   | some e'=>
    rw [e]at h
    simp only [Qds,h];rfl
   | none=>
    rw [e]at h
    simp only at h
    simp only [Qds,h,List.map_nil,List.nil_append]
    by_cases c:x+1<s
    ·rw [if_pos c]
     rw [show(s-(x+1)).toNat=(s-(x+1+1)).toNat+1 by omega,upL,List.flatMap_cons]
     have:(binds r).map (fun z=>(x+1)::z)=((x+1)::Qi4 r)::(Qds r (Qi4 r)).map ((x+1)::·):=by rw [QqM r];rfl
     rw [this];rfl
    ·rw [if_neg c,show(s-(x+1)).toNat=0 by omega];rfl
theorem QsY : ∀l d:List Int,(∀(j:Nat) x s,d[j]? = some x→l[j]? = some s→¬x+1<s)→Qmt l d=none:=by
 intro l
 induction l with
 | nil=>intro d _;cases d<;>rfl
 | cons s r ih=>
  intro d h
  cases d with
  | nil=>rfl
  | cons x d=>
   rw [Qmt,ih d fun j y z h1 h2=>h (j+1) y z (by simpa using h1) (by simpa using h2)]
   simp only
   rw [if_neg (h 0 x s rfl rfl)]
theorem Qxm : ∀(k:Nat) (l d:List Int) (x s:Int),l.length=d.length→d[k]? = some x→l[k]? = some s→x+1<s→(∀(j:Nat) y z,k<j→d[j]? = some y→l[j]? = some z→¬y+1<z)→
  Qmt l d=some (d.take k++(x+1)::List.replicate (d.length-(k+1)) 0):=by
 intro k
 induction k with
 | zero=>
  intro l d x s hl hd hs hlt ha
  cases l with
  | nil=>cases hs
  | cons s' r=>
   cases d with
   | nil=>cases hd
   | cons x' d=>
    simp only [List.getElem?_cons_zero,Option.some.injEq]at hd hs
    subst hd;subst hs
    rw [Qmt,QsY r d fun j y z h1 h2=>ha (j+1) y z (by omega) (by simpa using h1) (by simpa using h2)]
    simp only
    rw [if_pos hlt]
    simp only [List.length_cons]at hl
    simp [Qi4];omega
 | succ k ih=>
  intro l d x s hl hd hs hlt ha
  cases l with
  | nil=>cases hs
  | cons s' r=>
   cases d with
   | nil=>cases hd
   | cons x' d=>
    simp only [List.getElem?_cons_succ]at hd hs
    simp only [List.length_cons,Nat.add_right_cancel_iff]at hl
    rw [Qmt,ih r d x s hl hd hs hlt fun j y z h0 h1 h2=>ha (j+1) y z (by omega) (by simpa using h1) (by simpa using h2)]
    simp
def inB : List Int→List Int→Prop
 | [],[]=>True
 | s::r,x::d=>0≤x∧(x=0∨x<s)∧inB r d
 | _,_=>False
theorem Qxn {y x:Int}{k:Nat}:y∈upL x k↔x≤y∧y<x+k:=by
 induction k generalizing x with
 | zero=>
  simp only [upL,List.not_mem_nil,false_iff];omega
 | succ k ih=>simp only [upL,List.mem_cons,ih];omega
theorem Qv1 {l d:List Int}:d∈binds l↔inB l d:=by
 induction l generalizing d with
 | nil=>cases d<;>simp [binds,inB]
 | cons s r ih=>
  cases d with
  | nil=>simp [binds,inB]
  | cons x d=>
   simp only [binds,List.mem_flatMap,List.mem_cons,Qxn,List.mem_map,List.cons.injEq,inB,←ih]
   constructor
   ·rintro ⟨y,h1,e,h2,rfl,rfl⟩
    exact⟨by omega,by omega,h2⟩
   ·rintro ⟨h1,h2,h3⟩
    exact⟨x,by omega,d,h3,rfl,rfl⟩
theorem Qxo {l d:List Int}(h:inB l d):d.length=l.length:=by
 induction l generalizing d with
 | nil=>cases d with
  | nil=>rfl
  | cons x d=>exact h.elim
 | cons s r ih=>cases d with
  | nil=>exact h.elim
  | cons x d=>simp [ih h.2.2]
section
variable {α:Type}
def adv (most:Nat)(acc X:List α):List α⊕List α:=if (acc++X).length<most then .inr (acc++X)else .inl ((acc++X).take most)
theorem Qn2 {most:Nat}{acc:List α}(h:acc.length<most):adv most acc []=.inr acc:=by
 unfold adv
 rw [List.append_nil,if_pos h]
theorem QwM {most:Nat}{acc X:List α}(h:acc.length=most):adv most acc X=.inl acc:=by
 unfold adv
 rw [if_neg (by simp;omega)]
 subst h
 rw [List.take_left]
theorem QwN {most:Nat}{acc X:List α}{x:α}:adv most acc (x::X)=adv most (acc++[x]) X:=by
 unfold adv
 rw [List.append_assoc];rfl
theorem Quv {most:Nat}{acc X Y:List α}:adv most acc (X++Y)=match adv most acc X with
  | .inl a=>.inl a
  | .inr a=>adv most a Y:=by
 unfold adv
 by_cases c:(acc++X).length<most
 ·rw [if_pos c]
  simp only [List.append_assoc]
 ·rw [if_neg c,if_neg (by simp at c ⊢;omega),←List.append_assoc,List.take_append_of_le_length (by omega)]
theorem Qv2 {most:Nat}{acc X a:List α}(h:adv most acc X=.inr a):a.length<most:=by
 unfold adv at h
 split at h
 ·cases h;assumption
 ·cases h
theorem Quw {most:Nat}{acc X a:List α}(h:adv most acc X=.inr a):a=acc++X:=by
 unfold adv at h
 split at h
 ·cases h;rfl
 ·cases h
theorem QwO {most:Nat}{X:List α}(h:0<most):(match adv most [] X with | .inl a=>a | .inr a=>a)=X.take most:=by
 unfold adv
 rw [List.nil_append]
 by_cases c:X.length<most
 ·rw [if_pos c];simp only;rw [List.take_of_length_le (by omega)]
 ·rw [if_neg c]
end
end Go.Vm
namespace Go.Vm
open Go Go.RowKit
section
variable {M K:Type}[DecidableEq K](key:M→K)(succ:M→List M)
def hasK (out:List M)(x:M):Bool:=out.any fun y=>decide (key y=key x)
def Qbv (most:Nat):List M→List M→List M⊕List M
 | out,[]=>.inr out
 | out,x::xs=>if hasK key out x then Qbv most out xs else if out.length=most then .inl out else Qbv most (out++[x]) xs
def QdP (most:Nat):Nat→List M→Nat→List M×Bool
 | 0,out,_=>(out,true)
 | f+1,out,a=>match out[a]? with
  | none=>(out,true)
  | some x=>match Qbv key most out (succ x)with
   | .inl o=>(o,false)
   | .inr o=>QdP most f o (a+1)
variable {key}{succ}
theorem Qmu {most:Nat}:∀{xs out o:List M},Qbv key most out xs=.inr o→out.length≤most→(∃r,o=out++r)∧o.length≤most:=by
 intro xs
 induction xs with
 | nil=>intro out o h hl;cases h;exact⟨⟨[],by simp⟩,hl⟩
 | cons x xs ih=>
  intro out o h hl
  rw [Qbv]at h
  split at h
  ·exact ih h hl
  ·split at h
   ·cases h
   ·obtain⟨⟨r,hr⟩,h2⟩:=ih h (by simp;omega)
    exact⟨⟨x::r,by rw [hr];simp⟩,h2⟩
theorem Qvf {most:Nat}:∀{xs out o:List M},Qbv key most out xs=.inl o→out.length≤most→(∃r,o=out++r)∧o.length=most:=by
 intro xs
 induction xs with
 | nil=>intro out o h hl;cases h
 | cons x xs ih=>
  intro out o h hl
  rw [Qbv]at h
  split at h
  ·exact ih h hl
  ·split at h
   ·cases h;exact⟨⟨[],by simp⟩,by assumption⟩
   ·obtain⟨⟨r,hr⟩,h2⟩:=ih h (by simp;omega)
    exact⟨⟨x::r,by rw [hr];simp⟩,h2⟩
def Qmv (key:M→K)(l:List M):Prop:=l.Pairwise fun a b=>key a≠key b
theorem Qmv.add {l:List M}{x:M}(h:Qmv key l)(hx:hasK key l x=false):Qmv key (l++[x]):=by
 unfold Qmv
 rw [List.pairwise_append]
 refine⟨h,List.pairwise_singleton _ _,fun a ha b hb=>?_⟩
 rw [List.mem_singleton]at hb
 subst hb
 intro e
 have:hasK key l b=true:=List.any_eq_true.2 ⟨a,ha,decide_eq_true e⟩
 rw [this]at hx;cases hx
theorem QrZ {P:M→Prop}{most:Nat}:∀{xs out o:List M},(Qbv key most out xs=.inl o∨Qbv key most out xs=.inr o)→Qmv key out→(∀x∈out,P x)→(∀x∈xs,P x)→Qmv key o∧∀x∈o,P x:=by
 intro xs
 induction xs with
 | nil=>intro out o h ha hp _;rcases h with h | h<;>cases h;exact⟨ha,hp⟩
 | cons x xs ih=>
  intro out o h ha hp hx
  rw [Qbv]at h
  split at h
  ·exact ih h ha hp fun y hy=>hx y (List.mem_cons_of_mem _ hy)
  ·rename_i c
   split at h
   ·rcases h with h | h<;>cases h;exact⟨ha,hp⟩
   ·refine ih h (ha.add (by simpa using c)) (fun y hy=>?_) fun y hy=>hx y (List.mem_cons_of_mem _ hy)
    rcases List.mem_append.1 hy with hy | hy
    ·exact hp y hy
    ·simp at hy;subst hy;exact hx _ List.mem_cons_self
theorem Qrc {l r:List M}{x:M}(h:hasK key l x=true):hasK key (l++r) x=true:=by
 unfold hasK at h ⊢
 rw [List.any_append,h];rfl
theorem Qvg {most:Nat}:∀{xs out o:List M},Qbv key most out xs=.inr o→out.length≤most→∀x∈xs,hasK key o x=true:=by
 intro xs
 induction xs with
 | nil=>intro out o h _ x hx;cases hx
 | cons y xs ih=>
  intro out o h hl x hx
  rw [Qbv]at h
  split at h
  ·rename_i c
   rcases List.mem_cons.1 hx with rfl | hx
   ·obtain⟨⟨r,hr⟩,_⟩:=Qmu h hl
    rw [hr];exact Qrc c
   ·exact ih h hl x hx
  ·split at h
   ·cases h
   ·have hl2:(out++[y]).length≤most:=by simp;omega
    rcases List.mem_cons.1 hx with rfl | hx
    ·obtain⟨⟨r,hr⟩,_⟩:=Qmu h hl2
     rw [hr]
     refine Qrc (List.any_eq_true.2 ⟨x,by simp,decide_eq_true rfl⟩)
    ·exact ih h hl2 x hx
theorem Qv3 {P:M→Prop}(hs:∀x,P x→∀y∈succ x,P y){most:Nat}:∀(f:Nat) {out:List M} {a:Nat},out.length≤most→Qmv key out→(∀x∈out,P x)→
  (∃r,(QdP key succ most f out a).1=out++r)∧(QdP key succ most f out a).1.length≤most∧Qmv key (QdP key succ most f out a).1∧∀x∈(QdP key succ most f out a).1,P x:=by
 intro f
 induction f with
 | zero=>intro out a hl ha hp;exact⟨⟨[],by simp [QdP]⟩,hl,ha,hp⟩
 | succ f ih=>
  intro out a hl ha hp
  rw [QdP]
  cases ho:out[a]? with
  | none=>exact⟨⟨[],by simp⟩,hl,ha,hp⟩
  | some x=>
   simp only
   have hx:=hp x (List.mem_of_getElem? ho)
   cases e:Qbv key most out (succ x)with
   | inl o=>
    obtain⟨h1,h2⟩:=Qvf e hl
    obtain⟨h3,h4⟩:=QrZ (.inl e) ha hp (hs x hx)
    exact⟨h1,by simp only;omega,h3,h4⟩
   | inr o=>
    obtain⟨⟨r,hr⟩,h2⟩:=Qmu e hl
    obtain⟨h3,h4⟩:=QrZ (.inr e) ha hp (hs x hx)
    simp only
    obtain⟨⟨r2,hr2⟩,k2⟩:=ih (a:=a+1) h2 h3 h4
    exact⟨⟨r++r2,by rw [hr2,hr,List.append_assoc]⟩,k2⟩
theorem QtQ {most:Nat}:∀(f:Nat) {out:List M} {a:Nat},out.length≤most→most<f+a→(∀(j:Nat) x,j<a→out[j]? = some x→∀y∈succ x,hasK key out y=true)→
  (QdP key succ most f out a).2=true→∀x∈(QdP key succ most f out a).1,∀y∈succ x,hasK key (QdP key succ most f out a).1 y=true:=by
 intro f
 induction f with
 | zero=>
  intro out a hl hf hc _ x hx y hy
  simp only [QdP]at hx ⊢
  obtain⟨j,hj,rfl⟩:=List.mem_iff_getElem.1 hx
  exact hc j _ (by omega) (List.getElem?_eq_getElem hj) y hy
 | succ f ih=>
  intro out a hl hf hc ht x hx y hy
  rw [QdP]at ht hx ⊢
  cases ho:out[a]? with
  | none=>
   rw [ho]at hx
   simp only at hx ⊢
   obtain⟨j,hj,rfl⟩:=List.mem_iff_getElem.1 hx
   exact hc j _ (by have:=List.getElem?_eq_none_iff.1 ho;omega) (List.getElem?_eq_getElem hj) y hy
  | some z=>
   rw [ho]at ht hx
   simp only at ht hx ⊢
   cases e:Qbv key most out (succ z)with
   | inl o=>rw [e]at ht;cases ht
   | inr o=>
    rw [e]at ht hx
    simp only at ht hx ⊢
    obtain⟨⟨r,hr⟩,h2⟩:=Qmu e hl
    refine ih h2 (by omega) (fun j u hj hu v hv=>?_) ht x hx y hy
    have hal:=(List.getElem?_eq_some_iff.1 ho).1
    by_cases c:j=a
    ·subst c
     have:o[j]? = some z:=by rw [hr,List.getElem?_append_left hal];exact ho
     rw [this]at hu;cases hu
     exact Qvg e hl v hv
    ·have:out[j]? = some u:=by
      rw [hr,List.getElem?_append_left (by omega)]at hu;exact hu
     rw [hr]
     exact Qrc (hc j u (by omega) this v hv)
end
end Go.Vm
noncomputable section
namespace Go.Proofs
open Go Go.RowKit Go.Vm
inductive Qc6 : Qg→Prop where
 | mk (e:Qg):e.Kids.length≤maxLen→(∀k∈e.Kids,Qc6 k)→Qc6 e
theorem Qef {e:Qg}(h:Qc6 e):lenL Qc6 e.Kids:=by
 cases h with
 | mk _ h1 h2=>exact⟨h1,h2⟩
theorem QpN {e k:Qg}(h:k∈e.Kids):SizeOf.sizeOf k<SizeOf.sizeOf e:=by
 obtain⟨a,b,l⟩:=e
 have:=List.sizeOf_lt_of_mem h
 simp only [Qg.mk.sizeOf_spec]at *
 omega
theorem Qg.pos (e:Qg):0<SizeOf.sizeOf e:=by
 obtain⟨a,b,l⟩:=e
 simp only [Qg.mk.sizeOf_spec];omega
inductive POk (v:Int):Qg→Prop where
 | mk (e:Qg):(e.Kind=1∨e.Kind=2∨e.Kind=3∨e.Kind=4∨e.Kind=5∨e.Kind=6)→(e.Kind=2→0≤e.Num∧e.Num<v)→(e.Kind=3∨e.Kind=4→e.Kids.length=1)→(e.Kind=5→e.Kids.length=2)→(e.Kind=6→e.Kids.length=3)→(∀k∈e.Kids,POk v k)→POk v e
def QbM (x:QB):Prop:=Qf0 x.Name∧True∧True∧True∧(lenL Qf0) x.Names∧True∧True
def Qcs (x:QC):Prop:=Qf0 x.Name∧True∧(lenL (fun _=>True)) x.First
def QdQ (x:TVar):Prop:=Qf0 x.Name∧True
def Qi5 (x:TArc):Prop:=True∧Qc6 x.Expr
def Qaw (x:Qr):Prop:=Qf0 x.Name∧(lenL QdQ) x.Vars∧Qc6 x.Guard∧True∧True∧(lenL Qi5) x.Ins∧(lenL Qi5) x.Outs∧(lenL (fun _=>True)) x.Cancel∧True∧True
def QJ (x:TNet):Prop:=(lenL QbM) x.Colours∧(lenL Qcs) x.Places∧(lenL Qaw) x.Tasks∧True∧True
def Qta (x:Qah):Prop:=(lenL QbM) x.all∧(lenL (fun _=>True)) x.sizes∧True
theorem Qr0 (v1:TNet)(h_v1:QJ v1):TotP (Qgh v1) fun r=>True:=by
 unfold Qgh
 exact TotP.okT
theorem QbV (l1:(List QC))(k2:Int)(h_l1:(lenL Qcs) l1):TotP (Qak l1 k2) fun r=>r=true→0≤k2∧k2<l1.length:=by
 unfold Qak
 exact TotP.ok (by first | (intro hr;first | (cases hr;done) | omega | ((try simp only [Bool.and_eq_true,Bool.or_eq_true,Bool.or_eq_false_iff,Bool.not_eq_true',Bool.not_eq_false',decide_eq_true_eq,decide_eq_false_iff_not,beq_iff_eq,bne_iff_ne,ne_eq,Bool.not_eq_true,Bool.not_eq_false,List.length_append,List.length_singleton,List.length_nil,List.length_drop,List.length_take,List.length_cons,QkG,QkH,Qjp]at *);omega)) | ((try simp only [Bool.and_eq_true,Bool.or_eq_true,Bool.or_eq_false_iff,Bool.not_eq_true',Bool.not_eq_false',decide_eq_true_eq,decide_eq_false_iff_not,beq_iff_eq,bne_iff_ne,ne_eq,Bool.not_eq_true,Bool.not_eq_false,List.length_append,List.length_singleton,List.length_nil,List.length_drop,List.length_take,List.length_cons,QkG,QkH,Qjp]at *);omega) | simp_all)
theorem Qr1 (v1:TNet)(h_v1:QJ v1):TotP (Qh7 v1) fun r=>True:=by
 unfold Qh7
 refine TotP.bind (P:=fun _=>True) ?_ (fun x_1 hv2=>?_)
 ·unfold Qkz
  refine TotP.bind (QbV v1.Places v1.From (h_v1.2.1)) (fun x_3 hv4=>?_)
  refine TotP.bif (fun hc5=>?_) (fun hc5=>?_)
  ·refine TotP.bind (QbV v1.Places v1.To (h_v1.2.1)) (fun x_6 hv7=>?_)
   exact TotP.okT
  ·exact TotP.okT
 unfold QfG
 exact TotP.okT
theorem Qr2 (v1:TNet)(h_v1:QJ v1):TotP (Qh8 v1) fun r=>True:=by
 unfold Qh8
 exact TotP.okT
theorem Qr3 (v1:TNet)(v2:Int)(v3:Int)(v4:Int)(h_v1:QJ v1):TotP (Qgi v1 v2 v3 v4) fun r=>True:=by
 unfold Qgi
 refine TotP.bind (Qr0 v1 (h_v1)) (fun x_1 hv2=>?_)
 refine TotP.bif (fun hc3=>?_) (fun hc3=>?_)
 ·exact TotP.okT
 ·refine TotP.bind (Qr1 v1 (h_v1)) (fun x_4 hv5=>?_)
  refine TotP.bif (fun hc6=>?_) (fun hc6=>?_)
  ·exact TotP.okT
  ·refine TotP.bind (Qr2 v1 (h_v1)) (fun x_7 hv8=>?_)
   refine TotP.bif (fun hc9=>?_) (fun hc9=>?_)
   ·exact TotP.okT
   ·exact TotP.okT
theorem Qr4 (lo1:Int)(hi2:Int)  : TotP (Qh4 lo1 hi2) fun r=>True:=by
 unfold Qh4
 refine TotP.bif (fun hc1=>?_) (fun hc1=>?_)
 ·exact TotP.okT
 ·exact TotP.okT
theorem Qmj (c1:Int)  : TotP (Qeh c1) fun r=>True:=by
 unfold Qeh
 exact TotP.okT
theorem Qlk (s1:ByteArray)(h_s1:Qf0 s1):TotP (Qex s1) fun r=>True:=by
 unfold Qex
 refine TotP.bind (P:=fun _=>True) ?_ (fun x_1 hv2=>?_)
 ·unfold Qkm
  refine TotP.bif (fun hc3=>?_) (fun hc3=>?_)
  ·exact TotP.okT
  ·have hshc3:=QvX hc3
   refine TotP.bif (fun hc4=>?_) (fun hc4=>?_)
   ·exact TotP.okT
   ·refine TotP.bind (TotP.sidx (by omega) (by omega)) (fun c_5 hv6=>?_)
    refine TotP.bind (Qmj c_5 ) (fun x_7 hv8=>?_)
    exact TotP.okT
 unfold Qft
 refine TotP.bif (fun hc9=>?_) (fun hc9=>?_)
 ·exact TotP.okT
 ·refine TotP.bind (TotP.up (s1.size) (fun st=>st) (fun _=>True) (Q:=fun q=>True) rfl trivial (fun i11 st hi12 hn13 hj14=>?_)) (fun q15 hq16=>?_)
  ·obtain⟨x_10,hst⟩:∃y,y=st:=⟨_,rfl⟩
   subst hst
   replace hi12:x_10=(i11:Int):=hi12
   show TotP (QdT s1 x_10) _
   unfold QdT
   refine TotP.bif (fun hc17=>?_) (fun hc17=>?_)
   ·refine TotP.bind (TotP.sidx (by omega) (by simp_all)) (fun c_18 hv19=>?_)
    refine TotP.bind (P:=fun _=>True) ?_ (fun x_20 hv21=>?_)
    ·unfold Qkn
     refine TotP.bind (Qmj c_18 ) (fun x_22 hv23=>?_)
     refine TotP.bif (fun hc24=>?_) (fun hc24=>?_)
     ·refine TotP.bif (fun hc25=>?_) (fun hc25=>?_)
      ·exact TotP.okT
      ·refine TotP.bif (fun hc26=>?_) (fun hc26=>?_)
       ·exact TotP.okT
       ·exact TotP.okT
     ·exact TotP.okT
    unfold Qfq
    refine TotP.bif (fun hc27=>?_) (fun hc27=>?_)
    ·exact TotP.ok (Ql trivial)
    ·exact TotP.ok (Qx ⟨(by simp_all),by subst hi12;exact Qu (by simp_all) h_s1,trivial⟩)
   ·exact TotP.ok (Ql trivial)
  rcases q15 with q15 | q15
  ·show TotP (Qfr) _
   unfold Qfr
   exact TotP.okT
  ·show TotP (Qfs) _
   unfold Qfs
   exact TotP.okT
theorem Qrd (l1:(List ByteArray))(h_l1:(lenL Qf0) l1):TotP (Qhd l1) fun r=>True:=by
 unfold Qhd
 refine TotP.bind (TotP.up (l1.length) (fun st=>st.1) (fun _=>True) (Q:=fun q=>True) rfl trivial (fun i3 st hi4 hn5 hj6=>?_)) (fun q7 hq8=>?_)
 ·obtain⟨x_1,m_2⟩:=st
  replace hi4:x_1=(i3:Int):=hi4
  show TotP (Qdu l1 x_1 m_2) _
  unfold Qdu
  refine TotP.bif (fun hc9=>?_) (fun hc9=>?_)
  ·refine TotP.bind (TotP.idx (by omega) (by simp_all)) (fun e_10 hv11=>?_)
   refine TotP.bind (P:=fun _=>True) ?_ (fun x_12 hv13=>?_)
   ·unfold Qju
    refine TotP.bind (Qlk e_10 (((h_l1).2 e_10 hv11))) (fun x_14 hv15=>?_)
    refine TotP.bif (fun hc16=>?_) (fun hc16=>?_)
    ·exact TotP.okT
    ·exact TotP.okT
   unfold QeC
   refine TotP.bif (fun hc17=>?_) (fun hc17=>?_)
   ·exact TotP.ok (Ql trivial)
   ·exact TotP.ok (Qx ⟨(by simp_all),by subst hi4;exact Qu (by simp_all) (h_l1).1,trivial⟩)
  ·exact TotP.ok (Ql trivial)
 rcases q7 with q7 | q7
 ·show TotP (QeD) _
  unfold QeD
  exact TotP.okT
 ·show TotP (QeE) _
  unfold QeE
  exact TotP.okT
theorem Qr5 (c1:QB)(ahead2:(List Int))(h_c1:QbM c1)(h_ahead2:(lenL (fun _=>True)) ahead2):TotP (Qh5 c1 ahead2) fun r=>True:=by
 unfold Qh5
 refine TotP.bif (fun hc1=>?_) (fun hc1=>?_)
 ·refine TotP.bind (Qr4 c1.Lo c1.Hi ) (fun x_2 hv3=>?_)
  exact TotP.okT
 ·refine TotP.bif (fun hc4=>?_) (fun hc4=>?_)
  ·refine TotP.bind (Qrd c1.Names (h_c1.2.2.2.2.1)) (fun x_5 hv6=>?_)
   refine TotP.bif (fun hc7=>?_) (fun hc7=>?_)
   ·exact TotP.okT
   ·unfold Qb1
    exact TotP.okT
  ·refine TotP.bif (fun hc8=>?_) (fun hc8=>?_)
   ·refine TotP.bif (fun hc9=>?_) (fun hc9=>?_)
    ·refine TotP.bind (TotP.idx (by(try simp only [Bool.and_eq_true,Bool.or_eq_true,Bool.or_eq_false_iff,Bool.not_eq_true',Bool.not_eq_false',decide_eq_true_eq,decide_eq_false_iff_not,beq_iff_eq,bne_iff_ne,ne_eq,Bool.not_eq_true,Bool.not_eq_false,List.length_append,List.length_singleton,List.length_nil,List.length_drop,List.length_take,List.length_cons,QkG,QkH,Qjp]at *);omega) (by(try simp only [Bool.and_eq_true,Bool.or_eq_true,Bool.or_eq_false_iff,Bool.not_eq_true',Bool.not_eq_false',decide_eq_true_eq,decide_eq_false_iff_not,beq_iff_eq,bne_iff_ne,ne_eq,Bool.not_eq_true,Bool.not_eq_false,List.length_append,List.length_singleton,List.length_nil,List.length_drop,List.length_take,List.length_cons,QkG,QkH,Qjp]at *);omega)) (fun e_10 hv11=>?_)
     refine TotP.bind (TotP.idx (by(try simp only [Bool.and_eq_true,Bool.or_eq_true,Bool.or_eq_false_iff,Bool.not_eq_true',Bool.not_eq_false',decide_eq_true_eq,decide_eq_false_iff_not,beq_iff_eq,bne_iff_ne,ne_eq,Bool.not_eq_true,Bool.not_eq_false,List.length_append,List.length_singleton,List.length_nil,List.length_drop,List.length_take,List.length_cons,QkG,QkH,Qjp]at *);omega) (by(try simp only [Bool.and_eq_true,Bool.or_eq_true,Bool.or_eq_false_iff,Bool.not_eq_true',Bool.not_eq_false',decide_eq_true_eq,decide_eq_false_iff_not,beq_iff_eq,bne_iff_ne,ne_eq,Bool.not_eq_true,Bool.not_eq_false,List.length_append,List.length_singleton,List.length_nil,List.length_drop,List.length_take,List.length_cons,QkG,QkH,Qjp]at *);omega)) (fun e_12 hv13=>?_)
     exact TotP.okT
    ·unfold Qb1
     exact TotP.okT
   ·unfold Qb1
    exact TotP.okT
theorem Qm5 (l1:(List QB))(h_l1:(lenL QbM) l1):TotP (Qe7 l1) fun r=>((lenL (fun _=>True)) r.1∧True)∧(r.2=true→r.1.length=l1.length∧∀x∈r.1,1≤x∧x≤1024):=by
 unfold Qe7
 refine TotP.bif (fun hc=>TotP.ok ⟨⟨lenL.nil,trivial⟩,fun h=>by cases h⟩) (fun hc=>?_)
 have hl:l1.length≤32:=by simp only [decide_eq_false_iff_not]at hc;omega
 refine TotP.bind (TotP.up l1.length (fun st=>st.1) (fun st=>(st.2.2.length:Int)=st.1∧∀x∈st.2.2,1≤x∧x≤1024) (Q:=fun q=>∀l,q=.inr l→l.length=l1.length∧∀x∈l,1≤x∧x≤1024) rfl ⟨rfl,fun x h=>(by cases h)⟩ (fun i st hi hn hj=>?_)) (fun q hq=>?_)
 ·obtain⟨x,m,l⟩:=st
  replace hi:x=(i:Int):=hi
  replace hj:(l.length:Int)=x∧∀x∈l,1≤x∧x≤1024:=hj
  obtain⟨hj,hj2⟩:=hj
  show TotP (Qdv l1 x m l) _
  unfold Qdv
  refine TotP.bif (fun hc2=>?_) (fun hc2=>?_)
  ·simp only [decide_eq_true_eq]at hc2
   refine TotP.bind (TotP.idx (by omega) (by omega)) fun e he=>?_
   refine TotP.bind (Qr5 e l (h_l1.2 e he) ⟨by unfold maxLen;omega,fun _ _=>trivial⟩) fun y _=>?_
   refine TotP.bind (P:=fun z=>z=false→1≤y∧y≤1024) ?_ fun z hz=>?_
   ·unfold Qjv
    refine TotP.bind (Qlk e.Name (h_l1.2 e he).1) fun z _=>?_
    refine TotP.bif (fun _=>TotP.ok (fun h=>by cases h)) fun _=>TotP.bif (fun _=>TotP.ok (fun h=>by cases h)) fun _=>TotP.bif (fun _=>TotP.ok (fun h=>by cases h)) fun h1=>TotP.ok fun h2=>?_
    simp only [decide_eq_false_iff_not]at h1 h2
    omega
   unfold QeF
   refine TotP.bif (fun _=>TotP.ok (Ql fun l h=>by cases h)) fun hz0=>?_
   refine TotP.bind (TotP.chk (by simp;omega)) fun _ _=>?_
   exact TotP.ok (Qx ⟨by omega,by subst hi;exact Qu (by omega) (by unfold maxLen;omega:l1.length≤maxLen),by simp only [List.length_append,List.length_singleton];subst hi;rw [Qu (show i<l1.length by omega) (by unfold maxLen;omega)];omega,fun u hu=>by
    rcases List.mem_append.1 hu with hu | hu
    ·exact hj2 u hu
    ·simp at hu;subst hu;exact hz hz0⟩)
  ·simp only [decide_eq_false_iff_not]at hc2
   exact TotP.ok (Ql fun l' h=>by cases h;exact⟨by omega,hj2⟩)
 ·rcases q with q | q
  ·exact TotP.ok ⟨⟨lenL.nil,trivial⟩,fun h=>by cases h⟩
  ·have:=hq q rfl
   exact TotP.ok ⟨⟨⟨by show q.length≤maxLen;unfold maxLen;omega,fun _ _=>trivial⟩,trivial⟩,fun _=>this⟩
theorem Qre (l1:(List QB))(h_l1:(lenL QbM) l1):TotP (Qhk l1) fun r=>True:=by
 unfold Qhk
 refine TotP.bind (Qm5 l1 (h_l1)) (fun x_1 hv2=>?_)
 exact TotP.okT
theorem Qn3 (v1:TNet)(v2:Int)(h_v1:QJ v1)(hp0:0≤v2)(hp1:v2<v1.Colours.length):TotP (QdI v1 v2) fun r=>True:=by
 have hl:=h_v1.1.1
 unfold maxLen at hl
 unfold QdI
 rw [Qcn (show -9223372036854775808≤v2+1∧v2+1≤9223372036854775807 by omega)]
 refine TotP.bind (TotP.chk (by simp only [Bool.and_eq_true,decide_eq_true_eq];omega)) fun _ _=>?_
 exact TotP.bind (Qre _ ((h_v1.1.drop _).take _)) fun x _=>TotP.okT
def Qr6 : List ByteArray:=(Qgj).getD []
set_option maxRecDepth 100000 in
theorem QwP : Qgj=some Qr6:=by kernel_rfl
set_option maxRecDepth 100000 in
theorem Qum : (decide (Qr6.length≤1000)&&Qr6.all fun s=>decide (s.size≤1000))=true:=by kernel_rfl
theorem Qr7 : TotP (Qgj) fun r=>lenL Qf0 r:=by
 have h:=Qum
 rw [Bool.and_eq_true,decide_eq_true_iff,List.all_eq_true]at h
 refine⟨Qr6,QwP,by unfold maxLen;omega,fun x hx=>?_⟩
 have:=h.2 x hx
 rw [decide_eq_true_iff]at this
 unfold Qf0 maxLen;omega
theorem Qll (s1:(List ByteArray))(v2:ByteArray)(h_s1:(lenL Qf0) s1)(h_v2:Qf0 v2):TotP (Qbn s1 v2) fun r=>True:=by
 unfold Qbn
 refine TotP.bind (TotP.up (s1.length) (fun st=>st) (fun _=>True) (Q:=fun q=>True) rfl trivial (fun i2 st hi3 hn4 hj5=>?_)) (fun q6 hq7=>?_)
 ·obtain⟨x_1,hst⟩:∃y,y=st:=⟨_,rfl⟩
  subst hst
  replace hi3:x_1=(i2:Int):=hi3
  show TotP (Qav s1 v2 x_1) _
  unfold Qav
  refine TotP.bif (fun hc8=>?_) (fun hc8=>?_)
  ·refine TotP.bind (TotP.idx (by omega) (by simp_all)) (fun e_9 hv10=>?_)
   refine TotP.bif (fun hc11=>?_) (fun hc11=>?_)
   ·exact TotP.ok (Ql trivial)
   ·exact TotP.ok (Qx ⟨(by simp_all),by subst hi3;exact Qu (by simp_all) (h_s1).1,trivial⟩)
  ·exact TotP.ok (Ql trivial)
 rcases q6 with q6 | q6
 ·show TotP (QaU q6) _
  unfold QaU
  exact TotP.okT
 ·show TotP (QaV) _
  unfold QaV
  exact TotP.okT
theorem QjY (s1:(List ByteArray))(v2:ByteArray)(h_s1:(lenL Qf0) s1)(h_v2:Qf0 v2):TotP (QaW s1 v2) fun r=>True:=by
 unfold QaW
 refine TotP.bind (Qll s1 v2 (h_s1) (h_v2)) (fun x_1 hv2=>?_)
 exact TotP.okT
theorem QsB (s1:ByteArray)(h_s1:Qf0 s1):TotP (Qi1 s1) fun r=>True:=by
 unfold Qi1
 refine TotP.bind (Qr7  ) (fun x_1 hv2=>?_)
 refine TotP.bind (QjY x_1 s1 (hv2) (h_s1)) (fun x_3 hv4=>?_)
 exact TotP.okT
theorem Qhx (s1:ByteArray)(h_s1:Qf0 s1):TotP (Qdl s1) fun r=>True:=by
 unfold Qdl
 refine TotP.bind (P:=fun _=>True) ?_ (fun x_1 hv2=>?_)
 ·unfold Qle
  refine TotP.bind (Qlk s1 (h_s1)) (fun x_3 hv4=>?_)
  refine TotP.bif (fun hc5=>?_) (fun hc5=>?_)
  ·refine TotP.bind (QsB s1 (h_s1)) (fun x_6 hv7=>?_)
   exact TotP.okT
  ·exact TotP.okT
 unfold Qgv
 exact TotP.okT
theorem Qni (s1:ByteArray)(h_s1:Qf0 s1):TotP (Qc0 s1) fun r=>True:=by
 unfold Qc0
 refine TotP.bind (Qhx s1 (h_s1)) (fun x_1 hv2=>?_)
 exact TotP.okT
theorem QjH (s1:(List ByteArray))(h_s1:(lenL Qf0) s1):TotP (QaO s1) fun r=>True:=by
 unfold QaO
 refine TotP.bind (TotP.up (s1.length) (fun st=>st) (fun _=>True) (Q:=fun q=>True) rfl trivial (fun i2 st hi3 hn4 hj5=>?_)) (fun q6 hq7=>?_)
 ·obtain⟨x_1,hst⟩:∃y,y=st:=⟨_,rfl⟩
  subst hst
  replace hi3:x_1=(i2:Int):=hi3
  show TotP (Q8 s1 x_1) _
  unfold Q8
  refine TotP.bif (fun hc8=>?_) (fun hc8=>?_)
  ·refine TotP.bind (TotP.idx (by omega) (by simp_all)) (fun e_9 hv10=>?_)
   refine TotP.bind (Qni e_9 (((h_s1).2 e_9 hv10))) (fun x_11 hv12=>?_)
   refine TotP.bif (fun hc13=>?_) (fun hc13=>?_)
   ·exact TotP.ok (Ql trivial)
   ·exact TotP.ok (Qx ⟨(by simp_all),by subst hi3;exact Qu (by simp_all) (h_s1).1,trivial⟩)
  ·exact TotP.ok (Ql trivial)
 rcases q6 with q6 | q6
 ·show TotP (QaA q6) _
  unfold QaA
  exact TotP.okT
 ·show TotP (QaB) _
  unfold QaB
  exact TotP.okT
theorem QiK (s1:(List ByteArray))(h_s1:(lenL Qf0) s1):TotP (QaC s1) fun r=>True:=by
 unfold QaC
 refine TotP.bind (QjH s1 (h_s1)) (fun x_1 hv2=>?_)
 exact TotP.okT
theorem Qn4 (v1:QB)(h_v1:QbM v1):TotP (QdJ v1) fun r=>True:=by
 unfold QdJ
 refine TotP.bind (P:=fun _=>True) ?_ (fun x_1 hv2=>?_)
 ·unfold QgR
  refine TotP.bind (Qhx v1.Name (h_v1.1)) (fun x_3 hv4=>?_)
  refine TotP.bif (fun hc5=>?_) (fun hc5=>?_)
  ·refine TotP.bif (fun hc6=>?_) (fun hc6=>?_)
   ·exact TotP.okT
   ·refine TotP.bind (QiK v1.Names (h_v1.2.2.2.2.1)) (fun x_7 hv8=>?_)
    exact TotP.okT
  ·exact TotP.okT
 unfold QcC
 exact TotP.okT
theorem QpO (v1:TNet)(v2:Int)(v3:Int)(v4:QB)(v5:Int)(h_v1:QJ v1)(h_v4:QbM v4)(hp0:0≤v2)(hp1:v2<v1.Colours.length):TotP (QfH v1 v2 v3 v4 v5) fun r=>True:=by
 unfold QfH
 refine TotP.bind (Qn3 v1 v2 (h_v1) (by omega) (by omega)) (fun x_1 hv2=>?_)
 refine TotP.bif (fun hc3=>?_) (fun hc3=>?_)
 ·exact TotP.okT
 ·refine TotP.bind (Qn4 v4 (h_v4)) (fun x_4 hv5=>?_)
  refine TotP.bif (fun hc6=>?_) (fun hc6=>?_)
  ·exact TotP.okT
  ·exact TotP.okT
theorem Qo8 (k1:Int)(c2:QB)(v3:TNet)(h_c2:QbM c2)(h_v3:QJ v3)(hp0:0≤k1)(hp1:k1<v3.Colours.length):TotP (QeM k1 c2 v3) fun r=>True:=by
 unfold QeM
 refine TotP.bind (QpO v3 k1 8 c2 8 (h_v3) (h_c2) (by omega) (by omega)) (fun x_1 hv2=>?_)
 exact TotP.okT
theorem Qmw (l1:(List QB))(v2:TNet)(h_l1:(lenL QbM) l1)(h_v2:QJ v2)(hp0:l1.length≤v2.Colours.length):TotP (Qch l1 v2) fun r=>True:=by
 unfold Qch
 refine TotP.bind (TotP.up (l1.length) (fun st=>st) (fun _=>True) (Q:=fun q=>True) rfl trivial (fun i2 st hi3 hn4 hj5=>?_)) (fun q6 hq7=>?_)
 ·obtain⟨x_1,hst⟩:∃y,y=st:=⟨_,rfl⟩
  subst hst
  replace hi3:x_1=(i2:Int):=hi3
  show TotP (QaZ l1 v2 x_1) _
  unfold QaZ
  refine TotP.bif (fun hc8=>?_) (fun hc8=>?_)
  ·refine TotP.bind (TotP.idx (by omega) (by simp_all)) (fun e_9 hv10=>?_)
   refine TotP.bind (Qo8 x_1 e_9 v2 (((h_l1).2 e_9 hv10)) (h_v2) (by omega) (by simp_all;omega)) (fun x_11 hv12=>?_)
   refine TotP.bif (fun hc13=>?_) (fun hc13=>?_)
   ·exact TotP.ok (Ql trivial)
   ·exact TotP.ok (Qx ⟨(by simp_all),by subst hi3;exact Qu (by simp_all) (h_l1).1,trivial⟩)
  ·exact TotP.ok (Ql trivial)
 rcases q6 with q6 | q6
 ·show TotP (QbG q6.1 q6.2) _
  unfold QbG
  exact TotP.okT
 ·show TotP (QbH) _
  unfold QbH
  exact TotP.okT
theorem Qmk (n1:TNet)(h_n1:QJ n1):TotP (Qep n1) fun r=>True:=by
 unfold Qep
 refine TotP.bind (Qmw n1.Colours n1 (h_n1.1) (h_n1) (by omega)) (fun x_1 hv2=>?_)
 exact TotP.okT
theorem Qqv (v1:QC)(h_v1:Qcs v1):TotP (Qgx v1) fun r=>True:=by
 unfold Qgx
 refine TotP.bind (Qhx v1.Name (h_v1.1)) (fun x_1 hv2=>?_)
 exact TotP.okT
theorem Qqw (p1:QC)(v2:QC)(h_p1:Qcs p1)(h_v2:Qcs v2):TotP (Qgy p1 v2) fun r=>True:=by
 unfold Qgy
 exact TotP.okT
theorem Qh0 (s1:(List QC))(v2:QC)(h_s1:(lenL Qcs) s1)(h_v2:Qcs v2):TotP (Qam s1 v2) fun r=>True:=by
 unfold Qam
 refine TotP.bind (TotP.up (s1.length) (fun st=>st) (fun _=>True) (Q:=fun q=>True) rfl trivial (fun i2 st hi3 hn4 hj5=>?_)) (fun q6 hq7=>?_)
 ·obtain⟨x_1,hst⟩:∃y,y=st:=⟨_,rfl⟩
  subst hst
  replace hi3:x_1=(i2:Int):=hi3
  show TotP (QS s1 v2 x_1) _
  unfold QS
  refine TotP.bif (fun hc8=>?_) (fun hc8=>?_)
  ·refine TotP.bind (TotP.idx (by omega) (by simp_all)) (fun e_9 hv10=>?_)
   refine TotP.bind (Qqw e_9 v2 (((h_s1).2 e_9 hv10)) (h_v2)) (fun x_11 hv12=>?_)
   refine TotP.bif (fun hc13=>?_) (fun hc13=>?_)
   ·exact TotP.ok (Ql trivial)
   ·exact TotP.ok (Qx ⟨(by simp_all),by subst hi3;exact Qu (by simp_all) (h_s1).1,trivial⟩)
  ·exact TotP.ok (Ql trivial)
 rcases q6 with q6 | q6
 ·show TotP (Q5 q6) _
  unfold Q5
  exact TotP.okT
 ·show TotP (Q6) _
  unfold Q6
  exact TotP.okT
theorem QgT (s1:(List QC))(v2:QC)(h_s1:(lenL Qcs) s1)(h_v2:Qcs v2):TotP (Q7 s1 v2) fun r=>True:=by
 unfold Q7
 refine TotP.bind (Qh0 s1 v2 (h_s1) (h_v2)) (fun x_1 hv2=>?_)
 exact TotP.okT
theorem Qqx (v1:TNet)(v2:Int)(v3:QC)(h_v1:QJ v1)(h_v3:Qcs v3)(hp0:0≤v2)(hp1:v2<v1.Places.length):TotP (Qgz v1 v2 v3) fun r=>True:=by
 unfold Qgz
 refine TotP.bind (TotP.chk (by simp_all;omega)) (fun _ _=>?_)
 refine TotP.bind (QgT ((v1.Places.drop 0).take (v2.toNat-0)) v3 (((h_v1.2.1).drop _).take _) (h_v3)) (fun x_1 hv2=>?_)
 exact TotP.okT
theorem Qif (l1:(List QB))(k2:Int)(h_l1:(lenL QbM) l1):TotP (Qbo l1 k2) fun r=>True:=by
 unfold Qbo
 exact TotP.okT
theorem Qqy (v1:TNet)(v2:QC)(h_v1:QJ v1)(h_v2:Qcs v2):TotP (QgA v1 v2) fun r=>True:=by
 unfold QgA
 refine TotP.bind (Qif v1.Colours v2.Colour (h_v1.1)) (fun x_1 hv2=>?_)
 exact TotP.okT
theorem Qtb (b1:(List (Int×Int)))(h_b1:(lenL (fun _=>True)) b1):TotP (Qb9 b1) fun r=>True:=by
 unfold Qb9
 refine TotP.bind (TotP.up (b1.length) (fun st=>st.2) (fun _=>True) (Q:=fun q=>True) rfl trivial (fun i3 st hi4 hn5 hj6=>?_)) (fun q7 hq8=>?_)
 ·obtain⟨last_1,x_2⟩:=st
  replace hi4:x_2=(i3:Int):=hi4
  show TotP (Qbi b1 last_1 x_2) _
  unfold Qbi
  refine TotP.bif (fun hc9=>?_) (fun hc9=>?_)
  ·refine TotP.bind (TotP.idx (by omega) (by simp_all)) (fun e_10 hv11=>?_)
   refine TotP.bif (fun hc12=>?_) (fun hc12=>?_)
   ·exact TotP.ok (Ql trivial)
   ·exact TotP.ok (Qx ⟨(by simp_all),by subst hi4;exact Qu (by simp_all) (h_b1).1,trivial⟩)
  ·exact TotP.ok (Ql trivial)
 rcases q7 with q7 | q7
 ·show TotP (Qhb) _
  unfold Qhb
  exact TotP.okT
 ·show TotP (Qhc) _
  unfold Qhc
  exact TotP.okT
theorem Qqz (v1:QC)(h_v1:Qcs v1):TotP (QgB v1) fun r=>True:=by
 unfold QgB
 refine TotP.bind (Qtb v1.First (h_v1.2.2)) (fun x_1 hv2=>?_)
 exact TotP.okT
theorem Qig (l1:(List QB))(k2:Int)(h_l1:(lenL QbM) l1):TotP (Qd1 l1 k2) fun r=>(True∧Qta r.2)∧(r.1=true→(0≤k2∧k2<r.2.sizes.length)∧r.2.k=k2∧r.2.all.length=r.2.sizes.length∧∀x∈r.2.sizes,1≤x∧x≤1024):=by
 unfold Qd1
 refine TotP.bind (Qm5 l1 h_l1) fun x hx=>?_
 refine TotP.bif (fun _=>TotP.ok ⟨⟨trivial,lenL.nil,lenL.nil,trivial⟩,fun h=>by cases h⟩) fun hc=>?_
 simp only [Bool.or_eq_false_iff,Bool.not_eq_false',decide_eq_false_iff_not]at hc
 have:=hx.2 hc.1
 exact TotP.ok ⟨⟨trivial,h_l1,hx.1.1,trivial⟩,fun _=>⟨⟨by omega,by show k2<(x.1.length:Int);omega⟩,rfl,this.1.symm,this.2⟩⟩
theorem Qct (l1:(List QB))(k2:Int)(h_l1:(lenL QbM) l1):TotP (QaG l1 k2) fun r=>0≤r∧r≤1024:=by
 unfold QaG
 refine TotP.bind (Qig l1 k2 h_l1) (fun x hx=>?_)
 refine TotP.bif (fun hc=>TotP.ok (by omega)) (fun hc=>?_)
 have h:=hx.2 (by simpa using hc)
 exact TotP.bind (TotP.idx (by omega) (by omega)) fun e he=>TotP.ok (by have:=h.2.2.2 e he;omega)
theorem Qo9 (row1:(Int×Int))(v2:Int)  : TotP (QeN row1 v2) fun r=>True:=by
 unfold QeN
 exact TotP.okT
theorem QjI (s1:(List (Int×Int)))(v2:Int)(h_s1:(lenL (fun _=>True)) s1):TotP (QaP s1 v2) fun r=>True:=by
 unfold QaP
 refine TotP.bind (TotP.up (s1.length) (fun st=>st) (fun _=>True) (Q:=fun q=>True) rfl trivial (fun i2 st hi3 hn4 hj5=>?_)) (fun q6 hq7=>?_)
 ·obtain⟨x_1,hst⟩:∃y,y=st:=⟨_,rfl⟩
  subst hst
  replace hi3:x_1=(i2:Int):=hi3
  show TotP (Q9 s1 v2 x_1) _
  unfold Q9
  refine TotP.bif (fun hc8=>?_) (fun hc8=>?_)
  ·refine TotP.bind (TotP.idx (by omega) (by simp_all)) (fun e_9 hv10=>?_)
   refine TotP.bind (Qo9 e_9 v2 ) (fun x_11 hv12=>?_)
   refine TotP.bif (fun hc13=>?_) (fun hc13=>?_)
   ·exact TotP.ok (Ql trivial)
   ·exact TotP.ok (Qx ⟨(by simp_all),by subst hi3;exact Qu (by simp_all) (h_s1).1,trivial⟩)
  ·exact TotP.ok (Ql trivial)
 rcases q6 with q6 | q6
 ·show TotP (QaD q6) _
  unfold QaD
  exact TotP.okT
 ·show TotP (QaE) _
  unfold QaE
  exact TotP.okT
theorem QiL (s1:(List (Int×Int)))(v2:Int)(h_s1:(lenL (fun _=>True)) s1):TotP (QaF s1 v2) fun r=>True:=by
 unfold QaF
 refine TotP.bind (QjI s1 v2 (h_s1)) (fun x_1 hv2=>?_)
 exact TotP.okT
theorem QqA (v1:TNet)(v2:QC)(h_v1:QJ v1)(h_v2:Qcs v2):TotP (QgC v1 v2) fun r=>True:=by
 unfold QgC
 refine TotP.bind (Qct v1.Colours v2.Colour (h_v1.1)) (fun x_1 hv2=>?_)
 refine TotP.bind (QiL v2.First x_1 (h_v2.2.2)) (fun x_3 hv4=>?_)
 exact TotP.okT
theorem QpP (v1:QC)(v2:Int)(v3:TNet)(v4:Int)(v5:Int)(v6:Int)(v7:Int)(v8:Int)(h_v1:Qcs v1)(h_v3:QJ v3)(hp0:0≤v4)(hp1:v4<v3.Places.length):TotP (QfI v1 v2 v3 v4 v5 v6 v7 v8) fun r=>True:=by
 unfold QfI
 refine TotP.bind (Qqv v1 (h_v1)) (fun x_1 hv2=>?_)
 refine TotP.bif (fun hc3=>?_) (fun hc3=>?_)
 ·exact TotP.okT
 ·refine TotP.bind (Qqx v3 v4 v1 (h_v3) (h_v1) (by omega) (by omega)) (fun x_4 hv5=>?_)
  refine TotP.bif (fun hc6=>?_) (fun hc6=>?_)
  ·exact TotP.okT
  ·refine TotP.bind (Qqy v3 v1 (h_v3) (h_v1)) (fun x_7 hv8=>?_)
   refine TotP.bif (fun hc9=>?_) (fun hc9=>?_)
   ·exact TotP.okT
   ·refine TotP.bind (Qqz v1 (h_v1)) (fun x_10 hv11=>?_)
    refine TotP.bif (fun hc12=>?_) (fun hc12=>?_)
    ·exact TotP.okT
    ·refine TotP.bind (QqA v3 v1 (h_v3) (h_v1)) (fun x_13 hv14=>?_)
     refine TotP.bif (fun hc15=>?_) (fun hc15=>?_)
     ·exact TotP.okT
     ·exact TotP.okT
theorem Qr8 (n1:TNet)(k2:Int)(h_n1:QJ n1):TotP (Qh9 n1 k2) fun r=>True:=by
 unfold Qh9
 refine TotP.bind (QbV n1.Places k2 (h_n1.2.1)) (fun x_1 hv2=>?_)
 refine TotP.bif (fun hc3=>?_) (fun hc3=>?_)
 ·exact TotP.okT
 ·refine TotP.bind (TotP.idx (by simp_all) (by simp_all)) (fun e_4 hv5=>?_)
  refine TotP.bind (QpP e_4 1 n1 k2 5 3 1 8 (((h_n1.2.1).2 e_4 hv5)) (h_n1) (by simp_all) (by simp_all)) (fun x_6 hv7=>?_)
  exact TotP.okT
theorem Qr9 (k1:Int)(p2:QC)(v3:TNet)(h_p2:Qcs p2)(h_v3:QJ v3):TotP (Qia k1 p2 v3) fun r=>True:=by
 unfold Qia
 refine TotP.bind (Qr8 v3 k1 (h_v3)) (fun x_1 hv2=>?_)
 exact TotP.okT
theorem Qm6 (l1:(List QC))(v2:TNet)(h_l1:(lenL Qcs) l1)(h_v2:QJ v2):TotP (QcD l1 v2) fun r=>True:=by
 unfold QcD
 refine TotP.bind (TotP.up (l1.length) (fun st=>st) (fun _=>True) (Q:=fun q=>True) rfl trivial (fun i2 st hi3 hn4 hj5=>?_)) (fun q6 hq7=>?_)
 ·obtain⟨x_1,hst⟩:∃y,y=st:=⟨_,rfl⟩
  subst hst
  replace hi3:x_1=(i2:Int):=hi3
  show TotP (Qa8 l1 v2 x_1) _
  unfold Qa8
  refine TotP.bif (fun hc8=>?_) (fun hc8=>?_)
  ·refine TotP.bind (TotP.idx (by omega) (by simp_all)) (fun e_9 hv10=>?_)
   refine TotP.bind (Qr9 x_1 e_9 v2 (((h_l1).2 e_9 hv10)) (h_v2)) (fun x_11 hv12=>?_)
   refine TotP.bif (fun hc13=>?_) (fun hc13=>?_)
   ·exact TotP.ok (Ql trivial)
   ·exact TotP.ok (Qx ⟨(by simp_all),by subst hi3;exact Qu (by simp_all) (h_l1).1,trivial⟩)
  ·exact TotP.ok (Ql trivial)
 rcases q6 with q6 | q6
 ·show TotP (QbT q6.1 q6.2) _
  unfold QbT
  exact TotP.okT
 ·show TotP (QbU) _
  unfold QbU
  exact TotP.okT
theorem Qi6 (l1:(List Qr))(k2:Int)(h_l1:(lenL Qaw) l1):TotP (QaL l1 k2) fun r=>r=true→0≤k2∧k2<l1.length:=by
 unfold QaL
 exact TotP.ok (by first | (intro hr;first | (cases hr;done) | omega | ((try simp only [Bool.and_eq_true,Bool.or_eq_true,Bool.or_eq_false_iff,Bool.not_eq_true',Bool.not_eq_false',decide_eq_true_eq,decide_eq_false_iff_not,beq_iff_eq,bne_iff_ne,ne_eq,Bool.not_eq_true,Bool.not_eq_false,List.length_append,List.length_singleton,List.length_nil,List.length_drop,List.length_take,List.length_cons,QkG,QkH,Qjp]at *);omega)) | ((try simp only [Bool.and_eq_true,Bool.or_eq_true,Bool.or_eq_false_iff,Bool.not_eq_true',Bool.not_eq_false',decide_eq_true_eq,decide_eq_false_iff_not,beq_iff_eq,bne_iff_ne,ne_eq,Bool.not_eq_true,Bool.not_eq_false,List.length_append,List.length_singleton,List.length_nil,List.length_drop,List.length_take,List.length_cons,QkG,QkH,Qjp]at *);omega) | simp_all)
theorem Qsa (v1:Int)(v2:TNet)(v3:Qr)(h_v2:QJ v2)(h_v3:Qaw v3):TotP (Qib v1 v2 v3) fun r=>True:=by
 unfold Qib
 exact TotP.okT
theorem QpQ (v1:Int)(v2:TNet)(v3:Qr)(v4:Int)(h_v2:QJ v2)(h_v3:Qaw v3):TotP (QfJ v1 v2 v3 v4) fun r=>True:=by
 unfold QfJ
 exact TotP.okT
theorem QpR (v1:Int)(v2:TNet)(v3:Qr)(v4:Int)(h_v2:QJ v2)(h_v3:Qaw v3):TotP (QfK v1 v2 v3 v4) fun r=>True:=by
 unfold QfK
 exact TotP.okT
theorem QpS (v1:Int)(v2:TNet)(v3:Qr)(h_v2:QJ v2)(h_v3:Qaw v3):TotP (QfL v1 v2 v3) fun r=>True:=by
 unfold QfL
 exact TotP.okT
theorem Qrf (v1:Qr)(h_v1:Qaw v1):TotP (Qhl v1) fun r=>True:=by
 unfold Qhl
 refine TotP.bind (Qhx v1.Name (h_v1.1)) (fun x_1 hv2=>?_)
 exact TotP.okT
theorem Qrg (p1:Qr)(v2:Qr)(h_p1:Qaw p1)(h_v2:Qaw v2):TotP (Qhm p1 v2) fun r=>True:=by
 unfold Qhm
 exact TotP.okT
theorem Qiw (s1:(List Qr))(v2:Qr)(h_s1:(lenL Qaw) s1)(h_v2:Qaw v2):TotP (Qax s1 v2) fun r=>True:=by
 unfold Qax
 refine TotP.bind (TotP.up (s1.length) (fun st=>st) (fun _=>True) (Q:=fun q=>True) rfl trivial (fun i2 st hi3 hn4 hj5=>?_)) (fun q6 hq7=>?_)
 ·obtain⟨x_1,hst⟩:∃y,y=st:=⟨_,rfl⟩
  subst hst
  replace hi3:x_1=(i2:Int):=hi3
  show TotP (QV s1 v2 x_1) _
  unfold QV
  refine TotP.bif (fun hc8=>?_) (fun hc8=>?_)
  ·refine TotP.bind (TotP.idx (by omega) (by simp_all)) (fun e_9 hv10=>?_)
   refine TotP.bind (Qrg e_9 v2 (((h_s1).2 e_9 hv10)) (h_v2)) (fun x_11 hv12=>?_)
   refine TotP.bif (fun hc13=>?_) (fun hc13=>?_)
   ·exact TotP.ok (Ql trivial)
   ·exact TotP.ok (Qx ⟨(by simp_all),by subst hi3;exact Qu (by simp_all) (h_s1).1,trivial⟩)
  ·exact TotP.ok (Ql trivial)
 rcases q6 with q6 | q6
 ·show TotP (Qae q6) _
  unfold Qae
  exact TotP.okT
 ·show TotP (Qaf) _
  unfold Qaf
  exact TotP.okT
theorem QhC (s1:(List Qr))(v2:Qr)(h_s1:(lenL Qaw) s1)(h_v2:Qaw v2):TotP (Qag s1 v2) fun r=>True:=by
 unfold Qag
 refine TotP.bind (Qiw s1 v2 (h_s1) (h_v2)) (fun x_1 hv2=>?_)
 exact TotP.okT
theorem Qrh (v1:TNet)(v2:Int)(v3:Qr)(h_v1:QJ v1)(h_v3:Qaw v3)(hp0:0≤v2)(hp1:v2<v1.Tasks.length):TotP (Qho v1 v2 v3) fun r=>True:=by
 unfold Qho
 refine TotP.bind (TotP.chk (by simp_all;omega)) (fun _ _=>?_)
 refine TotP.bind (QhC ((v1.Tasks.drop 0).take (v2.toNat-0)) v3 (((h_v1.2.2.1).drop _).take _) (h_v3)) (fun x_1 hv2=>?_)
 exact TotP.okT
theorem Qri (v1:Int)(v2:Qr)(h_v2:Qaw v2):TotP (Qfi v1 v2) fun r=>True:=by
 unfold Qfi
 exact TotP.okT
theorem Qnj (v1:TVar)(h_v1:QdQ v1):TotP (Qc1 v1) fun r=>True:=by
 unfold Qc1
 refine TotP.bind (Qhx v1.Name (h_v1.1)) (fun x_1 hv2=>?_)
 exact TotP.okT
theorem Qnk (p1:TVar)(v2:TVar)(h_p1:QdQ p1)(h_v2:QdQ v2):TotP (Qc2 p1 v2) fun r=>True:=by
 unfold Qc2
 exact TotP.okT
theorem Qi7 (s1:(List TVar))(v2:TVar)(h_s1:(lenL QdQ) s1)(h_v2:QdQ v2):TotP (QaI s1 v2) fun r=>True:=by
 unfold QaI
 refine TotP.bind (TotP.up (s1.length) (fun st=>st) (fun _=>True) (Q:=fun q=>True) rfl trivial (fun i2 st hi3 hn4 hj5=>?_)) (fun q6 hq7=>?_)
 ·obtain⟨x_1,hst⟩:∃y,y=st:=⟨_,rfl⟩
  subst hst
  replace hi3:x_1=(i2:Int):=hi3
  show TotP (QZ s1 v2 x_1) _
  unfold QZ
  refine TotP.bif (fun hc8=>?_) (fun hc8=>?_)
  ·refine TotP.bind (TotP.idx (by omega) (by simp_all)) (fun e_9 hv10=>?_)
   refine TotP.bind (Qnk e_9 v2 (((h_s1).2 e_9 hv10)) (h_v2)) (fun x_11 hv12=>?_)
   refine TotP.bif (fun hc13=>?_) (fun hc13=>?_)
   ·exact TotP.ok (Ql trivial)
   ·exact TotP.ok (Qx ⟨(by simp_all),by subst hi3;exact Qu (by simp_all) (h_s1).1,trivial⟩)
  ·exact TotP.ok (Ql trivial)
 rcases q6 with q6 | q6
 ·show TotP (Qap q6) _
  unfold Qap
  exact TotP.okT
 ·show TotP (Qaq) _
  unfold Qaq
  exact TotP.okT
theorem Qih (s1:(List TVar))(v2:TVar)(h_s1:(lenL QdQ) s1)(h_v2:QdQ v2):TotP (Qar s1 v2) fun r=>True:=by
 unfold Qar
 refine TotP.bind (Qi7 s1 v2 (h_s1) (h_v2)) (fun x_1 hv2=>?_)
 exact TotP.okT
theorem Qnl (v1:(List TVar))(v2:Int)(v3:TVar)(h_v1:(lenL QdQ) v1)(h_v3:QdQ v3)(hp0:0≤v2)(hp1:v2<v1.length):TotP (Qc3 v1 v2 v3) fun r=>True:=by
 unfold Qc3
 refine TotP.bind (TotP.chk (by simp_all;omega)) (fun _ _=>?_)
 refine TotP.bind (Qih ((v1.drop 0).take (v2.toNat-0)) v3 (((h_v1).drop _).take _) (h_v3)) (fun x_1 hv2=>?_)
 exact TotP.okT
theorem Qnm (v1:TNet)(v2:TVar)(h_v1:QJ v1)(h_v2:QdQ v2):TotP (Qc4 v1 v2) fun r=>True:=by
 unfold Qc4
 refine TotP.bind (Qif v1.Colours v2.Colour (h_v1.1)) (fun x_1 hv2=>?_)
 exact TotP.okT
theorem QpT (v1:TVar)(v2:Int)(v3:(List TVar))(v4:Int)(v5:Int)(v6:TNet)(v7:Int)(h_v1:QdQ v1)(h_v3:(lenL QdQ) v3)(h_v6:QJ v6)(hp0:0≤v4)(hp1:v4<v3.length):TotP (QfM v1 v2 v3 v4 v5 v6 v7) fun r=>True:=by
 unfold QfM
 refine TotP.bind (Qnj v1 (h_v1)) (fun x_1 hv2=>?_)
 refine TotP.bif (fun hc3=>?_) (fun hc3=>?_)
 ·exact TotP.okT
 ·refine TotP.bind (Qnl v3 v4 v1 (h_v3) (h_v1) (by omega) (by omega)) (fun x_4 hv5=>?_)
  refine TotP.bif (fun hc6=>?_) (fun hc6=>?_)
  ·exact TotP.okT
  ·refine TotP.bind (Qnm v6 v1 (h_v6) (h_v1)) (fun x_7 hv8=>?_)
   refine TotP.bif (fun hc9=>?_) (fun hc9=>?_)
   ·exact TotP.okT
   ·exact TotP.okT
theorem Qn5 (k1:Int)(v2:TVar)(v3:(List TVar))(v4:TNet)(h_v2:QdQ v2)(h_v3:(lenL QdQ) v3)(h_v4:QJ v4)(hp0:0≤k1)(hp1:k1<v3.length):TotP (QdK k1 v2 v3 v4) fun r=>True:=by
 unfold QdK
 refine TotP.bind (QpT v2 1 v3 k1 5 v4 3 (h_v2) (h_v3) (h_v4) (by omega) (by omega)) (fun x_1 hv2=>?_)
 exact TotP.okT
theorem QnP (l1:(List TVar))(v2:(List TVar))(v3:TNet)(h_l1:(lenL QdQ) l1)(h_v2:(lenL QdQ) v2)(h_v3:QJ v3)(hp0:l1.length≤v2.length):TotP (Qdm l1 v2 v3) fun r=>True:=by
 unfold Qdm
 refine TotP.bind (TotP.up (l1.length) (fun st=>st) (fun _=>True) (Q:=fun q=>True) rfl trivial (fun i2 st hi3 hn4 hj5=>?_)) (fun q6 hq7=>?_)
 ·obtain⟨x_1,hst⟩:∃y,y=st:=⟨_,rfl⟩
  subst hst
  replace hi3:x_1=(i2:Int):=hi3
  show TotP (Qbw l1 v2 v3 x_1) _
  unfold Qbw
  refine TotP.bif (fun hc8=>?_) (fun hc8=>?_)
  ·refine TotP.bind (TotP.idx (by omega) (by simp_all)) (fun e_9 hv10=>?_)
   refine TotP.bind (Qn5 x_1 e_9 v2 v3 (((h_l1).2 e_9 hv10)) (h_v2) (h_v3) (by omega) (by simp_all;omega)) (fun x_11 hv12=>?_)
   refine TotP.bif (fun hc13=>?_) (fun hc13=>?_)
   ·exact TotP.ok (Ql trivial)
   ·exact TotP.ok (Qx ⟨(by simp_all),by subst hi3;exact Qu (by simp_all) (h_l1).1,trivial⟩)
  ·exact TotP.ok (Ql trivial)
 rcases q6 with q6 | q6
 ·show TotP (Qci q6.1 q6.2) _
  unfold Qci
  exact TotP.okT
 ·show TotP (Qcj) _
  unfold Qcj
  exact TotP.okT
theorem Qpa (n1:TNet)(l2:(List TVar))(h_n1:QJ n1)(h_l2:(lenL QdQ) l2):TotP (QeO n1 l2) fun r=>True:=by
 unfold QeO
 refine TotP.bind (QnP l2 l2 n1 (h_l2) (h_l2) (h_n1) (by omega)) (fun x_1 hv2=>?_)
 exact TotP.okT
theorem Qrj (v1:TNet)(v2:Qr)(h_v1:QJ v1)(h_v2:Qaw v2):TotP (Qhp v1 v2) fun r=>True:=by
 unfold Qhp
 refine TotP.bind (Qpa v1 v2.Vars (h_v1) (h_v2.2.1)) (fun x_1 hv2=>?_)
 exact TotP.okT
theorem QqB (v1:TNet)(v2:Qr)(v3:Int)(h_v1:QJ v1)(h_v2:Qaw v2):TotP (Qeq v1 v2 v3) fun r=>True:=by
 unfold Qeq
 refine TotP.bind (Qrj v1 v2 (h_v1) (h_v2)) (fun x_1 hv2=>?_)
 exact TotP.okT
theorem Qny (n1:TNet)(k2:Int)(h_n1:QJ n1):TotP (Qca n1 k2) fun r=>True:=by
 unfold Qca
 refine TotP.bind (Qi6 n1.Tasks k2 (h_n1.2.2.1)) (fun x_1 hv2=>?_)
 refine TotP.bif (fun hc3=>?_) (fun hc3=>?_)
 ·exact TotP.okT
 ·refine TotP.bind (TotP.idx (by simp_all) (by simp_all)) (fun e_4 hv5=>?_)
  refine TotP.bind (TotP.up (e_4.Vars.length) (fun st=>st.2) (fun _=>True) (Q:=fun q=>True) rfl trivial (fun i8 st hi9 hn10 hj11=>?_)) (fun q12 hq13=>?_)
  ·obtain⟨out_6,x_7⟩:=st
   replace hi9:x_7=(i8:Int):=hi9
   show TotP (Qb6 e_4 n1 out_6 x_7) _
   unfold Qb6
   refine TotP.bif (fun hc14=>?_) (fun hc14=>?_)
   ·refine TotP.bind (TotP.idx (by omega) (by simp_all)) (fun e_15 hv16=>?_)
    refine TotP.bind (Qct n1.Colours e_15.Colour (h_n1.1)) (fun x_17 hv18=>?_)
    refine TotP.bif (fun hc19=>?_) (fun hc19=>?_)
    ·exact TotP.ok (Ql trivial)
    ·exact TotP.ok (Qx ⟨(by simp_all),by subst hi9;exact Qu (by simp_all) (((h_n1.2.2.1).2 e_4 hv5).2.1).1,trivial⟩)
   ·exact TotP.ok (Ql trivial)
  rcases q12 with q12 | q12
  ·show TotP (QfN) _
   unfold QfN
   exact TotP.okT
  ·show TotP (QfO q12) _
   unfold QfO
   exact TotP.okT
theorem Qrk (v1:TNet)(v2:Int)(h_v1:QJ v1):TotP (Qfj v1 v2) fun r=>True:=by
 unfold Qfj
 refine TotP.bind (Qny v1 v2 (h_v1)) (fun x_1 hv2=>?_)
 exact TotP.okT
theorem Qtc (kind1:Int):TotP (QjN kind1) fun r=>0≤r→(kind1=1∨kind1=2∨kind1=3∨kind1=4∨kind1=5∨kind1=6)∧(kind1=3∨kind1=4→r=1)∧(kind1=5→r=2)∧(kind1=6→r=3):=by
 unfold QjN
 refine TotP.bif (fun hc=>?_) (fun hc=>?_)
 ·unfold Qfa;rw [hc]
  simp only [beq_iff_eq]at hc
  exact TotP.ok (by omega)
 ·simp only [beq_eq_false_iff_ne]at hc
  unfold Qfa
  refine TotP.bif (fun hc=>TotP.ok (by simp only [beq_iff_eq]at hc;omega)) (fun hc2=>?_)
  simp only [beq_eq_false_iff_ne]at hc2
  refine TotP.bif (fun hc3=>?_) (fun hc3=>?_)
  ·unfold Qe9;rw [hc3]
   simp only [beq_iff_eq]at hc3
   exact TotP.ok (by omega)
  ·simp only [beq_eq_false_iff_ne]at hc3
   unfold Qe9
   refine TotP.bif (fun hc=>TotP.ok (by simp only [beq_iff_eq]at hc;omega)) (fun hc4=>?_)
   simp only [beq_eq_false_iff_ne]at hc4
   refine TotP.bif (fun hc=>TotP.ok (by simp only [beq_iff_eq]at hc;omega)) (fun hc5=>?_)
   simp only [beq_eq_false_iff_ne]at hc5
   exact TotP.bif (fun hc=>TotP.ok (by simp only [beq_iff_eq]at hc;omega)) (fun hc6=>TotP.ok (by omega))
theorem QsC (op1:Int)  : TotP (QiS op1) fun r=>True:=by
 unfold QiS
 exact TotP.okT
theorem QlH (rec_:Qg→Int→Option Bool)(s1:List Qg)(v2:Int)(h1:s1.length≤maxLen)(h:∀k∈s1,TotP (rec_ k v2) fun r=>r=true→POk v2 k):TotP (Qad rec_ s1 v2) fun r=>r=false→∀k∈s1,POk v2 k:=by
 unfold Qad Qa2
 refine TotP.bind (P:=fun x=>x<0→∀k∈s1,POk v2 k) ?_ fun x hx=>TotP.ok fun h=>hx (by simp only [decide_eq_false_iff_not]at h;omega)
 refine TotP.bind (TotP.up s1.length (fun st=>st) (fun st=>∀(j:Nat) k,(j:Int)<st→s1[j]? = some k→POk v2 k) (Q:=fun q=>(∀x,q=.inl x→0≤x)∧(q=.inr ()→∀k∈s1,POk v2 k)) rfl (fun j k hj=>by omega) (fun i st hi hn hj=>?_)) (fun q hq=>?_)
 ·show TotP (QU s1 rec_ v2 st) _
  unfold QU Qjg
  refine TotP.bif (fun hc=>?_) (fun hc=>TotP.ok (Ql ⟨fun x h=>(by cases h),fun _ k hk=>by
   obtain⟨j,hj1,hj2⟩:=List.mem_iff_getElem.1 hk
   simp only [decide_eq_false_iff_not]at hc
   exact hj j k (by omega) (by rw [List.getElem?_eq_getElem hj1,hj2])⟩))
  simp only [decide_eq_true_eq]at hc
  rw [QlG (by omega)]
  have hlt:st.toNat<s1.length:=by omega
  rw [List.getElem?_eq_getElem hlt]
  refine TotP.bind (P:=fun k=>k=s1[st.toNat]) (TotP.ok rfl) fun k hk=>?_
  subst hk
  refine TotP.bind (P:=fun r=>r=false→POk v2 s1[st.toNat]) (TotP.bind (h _ (List.getElem_mem hlt)) fun x hx=>TotP.ok fun h=>hx (by simpa using h)) fun x hx=>?_
  refine TotP.bif (fun _=>TotP.ok (Ql ⟨fun x h=>(by cases h;omega),fun h=>(by cases h)⟩)) fun hxf=>TotP.ok (Qx ⟨by omega,by rw [hi];exact Qu (by omega) h1,?_⟩)
  rw [hi,Qu (show i<s1.length by omega) h1]
  intro j k hj' hk
  by_cases c:j=i
  ·subst c
   have e:st.toNat=j:=by omega
   have:=hx hxf
   rw [List.getElem?_eq_getElem (by omega)]at hk
   cases hk
   simpa only [e] using this
  ·exact hj j k (by omega) hk
 ·rcases q with q | q
  ·exact TotP.ok fun h=>absurd (hq.1 q rfl) (by omega)
  ·exact TotP.ok fun _=>hq.2 rfl
theorem Qm7 : ∀(n:Nat) (e:Qg) (v:Int),Qc6 e→SizeOf.sizeOf e≤n→TotP (QdV n e v) fun r=>r=true→POk v e
 | 0,e,_,_,h=>absurd e.pos (by omega)
 | n+1,e,v,he,h=>by
  unfold QdV Qjh
  refine TotP.bind (Qtc e.Kind) fun x hx=>?_
  refine TotP.bif (fun _=>TotP.ok fun h=>by cases h) fun h1=>TotP.bif (fun _=>TotP.ok fun h=>by cases h) fun h2=>?_
  refine TotP.bind (P:=fun _=>True) ?_ fun y _=>?_
  ·unfold QkS
   exact TotP.bif (fun _=>TotP.bind (QsC e.Num) fun x _=>TotP.okT) fun _=>TotP.okT
  ·unfold Qgo
   refine TotP.bif (fun _=>TotP.ok fun h=>by cases h) fun _=>?_
   refine TotP.bind (QlH (QdV n) e.Kids v (Qef he).1 fun k hk=>Qm7 n k v ((Qef he).2 k hk) (by have:=QpN hk;omega)) fun x hx2=>TotP.ok fun hx3=>?_
   simp only [bne_eq_false_iff_eq]at h1
   have h3:=hx (by omega)
   simp only [Bool.and_eq_false_iff,Bool.or_eq_false_iff,decide_eq_false_iff_not,beq_eq_false_iff_ne]at h2
   exact .mk e h3.1 (fun hk=>by omega) (fun hk=>by have:=h3.2.1 hk;omega) (fun hk=>by have:=h3.2.2.1 hk;omega) (fun hk=>by have:=h3.2.2.2 hk;omega) (hx2 (by simpa using hx3))
theorem QsD (e1:Qg)(vars2:Int)(h_e1:Qc6 e1):TotP (QmL e1 vars2) fun r=>r=true→POk vars2 e1:=Qm7 _ e1 vars2 h_e1 (Nat.le_refl _)
theorem Qm8 : ∀(n:Nat) (e:Qg),Qc6 e→SizeOf.sizeOf e≤n→TotP (QdU n e) fun _=>True
 | 0,e,_,h=>absurd e.pos (by omega)
 | n+1,e,he,h=>by
  unfold QdU Qje
  refine TotP.bind (TotP.up e.Kids.length (fun st=>st.2) (fun _=>True) (Q:=fun _=>True) rfl trivial (fun i st hi hn _=>?_)) (fun q _=>?_)
  ·obtain⟨a,x⟩:=st
   replace hi:x=(i:Int):=hi
   show TotP (Qei e (QdU n) a x) _
   unfold Qei
   refine TotP.bif (fun hc=>?_) (fun hc=>?_)
   ·simp only [decide_eq_true_eq]at hc
    refine TotP.bind (TotP.idx (by omega) (by omega)) fun k hk=>?_
    have:=QpN hk
    refine TotP.bind (Qm8 n k ((Qef he).2 k hk) (by omega)) fun d _=>?_
    exact TotP.ok (Qx ⟨by omega,by subst hi;exact Qu (by omega) (Qef he).1,trivial⟩)
   ·exact TotP.ok (Ql trivial)
  ·unfold QiB
   exact TotP.okT
theorem QsE (e1:Qg)(h_e1:Qc6 e1):TotP (QmJ e1) fun _=>True:=Qm8 _ e1 h_e1 (Nat.le_refl _)
theorem Qnz : ∀(n:Nat) (e:Qg),Qc6 e→SizeOf.sizeOf e≤n→TotP (Qey n e) fun _=>True
 | 0,e,_,h=>absurd e.pos (by omega)
 | n+1,e,he,h=>by
  unfold Qey Qj3
  refine TotP.bind (TotP.up e.Kids.length (fun st=>st.2) (fun _=>True) (Q:=fun _=>True) rfl trivial (fun i st hi hn _=>?_)) (fun q _=>?_)
  ·obtain⟨a,x⟩:=st
   replace hi:x=(i:Int):=hi
   show TotP (Qe8 e (Qey n) a x) _
   unfold Qe8
   refine TotP.bif (fun hc=>?_) (fun hc=>?_)
   ·simp only [decide_eq_true_eq]at hc
    refine TotP.bind (TotP.idx (by omega) (by omega)) fun k hk=>?_
    have:=QpN hk
    refine TotP.bind (Qnz n k ((Qef he).2 k hk) (by omega)) fun d _=>?_
    exact TotP.ok (Qx ⟨by omega,by subst hi;exact Qu (by omega) (Qef he).1,trivial⟩)
   ·exact TotP.ok (Ql trivial)
  ·unfold Qjf
   exact TotP.okT
theorem Qtd (e1:Qg)(h_e1:Qc6 e1):TotP (QnF e1) fun _=>True:=Qnz _ e1 h_e1 (Nat.le_refl _)
theorem QlI (e1:Qg)(vars2:Int)(h_e1:Qc6 e1):TotP (Qfu e1 vars2) fun r=>r=true→POk vars2 e1:=by
 unfold Qfu
 refine TotP.bind (P:=fun r=>r=true→POk vars2 e1) ?_ (fun x hx=>TotP.ok hx)
 unfold QkT
 refine TotP.bind (QsE e1 h_e1) (fun x _=>?_)
 refine TotP.bif (fun _=>?_) (fun _=>TotP.ok fun h=>by cases h)
 refine TotP.bind (Qtd e1 h_e1) (fun x _=>?_)
 refine TotP.bif (fun _=>?_) (fun _=>TotP.ok fun h=>by cases h)
 exact TotP.bind (QsD e1 vars2 h_e1) (fun x hx=>TotP.ok hx)
theorem Qrl (v1:Qr)(v2:Int)(h_v1:Qaw v1):TotP (Qhq v1 v2) fun r=>True:=by
 unfold Qhq
 refine TotP.bind (P:=fun _=>True) ?_ (fun x_1 hv2=>?_)
 ·unfold QjG
  refine TotP.bind (QlI v1.Guard v2 (h_v1.2.2.1)) (fun x_3 hv4=>?_)
  refine TotP.bif (fun hc5=>?_) (fun hc5=>?_)
  ·refine TotP.bif (fun hc6=>?_) (fun hc6=>?_)
   ·exact TotP.okT
   ·exact TotP.okT
  ·exact TotP.okT
 unfold QeP
 exact TotP.okT
theorem QpU (v1:TNet)(v2:TArc)(h_v1:QJ v1)(h_v2:Qi5 v2):TotP (QfP v1 v2) fun r=>True:=by
 unfold QfP
 refine TotP.bind (QbV v1.Places v2.Place (h_v1.2.1)) (fun x_1 hv2=>?_)
 exact TotP.okT
theorem QpV (v1:TArc)(v2:Int)(h_v1:Qi5 v1):TotP (QfQ v1 v2) fun r=>True:=by
 unfold QfQ
 refine TotP.bind (QlI v1.Expr v2 (h_v1.2)) (fun x_1 hv2=>?_)
 exact TotP.okT
theorem QpW (v1:TNet)(v2:TArc)(v3:Int)(v4:Int)(v5:Int)(h_v1:QJ v1)(h_v2:Qi5 v2):TotP (QfR v1 v2 v3 v4 v5) fun r=>True:=by
 unfold QfR
 refine TotP.bind (QpU v1 v2 (h_v1) (h_v2)) (fun x_1 hv2=>?_)
 refine TotP.bif (fun hc3=>?_) (fun hc3=>?_)
 ·exact TotP.okT
 ·refine TotP.bind (QpV v2 v4 (h_v2)) (fun x_4 hv5=>?_)
  refine TotP.bif (fun hc6=>?_) (fun hc6=>?_)
  ·exact TotP.okT
  ·exact TotP.okT
theorem Qrm (p1:Int)(a2:TArc)(v3:TNet)(v4:Int)(h_a2:Qi5 a2)(h_v3:QJ v3):TotP (Qhr p1 a2 v3 v4) fun r=>True:=by
 unfold Qhr
 refine TotP.bind (QpW v3 a2 3 v4 1 (h_v3) (h_a2)) (fun x_1 hv2=>?_)
 exact TotP.okT
theorem QnQ (l1:(List TArc))(v2:TNet)(v3:Int)(h_l1:(lenL Qi5) l1)(h_v2:QJ v2):TotP (Qdn l1 v2 v3) fun r=>True:=by
 unfold Qdn
 refine TotP.bind (TotP.up (l1.length) (fun st=>st) (fun _=>True) (Q:=fun q=>True) rfl trivial (fun i2 st hi3 hn4 hj5=>?_)) (fun q6 hq7=>?_)
 ·obtain⟨x_1,hst⟩:∃y,y=st:=⟨_,rfl⟩
  subst hst
  replace hi3:x_1=(i2:Int):=hi3
  show TotP (Qbx l1 v2 v3 x_1) _
  unfold Qbx
  refine TotP.bif (fun hc8=>?_) (fun hc8=>?_)
  ·refine TotP.bind (TotP.idx (by omega) (by simp_all)) (fun e_9 hv10=>?_)
   refine TotP.bind (Qrm x_1 e_9 v2 v3 (((h_l1).2 e_9 hv10)) (h_v2)) (fun x_11 hv12=>?_)
   refine TotP.bif (fun hc13=>?_) (fun hc13=>?_)
   ·exact TotP.ok (Ql trivial)
   ·exact TotP.ok (Qx ⟨(by simp_all),by subst hi3;exact Qu (by simp_all) (h_l1).1,trivial⟩)
  ·exact TotP.ok (Ql trivial)
 rcases q6 with q6 | q6
 ·show TotP (Qck q6.1 q6.2) _
  unfold Qck
  exact TotP.okT
 ·show TotP (Qcl) _
  unfold Qcl
  exact TotP.okT
theorem Qn6 (n1:TNet)(l2:(List TArc))(vars3:Int)(h_n1:QJ n1)(h_l2:(lenL Qi5) l2):TotP (Qhs n1 l2 vars3) fun r=>True:=by
 unfold Qhs
 refine TotP.bind (QnQ l2 n1 vars3 (h_l2) (h_n1)) (fun x_1 hv2=>?_)
 exact TotP.okT
theorem Qrn (v1:TNet)(v2:Qr)(v3:Int)(h_v1:QJ v1)(h_v2:Qaw v2):TotP (Qht v1 v2 v3) fun r=>True:=by
 unfold Qht
 refine TotP.bind (Qn6 v1 v2.Ins v3 (h_v1) (h_v2.2.2.2.2.2.1)) (fun x_1 hv2=>?_)
 exact TotP.okT
theorem QoK (v1:TNet)(v2:Qr)(v3:Int)(v4:Int)(h_v1:QJ v1)(h_v2:Qaw v2):TotP (Qec v1 v2 v3 v4) fun r=>True:=by
 unfold Qec
 refine TotP.bind (Qrn v1 v2 v3 (h_v1) (h_v2)) (fun x_1 hv2=>?_)
 exact TotP.okT
theorem Qro (v1:TNet)(v2:Qr)(v3:Int)(h_v1:QJ v1)(h_v2:Qaw v2):TotP (Qhu v1 v2 v3) fun r=>True:=by
 unfold Qhu
 refine TotP.bind (Qn6 v1 v2.Outs v3 (h_v1) (h_v2.2.2.2.2.2.2.1)) (fun x_1 hv2=>?_)
 exact TotP.okT
theorem QoL (v1:TNet)(v2:Qr)(v3:Int)(v4:Int)(h_v1:QJ v1)(h_v2:Qaw v2):TotP (Qed v1 v2 v3 v4) fun r=>True:=by
 unfold Qed
 refine TotP.bind (Qro v1 v2 v3 (h_v1) (h_v2)) (fun x_1 hv2=>?_)
 exact TotP.okT
theorem Qn7 (v1:TNet)(v2:Int)(h_v1:QJ v1):TotP (QdL v1 v2) fun r=>True:=by
 unfold QdL
 refine TotP.bind (QbV v1.Places v2 (h_v1.2.1)) (fun x_1 hv2=>?_)
 exact TotP.okT
theorem Qm9 (s1:(List Int))(v2:Int)(h_s1:(lenL (fun _=>True)) s1):TotP (Qcy s1 v2) fun r=>True:=by
 unfold Qcy
 refine TotP.bind (TotP.up (s1.length) (fun st=>st) (fun _=>True) (Q:=fun q=>True) rfl trivial (fun i2 st hi3 hn4 hj5=>?_)) (fun q6 hq7=>?_)
 ·obtain⟨x_1,hst⟩:∃y,y=st:=⟨_,rfl⟩
  subst hst
  replace hi3:x_1=(i2:Int):=hi3
  show TotP (Qa6 s1 v2 x_1) _
  unfold Qa6
  refine TotP.bif (fun hc8=>?_) (fun hc8=>?_)
  ·refine TotP.bind (TotP.idx (by omega) (by simp_all)) (fun e_9 hv10=>?_)
   refine TotP.bif (fun hc11=>?_) (fun hc11=>?_)
   ·exact TotP.ok (Ql trivial)
   ·exact TotP.ok (Qx ⟨(by simp_all),by subst hi3;exact Qu (by simp_all) (h_s1).1,trivial⟩)
  ·exact TotP.ok (Ql trivial)
 rcases q6 with q6 | q6
 ·show TotP (QbR q6) _
  unfold QbR
  exact TotP.okT
 ·show TotP (QbS) _
  unfold QbS
  exact TotP.okT
theorem QhH (s1:(List Int))(v2:Int)(h_s1:(lenL (fun _=>True)) s1):TotP (QaJ s1 v2) fun r=>True:=by
 unfold QaJ
 refine TotP.bind (Qm9 s1 v2 (h_s1)) (fun x_1 hv2=>?_)
 exact TotP.okT
theorem Qn8 (v1:(List Int))(v2:Int)(v3:Int)(h_v1:(lenL (fun _=>True)) v1)(hp0:0≤v2)(hp1:v2<v1.length):TotP (QdM v1 v2 v3) fun r=>True:=by
 unfold QdM
 refine TotP.bind (TotP.chk (by simp_all;omega)) (fun _ _=>?_)
 refine TotP.bind (QhH ((v1.drop 0).take (v2.toNat-0)) v3 (((h_v1).drop _).take _)) (fun x_1 hv2=>?_)
 exact TotP.okT
theorem QpX (v1:TNet)(v2:Int)(v3:Int)(v4:(List Int))(v5:Int)(v6:Int)(h_v1:QJ v1)(h_v4:(lenL (fun _=>True)) v4)(hp0:0≤v5)(hp1:v5<v4.length):TotP (QfS v1 v2 v3 v4 v5 v6) fun r=>True:=by
 unfold QfS
 refine TotP.bind (Qn7 v1 v2 (h_v1)) (fun x_1 hv2=>?_)
 refine TotP.bif (fun hc3=>?_) (fun hc3=>?_)
 ·exact TotP.okT
 ·refine TotP.bind (Qn8 v4 v5 v2 (h_v4) (by omega) (by omega)) (fun x_4 hv5=>?_)
  refine TotP.bif (fun hc6=>?_) (fun hc6=>?_)
  ·exact TotP.okT
  ·exact TotP.okT
theorem Qpb (k1:Int)(place2:Int)(v3:TNet)(v4:(List Int))(h_v3:QJ v3)(h_v4:(lenL (fun _=>True)) v4)(hp0:0≤k1)(hp1:k1<v4.length):TotP (QeQ k1 place2 v3 v4) fun r=>True:=by
 unfold QeQ
 refine TotP.bind (QpX v3 place2 3 v4 k1 5 (h_v3) (h_v4) (by omega) (by omega)) (fun x_1 hv2=>?_)
 exact TotP.okT
theorem QpY (l1:(List Int))(v2:TNet)(v3:(List Int))(h_l1:(lenL (fun _=>True)) l1)(h_v2:QJ v2)(h_v3:(lenL (fun _=>True)) v3)(hp0:l1.length≤v3.length):TotP (QfT l1 v2 v3) fun r=>True:=by
 unfold QfT
 refine TotP.bind (TotP.up (l1.length) (fun st=>st) (fun _=>True) (Q:=fun q=>True) rfl trivial (fun i2 st hi3 hn4 hj5=>?_)) (fun q6 hq7=>?_)
 ·obtain⟨x_1,hst⟩:∃y,y=st:=⟨_,rfl⟩
  subst hst
  replace hi3:x_1=(i2:Int):=hi3
  show TotP (Qcw l1 v2 v3 x_1) _
  unfold Qcw
  refine TotP.bif (fun hc8=>?_) (fun hc8=>?_)
  ·refine TotP.bind (TotP.idx (by omega) (by simp_all)) (fun e_9 hv10=>?_)
   refine TotP.bind (Qpb x_1 e_9 v2 v3 (h_v2) (h_v3) (by omega) (by simp_all;omega)) (fun x_11 hv12=>?_)
   refine TotP.bif (fun hc13=>?_) (fun hc13=>?_)
   ·exact TotP.ok (Ql trivial)
   ·exact TotP.ok (Qx ⟨(by simp_all),by subst hi3;exact Qu (by simp_all) (h_l1).1,trivial⟩)
  ·exact TotP.ok (Ql trivial)
 rcases q6 with q6 | q6
 ·show TotP (QdN q6.1 q6.2) _
  unfold QdN
  exact TotP.okT
 ·show TotP (QdO) _
  unfold QdO
  exact TotP.okT
theorem QqC (n1:TNet)(l2:(List Int))(h_n1:QJ n1)(h_l2:(lenL (fun _=>True)) l2):TotP (QgD n1 l2) fun r=>True:=by
 unfold QgD
 refine TotP.bind (QpY l2 n1 l2 (h_l2) (h_n1) (h_l2) (by omega)) (fun x_1 hv2=>?_)
 exact TotP.okT
theorem QqD (v1:TNet)(v2:Qr)(h_v1:QJ v1)(h_v2:Qaw v2):TotP (QgE v1 v2) fun r=>True:=by
 unfold QgE
 refine TotP.bind (QqC v1 v2.Cancel (h_v1) (h_v2.2.2.2.2.2.2.2.1)) (fun x_1 hv2=>?_)
 exact TotP.okT
theorem QoM (v1:TNet)(v2:Qr)(v3:Int)(h_v1:QJ v1)(h_v2:Qaw v2):TotP (Qee v1 v2 v3) fun r=>True:=by
 unfold Qee
 refine TotP.bind (QqD v1 v2 (h_v1) (h_v2)) (fun x_1 hv2=>?_)
 exact TotP.okT
theorem Qml (k1:Int)(l2:(List TArc))(h_l2:(lenL Qi5) l2):TotP (Qer k1 l2) fun r=>True:=by
 unfold Qer
 exact TotP.okT
theorem Qsb (t1:Qr)(h_t1:Qaw t1):TotP (Qid t1) fun r=>True:=by
 unfold Qid
 refine TotP.bind (P:=fun _=>True) ?_ (fun x_1 hv2=>?_)
 ·unfold QkB
  refine TotP.bind (Qml t1.Join t1.Ins (h_t1.2.2.2.2.2.1)) (fun x_3 hv4=>?_)
  refine TotP.bif (fun hc5=>?_) (fun hc5=>?_)
  ·refine TotP.bind (Qml t1.Split t1.Outs (h_t1.2.2.2.2.2.2.1)) (fun x_6 hv7=>?_)
   refine TotP.bif (fun hc8=>?_) (fun hc8=>?_)
   ·refine TotP.bif (fun hc9=>?_) (fun hc9=>?_)
    ·refine TotP.bif (fun hc10=>?_) (fun hc10=>?_)
     ·exact TotP.okT
     ·exact TotP.okT
    ·exact TotP.okT
   ·exact TotP.okT
  ·exact TotP.okT
 unfold QfU
 exact TotP.okT
theorem QqE (v1:Qr)(h_v1:Qaw v1):TotP (QgF v1) fun r=>True:=by
 unfold QgF
 refine TotP.bind (Qsb v1 (h_v1)) (fun x_1 hv2=>?_)
 exact TotP.okT
theorem QpZ (v1:Qr)(v2:Int)(v3:TNet)(v4:Int)(v5:Int)(v6:Int)(v7:Int)(v8:Int)(v9:Int)(v10:Int)(v11:Int)(v12:Int)(v13:Int)(v14:Int)(v15:Int)(h_v1:Qaw v1)(h_v3:QJ v3)(hp0:0≤v4)(hp1:v4<v3.Tasks.length):TotP (QcT v1 v2 v3 v4 v5 v6 v7 v8 v9 v10 v11 v12 v13 v14 v15) fun r=>True:=by
 unfold QcT
 refine TotP.bind (Qrf v1 (h_v1)) (fun x_1 hv2=>?_)
 refine TotP.bif (fun hc3=>?_) (fun hc3=>?_)
 ·exact TotP.okT
 ·refine TotP.bind (Qrh v3 v4 v1 (h_v3) (h_v1) (by omega) (by omega)) (fun x_4 hv5=>?_)
  refine TotP.bif (fun hc6=>?_) (fun hc6=>?_)
  ·exact TotP.okT
  ·refine TotP.bind (Qri v6 v1 (h_v1)) (fun x_7 hv8=>?_)
   refine TotP.bif (fun hc9=>?_) (fun hc9=>?_)
   ·exact TotP.okT
   ·refine TotP.bind (QqB v3 v1 v8 (h_v3) (h_v1)) (fun x_10 hv11=>?_)
    refine TotP.bif (fun hc12=>?_) (fun hc12=>?_)
    ·exact TotP.okT
    ·refine TotP.bind (Qrk v3 v4 (h_v3)) (fun x_13 hv14=>?_)
     refine TotP.bif (fun hc15=>?_) (fun hc15=>?_)
     ·exact TotP.okT
     ·refine TotP.bind (Qrl v1 v6 (h_v1)) (fun x_16 hv17=>?_)
      refine TotP.bif (fun hc18=>?_) (fun hc18=>?_)
      ·exact TotP.okT
      ·refine TotP.bind (QoK v3 v1 v6 x_10.2 (h_v3) (h_v1)) (fun x_19 hv20=>?_)
       refine TotP.bif (fun hc21=>?_) (fun hc21=>?_)
       ·exact TotP.okT
       ·refine TotP.bind (QoL v3 v1 v6 x_19.2 (h_v3) (h_v1)) (fun x_22 hv23=>?_)
        refine TotP.bif (fun hc24=>?_) (fun hc24=>?_)
        ·exact TotP.okT
        ·refine TotP.bind (QoM v3 v1 x_22.2 (h_v3) (h_v1)) (fun x_25 hv26=>?_)
         refine TotP.bif (fun hc27=>?_) (fun hc27=>?_)
         ·exact TotP.okT
         ·refine TotP.bind (QqE v1 (h_v1)) (fun x_28 hv29=>?_)
          refine TotP.bif (fun hc30=>?_) (fun hc30=>?_)
          ·exact TotP.okT
          ·exact TotP.okT
theorem Qn9 (n1:TNet)(k2:Int)(h_n1:QJ n1):TotP (Qbp n1 k2) fun r=>True:=by
 unfold Qbp
 refine TotP.bind (Qi6 n1.Tasks k2 (h_n1.2.2.1)) (fun x_1 hv2=>?_)
 refine TotP.bif (fun hc3=>?_) (fun hc3=>?_)
 ·exact TotP.okT
 ·refine TotP.bind (Qmk n1 (h_n1)) (fun x_4 hv5=>?_)
  refine TotP.bif (fun hc6=>?_) (fun hc6=>?_)
  ·exact TotP.okT
  ·refine TotP.bind (TotP.idx (by simp_all) (by simp_all)) (fun e_7 hv8=>?_)
   refine TotP.bind (TotP.idx (by simp_all) (by simp_all)) (fun e_9 hv10=>?_)
   refine TotP.bind (Qsa 0 n1 e_7 (h_n1) (((h_n1.2.2.1).2 e_7 hv8))) (fun x_11 hv12=>?_)
   refine TotP.bind (QpQ 0 n1 e_7 (e_9.Vars.length:Int) (h_n1) (((h_n1.2.2.1).2 e_7 hv8))) (fun x_13 hv14=>?_)
   refine TotP.bind (QpR 0 n1 e_7 (e_9.Vars.length:Int) (h_n1) (((h_n1.2.2.1).2 e_7 hv8))) (fun x_15 hv16=>?_)
   refine TotP.bind (QpS 0 n1 e_7 (h_n1) (((h_n1.2.2.1).2 e_7 hv8))) (fun x_17 hv18=>?_)
   refine TotP.bind (QpZ e_7 1 n1 k2 5 (e_9.Vars.length:Int) 2 0 (-1) 2 1 (-1) (-1) (-1) 11 (((h_n1.2.2.1).2 e_7 hv8)) (h_n1) (by simp_all) (by simp_all)) (fun x_19 hv20=>?_)
   refine TotP.bif (fun hc21=>?_) (fun hc21=>?_)
   ·exact TotP.okT
   ·exact TotP.okT
theorem Qsc (k1:Int)(p2:Qr)(v3:TNet)(h_p2:Qaw p2)(h_v3:QJ v3):TotP (Qgk k1 p2 v3) fun r=>True:=by
 unfold Qgk
 refine TotP.bind (Qn9 v3 k1 (h_v3)) (fun x_1 hv2=>?_)
 exact TotP.okT
theorem Qnn (l1:(List Qr))(v2:TNet)(h_l1:(lenL Qaw) l1)(h_v2:QJ v2):TotP (Qbq l1 v2) fun r=>True:=by
 unfold Qbq
 refine TotP.bind (TotP.up (l1.length) (fun st=>st) (fun _=>True) (Q:=fun q=>True) rfl trivial (fun i2 st hi3 hn4 hj5=>?_)) (fun q6 hq7=>?_)
 ·obtain⟨x_1,hst⟩:∃y,y=st:=⟨_,rfl⟩
  subst hst
  replace hi3:x_1=(i2:Int):=hi3
  show TotP (Qay l1 v2 x_1) _
  unfold Qay
  refine TotP.bif (fun hc8=>?_) (fun hc8=>?_)
  ·refine TotP.bind (TotP.idx (by omega) (by simp_all)) (fun e_9 hv10=>?_)
   refine TotP.bind (Qsc x_1 e_9 v2 (((h_l1).2 e_9 hv10)) (h_v2)) (fun x_11 hv12=>?_)
   refine TotP.bif (fun hc13=>?_) (fun hc13=>?_)
   ·exact TotP.ok (Ql trivial)
   ·exact TotP.ok (Qx ⟨(by simp_all),by subst hi3;exact Qu (by simp_all) (h_l1).1,trivial⟩)
  ·exact TotP.ok (Ql trivial)
 rcases q6 with q6 | q6
 ·show TotP (Qb7 q6.1 q6.2) _
  unfold Qb7
  exact TotP.okT
 ·show TotP (Qb8) _
  unfold Qb8
  exact TotP.okT
theorem Qte (n1:TNet)(h_n1:QJ n1):TotP (Qdd n1) fun r=>True:=by
 unfold Qdd
 refine TotP.bind (Qr3 n1 2 3 1 (h_n1)) (fun x_1 hv2=>?_)
 refine TotP.bif (fun hc3=>?_) (fun hc3=>?_)
 ·exact TotP.okT
 ·refine TotP.bind (Qmk n1 (h_n1)) (fun x_4 hv5=>?_)
  refine TotP.bif (fun hc6=>?_) (fun hc6=>?_)
  ·exact TotP.okT
  ·refine TotP.bind (Qm6 n1.Places n1 (h_n1.2.1) (h_n1)) (fun x_7 hv8=>?_)
   refine TotP.bif (fun hc9=>?_) (fun hc9=>?_)
   ·exact TotP.okT
   ·refine TotP.bind (Qnn n1.Tasks n1 (h_n1.2.2.1) (h_n1)) (fun x_10 hv11=>?_)
    refine TotP.bif (fun hc12=>?_) (fun hc12=>?_)
    ·exact TotP.okT
    ·exact TotP.okT
theorem QtR (a1:Int)(b2:Int)  : TotP (QkV a1 b2) fun r=>True:=by
 unfold QkV
 refine TotP.bif (fun hc1=>?_) (fun hc1=>?_)
 ·exact TotP.okT
 ·exact TotP.okT
theorem Qpc (a1:Int)(b2:Int)  : TotP (QeG a1 b2) fun r=>True:=by
 unfold QeG
 refine TotP.bif (fun hc1=>?_) (fun hc1=>?_)
 ·exact TotP.okT
 ·exact TotP.okT
theorem QoS (a1:Int)  : TotP (Qil a1) fun r=>True:=by
 unfold Qil
 refine TotP.bif (fun hc1=>?_) (fun hc1=>?_)
 ·exact TotP.okT
 ·exact TotP.okT
theorem Qpd (p1:Int)(y2:Int)  : TotP (QeH p1 y2) fun r=>True:=by
 unfold QeH
 exact TotP.okT
theorem Qrp (a1:Int)(b2:Int)  : TotP (Qhf a1 b2) fun r=>True:=by
 unfold Qhf
 refine TotP.bind (QoS a1 ) (fun x_1 hv2=>?_)
 refine TotP.bind (QoS b2 ) (fun x_3 hv4=>?_)
 refine TotP.bind (Qpd x_1 x_3 ) (fun x_5 hv6=>?_)
 refine TotP.bif (fun hc7=>?_) (fun hc7=>?_)
 ·unfold Qdw
  refine TotP.bif (fun hc8=>?_) (fun hc8=>?_)
  ·exact TotP.okT
  ·exact TotP.okT
 ·unfold Qdw
  refine TotP.bif (fun hc9=>?_) (fun hc9=>?_)
  ·exact TotP.okT
  ·exact TotP.okT
theorem Qmm (a1:Int)(b2:Int)  : TotP (Qej a1 b2) fun r=>True:=by
 unfold Qej
 refine TotP.bif (fun hc1=>?_) (fun hc1=>?_)
 ·exact TotP.okT
 ·refine TotP.bif (fun hc2=>?_) (fun hc2=>?_)
  ·exact TotP.okT
  ·refine TotP.bind (TotP.chk (by simp_all)) (fun _ _=>?_)
   refine TotP.bind (TotP.chk (by simp_all)) (fun _ _=>?_)
   exact TotP.okT
theorem Qeg (is1:Bool)  : TotP (QcF is1) fun r=>True:=by
 unfold QcF
 refine TotP.bif (fun hc1=>?_) (fun hc1=>?_)
 ·exact TotP.okT
 ·exact TotP.okT
theorem QjZ (op1:Int)(a2:Int)(b3:Int)  : TotP (QhF op1 a2 b3) fun r=>True:=by
 unfold QhF
 refine TotP.bif (fun hc1=>?_) (fun hc1=>?_)
 ·refine TotP.bind (QtR a2 b3 ) (fun x_2 hv3=>?_)
  exact TotP.okT
 ·refine TotP.bif (fun hc4=>?_) (fun hc4=>?_)
  ·refine TotP.bind (Qpc a2 b3 ) (fun x_5 hv6=>?_)
   exact TotP.okT
  ·refine TotP.bif (fun hc7=>?_) (fun hc7=>?_)
   ·refine TotP.bind (Qrp a2 b3 ) (fun x_8 hv9=>?_)
    exact TotP.okT
   ·refine TotP.bif (fun hc10=>?_) (fun hc10=>?_)
    ·refine TotP.bind (Qmm a2 b3 ) (fun x_11 hv12=>?_)
     exact TotP.okT
    ·refine TotP.bif (fun hc13=>?_) (fun hc13=>?_)
     ·refine TotP.bind (Qmm a2 b3 ) (fun x_14 hv15=>?_)
      exact TotP.okT
     ·refine TotP.bif (fun hc16=>?_) (fun hc16=>?_)
      ·refine TotP.bind (Qeg (a2==b3) ) (fun x_17 hv18=>?_)
       exact TotP.okT
      ·refine TotP.bif (fun hc19=>?_) (fun hc19=>?_)
       ·refine TotP.bind (Qeg (a2 != b3) ) (fun x_20 hv21=>?_)
        exact TotP.okT
       ·refine TotP.bif (fun hc22=>?_) (fun hc22=>?_)
        ·refine TotP.bind (Qeg (decide (a2<b3)) ) (fun x_23 hv24=>?_)
         exact TotP.okT
        ·refine TotP.bif (fun hc25=>?_) (fun hc25=>?_)
         ·refine TotP.bind (Qeg (decide (a2≤b3)) ) (fun x_26 hv27=>?_)
          exact TotP.okT
         ·refine TotP.bif (fun hc28=>?_) (fun hc28=>?_)
          ·refine TotP.bind (P:=fun _=>True) ?_ (fun v_29 hv30=>?_)
           ·unfold QmM
            refine TotP.bif (fun hc31=>?_) (fun hc31=>?_)
            ·refine TotP.bind (Qeg (b3 != 0) ) (fun x_32 hv33=>?_)
             exact TotP.okT
            ·refine TotP.bind (Qeg false ) (fun x_34 hv35=>?_)
             exact TotP.okT
           unfold QiT
           exact TotP.okT
          ·refine TotP.bif (fun hc36=>?_) (fun hc36=>?_)
           ·refine TotP.bind (P:=fun _=>True) ?_ (fun v_37 hv38=>?_)
            ·unfold QmN
             refine TotP.bif (fun hc39=>?_) (fun hc39=>?_)
             ·refine TotP.bind (Qeg true ) (fun x_40 hv41=>?_)
              exact TotP.okT
             ·refine TotP.bind (Qeg (b3 != 0) ) (fun x_42 hv43=>?_)
              exact TotP.okT
            unfold QiU
            exact TotP.okT
           ·exact TotP.okT
theorem Qp0 (a1:Int)  : TotP (QkX a1) fun r=>True:=by
 unfold QkX
 refine TotP.bind (QjZ 2 0 a1 ) (fun x_1 hv2=>?_)
 exact TotP.okT
end Go.Proofs
noncomputable section
namespace Go.Proofs
open Go Go.RowKit Go.Vm
theorem Qhy (b:List (Int×Int))(h:b.length≤maxLen):Qb9 b=some (rtF (-1) b):=by
 unfold Qb9
 have h1:=QvW (body:=fun st=>Qbi b st.1 st.2) (l:=b) (ρ:=Unit⊕Unit) (fun i (t:Int)=>(t,(i:Int)))
  (fun i t x=>bif ((decide (x.1≤t))||((decide (x.2<1))||(decide (1048576<x.2))))then .inr (.inl ())else .inl x.1) (fun _=>.inr ())
  (fun i t x hi hx=>by
   show Qbi b t i=_
   unfold Qbi
   rw [decide_eq_true (by omega:(i:Int)<b.length),cond_true,QX,hx,Option.bind_some]
   cases ((decide (x.1≤t))||((decide (x.2<1))||(decide (1048576<x.2))))with
   | true=>rfl
   | false=>simp only [cond_false,Sum.elim_inl];rw [Qu hi h])
  (fun t=>by
   show Qbi b t b.length=_
   unfold Qbi
   rw [decide_eq_false (by omega)];rfl) (-1) (s0:=(-1,0)) rfl
 rw [h1]
 have:∀(l:List (Int×Int)) (k:Nat) (t:Int),QoI (fun i t (x:Int×Int)=>(bif ((decide (x.1≤t))||((decide (x.2<1))||(decide (1048576<x.2))))then .inr (.inl ())else .inl x.1:Int⊕(Unit⊕Unit))) (fun _=>.inr ()) k t l=bif rtF t l then .inr ()else .inl ():=by
  intro l
  induction l with
  | nil=>intro k t;rfl
  | cons x l ih=>
   intro k t
   rw [QoI,rtF]
   cases ((decide (x.1≤t))||((decide (x.2<1))||(decide (1048576<x.2))))with
   | true=>rfl
   | false=>simp only [cond_false,Sum.elim_inl,Bool.not_false,Bool.true_and];exact ih _ _
 rw [this]
 cases rtF (-1) b<;>rfl
theorem QnA (b:List (Int×Int))(h:b.length≤maxLen):QiX b=some (bif rtF (-1) b then .inr b else .inl ()):=by
 unfold QiX
 rw [Qhy b h,Option.bind_some]
 cases hr:rtF (-1) b with
 | false=>rfl
 | true=>
  simp only [Bool.not_true,cond_false,cond_true]
  have ha:=(Qdr.1 hr).1
  obtain⟨r,h1,h2⟩:=Qus (body:=fun st=>Qd3 b st.1 st.2) b.length (fun i s=>s=((i:Int),b.take i)) (fun r=>r=b)
   (fun i s hi hs=>by
    subst hs
    refine .inl ⟨(((i+1:Nat):Int),b.take (i+1)),?_,rfl⟩
    show Qd3 b i (b.take i)=_
    unfold Qd3
    rw [decide_eq_true (by omega:(i:Int)<b.length),cond_true,QX,List.getElem?_eq_getElem hi,Option.bind_some,Qu hi h]
    have e:b.take (i+1)=b.take i++[b[i]]:=by rw [List.take_add_one,List.getElem?_eq_getElem hi];rfl
    rw [e,←QwL (by have:=(ha.sublist (List.take_sublist (i+1) b));rw [e]at this;exact this)])
   (fun s hs=>by
    subst hs
    refine⟨_,?_,rfl⟩
    show Qd3 b b.length (b.take b.length)=_
    unfold Qd3
    rw [decide_eq_false (by omega),List.take_length];rfl) (0,[]) rfl
  rw [h1,h2];rfl
theorem QnR (a b:List (Int×Int))(ha:a.length≤maxLen)(hb:b.length≤maxLen):QhQ a b=some (bif rtF (-1) a then(bif rtF (-1) b then .inr (.inr (.inr (a,b)))else .inr (.inr (.inl a)))else(bif rtF (-1) b then .inr (.inl b)else .inl ())):=by
 unfold QhQ
 rw [QnA a ha]
 cases rtF (-1) a with
 | true=>
  simp only [cond_true,Option.bind_some,Sum.elim_inr]
  unfold Qj5
  rw [QnA b hb]
  cases rtF (-1) b<;>rfl
 | false=>
  simp only [cond_false,Option.bind_some,Sum.elim_inl]
  unfold Qj4
  rw [QnA b hb]
  cases rtF (-1) b<;>rfl
theorem Qkd (m:List (Int×Int))(ha:Asc m)(h':m.length≤4294967296):QcK m=some (posL m):=by
 have h:m.length≤maxLen:=by unfold maxLen;omega
 unfold QcK QbQ QfZ
 simp only [decide_eq_true h',Qvb rfl,Option.bind_some,Qv0 ha]
 obtain⟨r,h1,h2⟩:=Qus (body:=fun st=>QaQ (m.map Prod.fst) m st.1 st.2) m.length (fun i s=>s=((i:Int),posL (m.take i))) (fun r=>r=posL m)
  (fun i s hi hs=>by
   subst hs
   refine .inl ⟨(((i+1:Nat):Int),posL (m.take (i+1))),?_,rfl⟩
   show QaQ (m.map Prod.fst) m i (posL (m.take i))=_
   unfold QaQ
   have e:m.take (i+1)=m.take i++[m[i]]:=by rw [List.take_add_one,List.getElem?_eq_getElem hi];rfl
   have ec:(mget m m[i].1).getD 0=m[i].2:=Qin ha.nd (List.getElem_mem hi)
   rw [decide_eq_true (by simp;omega),cond_true,QX,List.getElem?_map,List.getElem?_eq_getElem hi,Option.map_some,Option.bind_some,ec]
   have hl:(posL (m.take i)).length≤i:=Nat.le_trans (List.length_filter_le _ _) (by simp;omega)
   cases hc:decide (0<m[i].2)with
   | true=>
    simp only [cond_true]
    rw [QrW (by simp;omega),Option.bind_some]
    unfold Qcu
    rw [Qu hi h,e]
    unfold posL
    rw [List.filter_append,List.filter_cons,if_pos hc];rfl
   | false=>
    simp only [cond_false]
    unfold Qcu
    rw [Qu hi h,e]
    unfold posL
    rw [List.filter_append,List.filter_cons,if_neg (by rw [hc];decide),List.filter_nil,List.append_nil])
  (fun s hs=>by
   subst hs
   refine⟨_,?_,rfl⟩
   show QaQ (m.map Prod.fst) m m.length (posL (m.take m.length))=_
   unfold QaQ
   rw [decide_eq_false (by simp),List.take_length];rfl) (0,[]) rfl
 rw [h1,h2];rfl
theorem QtS (m:List (Int×Int)):(posL m).length≤m.length:=List.length_filter_le _ _
theorem Qlm (a b:List (Int×Int))(h:a.length+b.length≤4294967296):(¬(Rt a∧Rt b)∧Qba a b=some ([],1))∨(Rt a∧Rt b∧(∃k,1048576<cntL a k+cntL b k)∧Qba a b=some ([],2))∨
  (Rt a∧Rt b∧∃r,Qba a b=some (r,0)∧Rt r∧(∀k,cntL r k=cntL a k+cntL b k)∧r.length≤a.length+b.length):=by
 unfold Qba
 rw [QnR a b (by unfold maxLen;omega) (by unfold maxLen;omega),Option.bind_some]
 cases ra:rtF (-1) a with
 | false=>exact .inl ⟨fun hh=>(by rw [Qdr.2 hh.1]at ra;cases ra),by cases rtF (-1) b<;>rfl⟩
 | true=>
  cases rb:rtF (-1) b with
  | false=>exact .inl ⟨fun hh=>(by rw [Qdr.2 hh.2]at rb;cases rb),rfl⟩
  | true=>
   have hra:=Qdr.1 ra
   have hrb:=Qdr.1 rb
   simp only [cond_true,Sum.elim_inr]
   unfold Qk1
   have hw:∀p∈b,cntL a p.1+p.2=cntL a p.1+cntL b p.1:=fun p hp=>by rw [Qin hrb.1.nd hp]
   rcases QrY (g:=fun x v=>w64 (x+v)) (stop:=fun x=>decide (1048576<x)) (q:=some ()) (body:=fun st p=>Qfw st p.1 p.2) (fun s p=>by
     show Qfw s p.1 p.2=_
     unfold Qfw
     rw [QkF,if_pos rfl]
     unfold cntL
     simp only [Option.getD_some]
     cases decide (1048576<w64 ((mget s p.1).getD 0+p.2))<;>rfl) hra.1 hrb.1.nd with⟨⟨p,h1,h2⟩,h3⟩|⟨h1,s',h3,h4,h5,h6⟩
   ·refine .inr (.inl ⟨hra,hrb,⟨p.1,?_⟩,?_⟩)
    ·have:=hra.cnt p.1
     have:=hrb.cnt p.1
     have h2:=of_decide_eq_true h2
     rw [Qin hrb.1.nd h1]
     rw [Qin hrb.1.nd h1]at this
     rwa [Qcn (by omega)]at h2
    ·simp only [h3 () rfl];rfl
   ·have hk:∀k,cntL s' k=cntL a k+cntL b k∧cntL s' k≤1048576:=fun k=>by
     have ca:=hra.cnt k
     have cb:=hrb.cnt k
     have e:=h6 k
     unfold Qqa at e
     cases hm:mget b k with
     | none=>
      rw [hm]at e
      simp only at e
      have:cntL b k=0:=by unfold cntL;rw [hm];rfl
      have e2:cntL s' k=cntL a k:=by unfold cntL;rw [e]
      omega
     | some v=>
      rw [hm]at e
      simp only at e
      have e1:cntL b k=v:=by unfold cntL;rw [hm];rfl
      have e2:cntL s' k=w64 (cntL a k+v):=by unfold cntL;rw [e];rfl
      have h7:=h1 (k,v) ((QdC hrb.1.nd).1 hm)
      simp only [decide_eq_false_iff_not]at h7
      rw [Qcn (by omega)]at e2 h7
      omega
    refine .inr (.inr ⟨hra,hrb,posL s',?_,QvZ h4 (fun k hk0=>⟨?_,(hk k).2⟩),fun k=>?_,Nat.le_trans (QtS s') h5⟩)
    ·simp only [h3,Option.bind_some,Sum.elim_inl]
     unfold Qk0
     rw [Qkd s' h4 (by omega)];rfl
    ·have:=(hk k).1
     have ca:=hra.cnt k
     have cb:=hrb.cnt k
     by_cases c:0<cntL a k
     ·exact hra.cnt_pos c
     ·exact hrb.cnt_pos (by omega)
    ·rw [QtP h4,(hk k).1]
     have ca:=hra.cnt k
     have cb:=hrb.cnt k
     split<;>omega
theorem Qna (m m':List (Int×Int)):Qcv m m'=some (!(m.any fun p=>decide (cntL m' p.1<p.2))):=by
 unfold Qcv
 rw [Qvd (bad:=fun p=>decide (cntL m' p.1<p.2)) (q:=()) (fun p=>by
  show QbJ m' p.1 p.2=_
  unfold QbJ cntL
  cases decide ((mget m' p.1).getD 0<p.2)<;>rfl)]
 cases m.any fun p=>decide (cntL m' p.1<p.2)<;>rfl
theorem Qsd {a b:List (Int×Int)}(ha:Rt a)(hb:Rt b):(a.any fun p=>decide (cntL b p.1<p.2))=false↔∀k,cntL a k≤cntL b k:=by
 rw [←Bool.not_eq_true,List.any_eq_true]
 simp only [decide_eq_true_eq,not_exists,not_and]
 constructor
 ·intro h k
  have cb:=hb.cnt k
  cases e:mget a k with
  | none=>
   have:cntL a k=0:=by unfold cntL;rw [e];rfl
   omega
  | some v=>
   have h1:=h _ ((QdC ha.1.nd).1 e)
   have:cntL a k=v:=by unfold cntL;rw [e];rfl
   simp only at h1
   omega
 ·intro h p hp hlt
  have:=h p.1
  rw [Qin ha.1.nd hp]at this
  omega
theorem Qse (a b:List (Int×Int))(ha:a.length≤maxLen)(hb:b.length≤maxLen):∃r,QiY a b=some r∧(r=true↔Rt a∧Rt b∧∀k,cntL a k≤cntL b k):=by
 unfold QiY
 rw [QnR a b ha hb,Option.bind_some]
 cases ra:rtF (-1) a with
 | false=>exact⟨false,by cases rtF (-1) b<;>rfl,by simp;intro hh;rw [Qdr.2 hh]at ra;cases ra⟩
 | true=>
  cases rb:rtF (-1) b with
  | false=>exact⟨false,rfl,by simp;intro _ hh;rw [Qdr.2 hh]at rb;cases rb⟩
  | true=>
   have hra:=Qdr.1 ra
   have hrb:=Qdr.1 rb
   refine⟨!(a.any fun p=>decide (cntL b p.1<p.2)),?_,?_⟩
   ·simp only [cond_true,Sum.elim_inr]
    unfold QiD
    rw [Qna];rfl
   ·rw [Bool.not_eq_true',Qsd hra hrb]
    exact⟨fun h=>⟨hra,hrb,h⟩,fun h=>h.2.2⟩
theorem Qmc (a b:List (Int×Int))(h:a.length+b.length≤4294967296):(¬(Rt a∧Rt b)∧Qbe a b=some ([],1))∨(Rt a∧Rt b∧(∃k,cntL a k<cntL b k)∧Qbe a b=some ([],10))∨
  (Rt a∧Rt b∧(∀k,cntL b k≤cntL a k)∧∃r,Qbe a b=some (r,0)∧Rt r∧(∀k,cntL r k=cntL a k-cntL b k)∧r.length≤a.length+b.length):=by
 unfold Qbe
 rw [QnR a b (by unfold maxLen;omega) (by unfold maxLen;omega),Option.bind_some]
 cases ra:rtF (-1) a with
 | false=>exact .inl ⟨fun hh=>(by rw [Qdr.2 hh.1]at ra;cases ra),by cases rtF (-1) b<;>rfl⟩
 | true=>
  cases rb:rtF (-1) b with
  | false=>exact .inl ⟨fun hh=>(by rw [Qdr.2 hh.2]at rb;cases rb),rfl⟩
  | true=>
   have hra:=Qdr.1 ra
   have hrb:=Qdr.1 rb
   simp only [cond_true,Sum.elim_inr]
   unfold Qj8
   rw [Qna,Option.bind_some]
   cases hw:b.any fun p=>decide (cntL a p.1<p.2)with
   | true=>
    refine .inr (.inl ⟨hra,hrb,?_,rfl⟩)
    obtain⟨p,h1,h2⟩:=List.any_eq_true.1 hw
    exact⟨p.1,by rw [Qin hrb.1.nd h1];exact of_decide_eq_true h2⟩
   | false=>
    have hle:=(Qsd hrb hra).1 hw
    simp only [Bool.not_false,Bool.not_true,cond_false]
    rcases QrY (g:=fun x v=>w64 (x-v)) (stop:=fun _=>false) (q:=none) (body:=fun st p=>Qez st p.1 p.2) (fun s p=>by
      show Qez s p.1 p.2=_
      unfold Qez cntL
      rfl) hra.1 hrb.1.nd with⟨⟨p,h1,h2⟩,h3⟩|⟨h1,s',h3,h4,h5,h6⟩
    ·cases h2
    ·have hk:∀k,cntL s' k=cntL a k-cntL b k:=fun k=>by
      have ca:=hra.cnt k
      have cb:=hrb.cnt k
      have e:=h6 k
      unfold Qqa at e
      cases hm:mget b k with
      | none=>
       rw [hm]at e
       simp only at e
       have:cntL b k=0:=by unfold cntL;rw [hm];rfl
       have e2:cntL s' k=cntL a k:=by unfold cntL;rw [e]
       omega
      | some v=>
       rw [hm]at e
       simp only at e
       have e1:cntL b k=v:=by unfold cntL;rw [hm];rfl
       have e2:cntL s' k=w64 (cntL a k-v):=by unfold cntL;rw [e];rfl
       rw [Qcn (by omega)]at e2
       omega
     refine .inr (.inr ⟨hra,hrb,hle,posL s',?_,QvZ h4 (fun k hk0=>?_),fun k=>?_,Nat.le_trans (QtS s') h5⟩)
     ·simp only [h3,Option.bind_some,Sum.elim_inl]
      unfold Qj7
      rw [Qkd s' h4 (by omega)];rfl
     ·have:=hk k
      have ca:=hra.cnt k
      have cb:=hrb.cnt k
      exact⟨hra.cnt_pos (by omega),by omega⟩
     ·rw [QtP h4,hk k]
      have:=hle k
      split<;>omega
theorem Qvh (t:Int):QmO [t]=some (bif decide (0≤t)then [(t,1)]else []):=by
 unfold QmO
 rw [QdR]
 show((Qdc [t] 0 []).bind _).bind _=_
 unfold Qdc
 rw [decide_eq_true (by simp),cond_true,show idx [t] 0=some t from rfl,Option.bind_some]
 unfold QjP
 rw [show w64 (0+1)=1 from by decide]
 cases h:decide (0≤t)with
 | false=>
  simp only [cond_false,Option.bind_some,Sum.elim_inl]
  rw [QdR]
  show((Qdc [t] 1 []).bind _).bind _=_
  unfold Qdc
  rw [decide_eq_false (by simp)]
  simp only [cond_false,Option.bind_some,Sum.elim_inr]
  unfold QjQ
  rw [Qkd [] List.Pairwise.nil (by simp)];rfl
 | true=>
  simp only [cond_true,Option.bind_some,Sum.elim_inl]
  rw [QdR]
  show((Qdc [t] 1 [(t,min2 (w64 (0+1)) 1048576)]).bind _).bind _=_
  unfold Qdc
  rw [decide_eq_false (by simp)]
  simp only [cond_false,Option.bind_some,Sum.elim_inr]
  unfold QjQ
  rw [Qkd _ (List.pairwise_singleton _ _) (by simp [maxLen]),show min2 (w64 (0+1)) 1048576=1 from by decide];rfl
end Go.Proofs
noncomputable section
namespace Go.Proofs
open Go Go.RowKit Go.Vm
theorem Qux : ∀(n:Nat) (e:Qg) (d:Int),Qc6 e→SizeOf.sizeOf e≤n→TotP (QeA n e d) fun _=>True
 | 0,e,_,_,h=>absurd e.pos (by omega)
 | n+1,e,d,he,h=>by
  unfold QeA Qka
  refine TotP.bif (fun _=>TotP.okT) fun _=>?_
  refine TotP.bind (TotP.up e.Kids.length (fun st=>st.2) (fun _=>True) (Q:=fun _=>True) rfl trivial (fun i st hi hn _=>?_)) (fun q _=>?_)
  ·obtain⟨a,x⟩:=st
   replace hi:x=(i:Int):=hi
   show TotP (Qfd e (QeA n) d a x) _
   unfold Qfd
   refine TotP.bif (fun hc=>?_) (fun hc=>TotP.ok (Ql trivial))
   simp only [decide_eq_true_eq]at hc
   refine TotP.bind (TotP.idx (by omega) (by omega)) fun k hk=>?_
   have:=QpN hk
   refine TotP.bind (Qux n k _ ((Qef he).2 k hk) (by omega)) fun y _=>?_
   refine TotP.bif (fun _=>TotP.ok (Ql trivial)) fun _=>TotP.bif (fun _=>TotP.ok (Ql trivial)) fun _=>?_
   exact TotP.ok (Qx ⟨by omega,by subst hi;exact Qu (by omega) (Qef he).1,trivial⟩)
  ·rcases q with q | q
   ·exact TotP.okT
   ·exact TotP.okT
theorem QsF (e:Qg)(he:Qc6 e):TotP (QgQ e) fun _=>True:=by
 unfold QgQ QnJ
 exact TotP.bind (Qux _ e 60 he (Nat.le_refl _)) fun _ _=>TotP.okT
theorem Qxp (n1:TNet)(h:QJ n1)(q0:Int):TotP (Qgt n1 q0) fun r=>r=true→q0≤400:=by
 unfold Qgt
 refine TotP.bind (TotP.up n1.Tasks.length (fun st=>st.2) (fun _=>True) (Q:=fun _=>True) rfl trivial (fun i st hi hn _=>?_)) (fun q _=>?_)
 ·obtain⟨a,x⟩:=st
  replace hi:x=(i:Int):=hi
  show TotP (Qeo n1 a x) _
  unfold Qeo
  refine TotP.bif (fun hc=>?_) (fun _=>TotP.ok (Ql trivial))
  simp only [decide_eq_true_eq]at hc
  refine TotP.bind (TotP.idx (by omega) (by omega)) fun e he=>?_
  have ke:=h.2.2.1.2 e he
  refine TotP.bif (fun _=>TotP.ok (Ql trivial)) fun _=>?_
  refine TotP.bind (TotP.up e.Vars.length (fun st=>st) (fun _=>True) (Q:=fun _=>True) rfl trivial (fun i2 st hi2 hn2 _=>?_)) (fun q _=>?_)
  ·show TotP (Qel e st) _
   unfold Qel
   refine TotP.bif (fun hc=>?_) (fun _=>TotP.ok (Ql trivial))
   simp only [decide_eq_true_eq]at hc
   refine TotP.bind (TotP.idx (by omega) (by omega)) fun s _=>?_
   exact TotP.bif (fun _=>TotP.ok (Ql trivial)) fun _=>TotP.ok (Qx ⟨by omega,by rw [hi2];exact Qu (by omega) ke.2.1.1,trivial⟩)
  rcases q with q | q
  ·exact TotP.ok (Ql trivial)
  show TotP (Qgs e a x) _
  unfold Qgs
  refine TotP.bind (QsF e.Guard ke.2.2.1) fun g _=>?_
  refine TotP.bind (TotP.up e.Ins.length (fun st=>st.2) (fun _=>True) (Q:=fun _=>True) rfl trivial (fun i2 st hi2 hn2 _=>?_)) (fun q _=>?_)
  ·obtain⟨b,y⟩:=st
   replace hi2:y=(i2:Int):=hi2
   show TotP (Qem e b y) _
   unfold Qem
   refine TotP.bif (fun hc=>?_) (fun _=>TotP.ok (Ql trivial))
   simp only [decide_eq_true_eq]at hc
   refine TotP.bind (TotP.idx (by omega) (by omega)) fun s hs=>?_
   refine TotP.bind (QsF s.Expr (ke.2.2.2.2.2.1.2 s hs).2) fun g _=>?_
   exact TotP.ok (Qx ⟨by omega,by subst hi2;exact Qu (by omega) ke.2.2.2.2.2.1.1,trivial⟩)
  show TotP (Qgr e a x q) _
  unfold Qgr
  refine TotP.bind (TotP.up e.Outs.length (fun st=>st.2) (fun _=>True) (Q:=fun _=>True) rfl trivial (fun i2 st hi2 hn2 _=>?_)) (fun q _=>?_)
  ·obtain⟨b,y⟩:=st
   replace hi2:y=(i2:Int):=hi2
   show TotP (Qen e b y) _
   unfold Qen
   refine TotP.bif (fun hc=>?_) (fun _=>TotP.ok (Ql trivial))
   simp only [decide_eq_true_eq]at hc
   refine TotP.bind (TotP.idx (by omega) (by omega)) fun s hs=>?_
   refine TotP.bind (QsF s.Expr (ke.2.2.2.2.2.2.1.2 s hs).2) fun g _=>?_
   exact TotP.ok (Qx ⟨by omega,by subst hi2;exact Qu (by omega) ke.2.2.2.2.2.2.1.1,trivial⟩)
  show TotP (Qgq a e x q) _
  unfold Qgq
  exact TotP.bif (fun _=>TotP.ok (Ql trivial)) fun _=>TotP.ok (Qx ⟨by omega,by subst hi;exact Qu (by omega) h.2.2.1.1,trivial⟩)
 rcases q with q | q
 ·exact TotP.ok fun h=>by cases h
 ·exact TotP.ok fun h=>by simpa using h
theorem Qxq (n1:TNet)(h:QJ n1):TotP (QjV n1) fun r=>r=true→n1.Colours.length≤40∧n1.Places.length≤70∧n1.Tasks.length≤70:=by
 unfold QjV
 refine TotP.bif (fun _=>TotP.ok fun h=>by cases h) fun hc=>?_
 simp only [Bool.or_eq_false_iff,decide_eq_false_iff_not]at hc
 refine TotP.mono (P:=fun _=>True) ?_ fun _ _ _=>by omega
 refine TotP.bind (TotP.up n1.Colours.length (fun st=>st.2) (fun _=>True) (Q:=fun _=>True) rfl trivial (fun i st hi hn _=>?_)) (fun q _=>?_)
 ·obtain⟨a,x⟩:=st
  replace hi:x=(i:Int):=hi
  show TotP (Qff n1 a x) _
  unfold Qff
  refine TotP.bif (fun hc=>?_) (fun _=>TotP.ok (Ql trivial))
  simp only [decide_eq_true_eq]at hc
  refine TotP.bind (TotP.idx (by omega) (by omega)).self fun e he=>?_
  obtain⟨he,hm⟩:=he
  refine TotP.bind (P:=fun _=>True) ?_ fun y _=>?_
  ·unfold Qly
   rw [he,Option.bind_some]
   exact TotP.bif (fun _=>TotP.okT) fun _=>TotP.okT
  unfold Qhj
  refine TotP.bif (fun _=>TotP.ok (Ql trivial)) fun _=>?_
  refine TotP.bind (TotP.up e.Names.length (fun st=>st) (fun _=>True) (Q:=fun _=>True) rfl trivial (fun i2 st hi2 hn2 _=>?_)) (fun q _=>?_)
  ·show TotP (Qfe n1 x st) _
   unfold Qfe
   simp only [he,Option.bind_some]
   refine TotP.bif (fun hc=>?_) (fun _=>TotP.ok (Ql trivial))
   simp only [decide_eq_true_eq]at hc
   refine TotP.bind (TotP.idx (by omega) (by omega)) fun s _=>?_
   refine TotP.bif (fun _=>TotP.ok (Ql trivial)) fun _=>?_
   exact TotP.ok (Qx ⟨by omega,by rw [hi2];exact Qu (by omega) (h.1.2 e hm).2.2.2.2.1.1,trivial⟩)
  ·rcases q with q | q
   ·exact TotP.ok (Ql trivial)
   ·exact TotP.ok (Qx ⟨by omega,by subst hi;exact Qu (by omega) h.1.1,trivial⟩)
 rcases q with q | q
 ·exact TotP.okT
 show TotP (Qgu n1 q) _
 unfold Qgu
 refine TotP.bind (TotP.up n1.Places.length (fun st=>st.2) (fun _=>True) (Q:=fun _=>True) rfl trivial (fun i st hi hn _=>?_)) (fun q _=>?_)
 ·obtain⟨a,x⟩:=st
  replace hi:x=(i:Int):=hi
  show TotP (Qfg n1 a x) _
  unfold Qfg
  refine TotP.bif (fun hc=>?_) (fun _=>TotP.ok (Ql trivial))
  simp only [decide_eq_true_eq]at hc
  refine TotP.bind (TotP.idx (by omega) (by omega)) fun e _=>?_
  refine TotP.bind (TotP.idx (by omega) (by omega)) fun e2 _=>?_
  exact TotP.bif (fun _=>TotP.ok (Ql trivial)) fun _=>TotP.ok (Qx ⟨by omega,by subst hi;exact Qu (by omega) h.2.1.1,trivial⟩)
 rcases q with q | q
 ·exact TotP.okT
 exact(Qxp n1 h q).mono fun _ _=>trivial
theorem Qxr (m:List (List (Int×Int)))(h:m.length≤maxLen):TotP (QjW m) fun _=>True:=by
 unfold QjW
 refine TotP.bind (TotP.up m.length (fun st=>st.2) (fun _=>True) (Q:=fun _=>True) rfl trivial (fun i st hi hn _=>?_)) (fun q _=>TotP.okT)
 obtain⟨a,x⟩:=st
 replace hi:x=(i:Int):=hi
 show TotP (Qfh m a x) _
 unfold Qfh
 refine TotP.bif (fun hc=>?_) (fun _=>TotP.ok (Ql trivial))
 simp only [Bool.and_eq_true,decide_eq_true_eq]at hc
 refine TotP.bind (TotP.idx (by omega) (by omega)) fun e _=>?_
 exact TotP.ok (Qx ⟨by omega,by subst hi;exact Qu (by omega) h,trivial⟩)
theorem Quy {l:List (Int×Int)}(h:Asc l):∀{a:Int},(∀p∈l,a≤p.1)→∀(i:Nat) (hi:i<l.length),a+i≤(l[i]).1:=by
 induction l with
 | nil=>intro a _ i hi;simp at hi
 | cons p l ih=>
  intro a ha i hi
  obtain⟨h1,h2⟩:=QfW.1 h
  cases i with
  | zero=>have:=ha p List.mem_cons_self;simpa using this
  | succ i=>
   have h3:=ih h2 (a:=a+1) (fun q hq=>by have:=h1 q hq;have:=ha p List.mem_cons_self;omega) i (by simpa using hi)
   simp only [List.getElem_cons_succ]
   omega
theorem QwQ {l:List (Int×Int)}(h:Asc l)(h0:0<l.length){k:Int}(hk:0<cntL l k):k≤(l[l.length-1]).1:=by
 unfold cntL at hk
 cases e:mget l k with
 | none=>rw [e]at hk;simp at hk
 | some v=>
  obtain⟨j,hj,hjk⟩:=List.mem_iff_getElem.1 ((QdC h.nd).1 e)
  by_cases c:j=l.length-1
  ·subst c;rw [hjk];exact Int.le_refl _
  ·have:=List.pairwise_iff_getElem.1 h j (l.length-1) hj (by omega) (by omega)
   rw [hjk]at this
   simp only at this
   omega
def MOk (n:TNet)(c:Nat)(m:List (List (Int×Int))):Prop:=m.length=n.Places.length∧∀b∈m,Rt b∧b.length≤c
theorem MOk.mono {n:TNet}{c c':Nat}{m:List (List (Int×Int))}(h:MOk n c m)(hc:c≤c'):MOk n c' m:=⟨h.1,fun b hb=>⟨(h.2 b hb).1,Nat.le_trans (h.2 b hb).2 hc⟩⟩
def Low (n:TNet)(m:List (List (Int×Int))):Prop:=∀(j:Nat) b p,m[j]? = some b→n.Places[j]? = some p→∀k,0<cntL b k→∃z,QaG n.Colours p.Colour=some z∧k<z
theorem QtT (n1:TNet)(m:List (List (Int×Int)))(h:QJ n1)(hm:lenL (lenL fun _=>True) m):TotP (Qi2 n1 m) fun r=>r=true→MOk n1 1024 m∧Low n1 m:=by
 unfold Qi2
 refine TotP.bif (fun _=>TotP.ok fun h=>by cases h) fun hc=>?_
 have hl:m.length=n1.Places.length:=by simp only [bne_eq_false_iff_eq]at hc;omega
 refine TotP.bind (TotP.up m.length (fun st=>st) (fun st=>∀(j:Nat) (hj:j<m.length),(j:Int)<st→(Rt m[j]∧(m[j]).length≤1024)∧∀p,n1.Places[j]? = some p→∀k,0<cntL m[j] k→∃z,QaG n1.Colours p.Colour=some z∧k<z) (Q:=fun q=>q=.inr ()→(∀b∈m,Rt b∧b.length≤1024)∧Low n1 m) rfl (fun j _ hj=>by omega) (fun i st hi hn hJ=>?_)) (fun q hq=>?_)
 ·show TotP (Qes m n1 st) _
  unfold Qes
  refine TotP.bif (fun hc=>?_) (fun hc=>TotP.ok (Ql fun _=>⟨fun b hb=>by
   obtain⟨j,hj,rfl⟩:=List.mem_iff_getElem.1 hb
   simp only [decide_eq_false_iff_not]at hc
   exact(hJ j hj (by omega)).1,fun j b p hb hp=>by
   obtain⟨hj,rfl⟩:=List.getElem?_eq_some_iff.1 hb
   simp only [decide_eq_false_iff_not]at hc
   exact(hJ j hj (by omega)).2 p hp⟩))
  simp only [decide_eq_true_eq]at hc
  have hlt:i<m.length:=by omega
  have hlp:i<n1.Places.length:=by omega
  rw [hi,QX,List.getElem?_eq_getElem hlt,Option.bind_some,QX,List.getElem?_eq_getElem hlp,Option.bind_some]
  refine TotP.bind (Qct n1.Colours (n1.Places[i]).Colour h.1).self fun sz hsz=>?_
  obtain⟨hze,hsz⟩:=hsz
  have hb:=hm.2 _ (List.getElem_mem hlt)
  have hbl:=hb.1
  refine TotP.bind (P:=fun r=>r=false→(Rt m[i]∧(m[i]).length≤1024)∧∀k,0<cntL m[i] k→k<sz) ?_ fun x hx=>?_
  ·unfold Qlf
   rw [Qhy _ hb.1,Option.bind_some]
   refine TotP.bif (fun _=>TotP.ok fun h=>by cases h) fun hr=>?_
   have hrt:=Qdr.1 (by simpa using hr:rtF (-1) m[i]=true)
   refine TotP.bif (fun h0=>?_) (fun h0=>TotP.ok fun _=>⟨⟨hrt,by simp only [decide_eq_false_iff_not]at h0;omega⟩,fun k hk=>by
    simp only [decide_eq_false_iff_not]at h0
    rw [show m[i]=[]from List.length_eq_zero_iff.1 (by omega)]at hk
    simp [cntL,mget]at hk⟩)
   simp only [decide_eq_true_eq]at h0
   unfold maxLen at hbl
   rw [Qcn (by omega),show((m[i]).length:Int)-1=(((m[i]).length-1:Nat):Int) by omega,QX,List.getElem?_eq_getElem (by omega),Option.bind_some]
   refine TotP.ok fun hf=>?_
   simp only [decide_eq_false_iff_not]at hf
   have:=Quy hrt.1 (a:=0) (fun p hp=>(hrt.2 p hp).1) ((m[i]).length-1) (by omega)
   refine⟨⟨hrt,by omega⟩,fun k hk=>?_⟩
   have:=QwQ hrt.1 (by omega) hk
   omega
  ·unfold QgG
   refine TotP.bif (fun _=>TotP.ok (Ql fun h=>by cases h)) fun hxf=>?_
   refine TotP.ok (Qx ⟨hlt,Qu hlt hm.1,fun j hj hjs=>?_⟩)
   rw [Qu hlt hm.1]at hjs
   by_cases c:j=i
   ·subst c
    refine⟨(hx hxf).1,fun p hp k hk=>⟨sz,?_,(hx hxf).2 k hk⟩⟩
    rw [List.getElem?_eq_getElem hlp]at hp
    cases hp
    exact hze
   ·exact hJ j hj (by omega)
 ·rcases q with q | q
  ·exact TotP.ok fun h=>by cases h
  ·exact TotP.ok fun _=>⟨⟨hl,(hq rfl).1⟩,(hq rfl).2⟩
structure QY (n:TNet):Prop where
 k:QJ n
 pl:n.Places.length≤70
 tl:n.Tasks.length≤12
 tk:∀t∈n.Tasks,t.Vars.length≤16∧t.Ins.length≤16∧t.Outs.length≤16∧t.Cancel.length≤16
theorem Qv4 (n1:TNet)(k2:Int)(h:Qbp n1 k2=some 0):∃t,idx n1.Tasks k2=some t∧t.Vars.length≤16∧t.Ins.length≤16∧t.Outs.length≤16∧t.Cancel.length≤16:=by
 unfold Qbp at h
 obtain⟨x5,_,h⟩:=Qb h
 rcases bifE h with⟨_,h⟩|⟨_,h⟩
 ·cases h
 obtain⟨x7,_,h⟩:=Qb h
 rcases bifE h with⟨c,h⟩|⟨_,h⟩
 ·simp only [Option.some.injEq]at h;rw [h]at c;cases c
 obtain⟨e9,he9,h⟩:=Qb h
 obtain⟨e10,he10,h⟩:=Qb h
 rw [he9]at he10;cases he10
 obtain⟨_,_,h⟩:=Qb h
 obtain⟨_,_,h⟩:=Qb h
 obtain⟨_,_,h⟩:=Qb h
 obtain⟨_,_,h⟩:=Qb h
 obtain⟨x15,hx,h⟩:=Qb h
 have bad:∀a b:Int,0<a→x15=(a,b)→False:=fun a b ha e=>by
  subst e
  simp only at h
  rcases bifE h with⟨c,h⟩|⟨_,h⟩
  ·simp only [beq_iff_eq]at c;omega
  ·simp only [Option.some.injEq]at h;omega
 unfold QcT at hx
 obtain⟨x20,_,hx⟩:=Qb hx
 rcases bifE hx with⟨_,hx⟩|⟨_,hx⟩
 ·exact(bad _ _ (by decide) (Option.some.inj hx).symm).elim
 obtain⟨x22,_,hx⟩:=Qb hx
 rcases bifE hx with⟨_,hx⟩|⟨_,hx⟩
 ·exact(bad _ _ (by decide) (Option.some.inj hx).symm).elim
 obtain⟨x24,h24,hx⟩:=Qb hx
 rcases bifE hx with⟨_,hx⟩|⟨c,hx⟩
 ·exact(bad _ _ (by decide) (Option.some.inj hx).symm).elim
 unfold Qfi at h24
 simp only [Option.some.injEq]at h24
 rw [←h24]at c
 simp only [Bool.not_eq_false',Bool.and_eq_true,decide_eq_true_eq,Qjp]at c
 exact⟨e9,he9,by omega,by omega,by omega,by omega⟩
theorem QqN (l1:List Qr)(n1:TNet)(h:QJ n1)(hl:lenL Qaw l1):TotP (Qbq l1 n1) fun r=>r.2=0→∀(j:Nat),j<l1.length→Qbp n1 j=some 0:=by
 unfold Qbq
 refine TotP.bind (TotP.up l1.length (fun st=>st) (fun st=>∀(j:Nat),(j:Int)<st→Qbp n1 j=some 0) (Q:=fun q=>(∀a b,q=.inl (a,b)→b≠0)∧(q=.inr ()→∀(j:Nat),j<l1.length→Qbp n1 j=some 0)) rfl (fun j hj=>by omega) (fun i st hi hn hJ=>?_)) (fun q hq=>?_)
 ·show TotP (Qay l1 n1 st) _
  unfold Qay
  refine TotP.bif (fun hc=>?_) (fun hc=>TotP.ok (Ql ⟨fun a b h=>(by cases h),fun _ j hj=>by
   simp only [decide_eq_false_iff_not]at hc
   exact hJ j (by omega)⟩))
  simp only [decide_eq_true_eq]at hc
  refine TotP.bind (TotP.idx (by omega) (by omega)) fun e he=>?_
  refine TotP.bind (P:=fun x=>Qbp n1 st=some x) ?_ fun x hx=>?_
  ·unfold Qgk
   exact TotP.bind (Qn9 n1 st h).self fun x hx=>TotP.ok hx.1
  refine TotP.bif (fun hc=>TotP.ok (Ql ⟨fun a b h=>(by cases h;simpa using hc),fun h=>(by cases h)⟩)) fun hc=>?_
  simp only [bne_eq_false_iff_eq]at hc
  refine TotP.ok (Qx ⟨by omega,by rw [hi];exact Qu (by omega) hl.1,fun j hj=>?_⟩)
  rw [hi,Qu (show i<l1.length by omega) hl.1]at hj
  by_cases c:j=i
  ·subst c;rw [←hi,hx,hc]
  ·exact hJ j (by omega)
 ·rcases q with q | q
  ·exact TotP.ok fun h=>absurd h (hq.1 q.1 q.2 rfl)
  ·exact TotP.ok fun _=>hq.2 rfl
theorem Qv5 (n1:TNet)(h:QJ n1){p:QdZ}(hn:Qdd n1=some (0,p)):∀t∈n1.Tasks,t.Vars.length≤16∧t.Ins.length≤16∧t.Outs.length≤16∧t.Cancel.length≤16:=by
 unfold Qdd at hn
 obtain⟨x6,_,hn⟩:=Qb hn
 rcases bifE hn with⟨c,hn⟩|⟨_,hn⟩
 ·simp only [Option.some.injEq,Prod.mk.injEq]at hn;rw [hn.1]at c;cases c
 obtain⟨x8,_,hn⟩:=Qb hn
 rcases bifE hn with⟨c,hn⟩|⟨_,hn⟩
 ·simp only [Option.some.injEq,Prod.mk.injEq]at hn;rw [hn.1]at c;cases c
 obtain⟨x10,_,hn⟩:=Qb hn
 rcases bifE hn with⟨c,hn⟩|⟨_,hn⟩
 ·simp only [Option.some.injEq,Prod.mk.injEq]at hn;rw [hn.1]at c;cases c
 obtain⟨x12,h12,hn⟩:=Qb hn
 rcases bifE hn with⟨c,hn⟩|⟨c,hn⟩
 ·simp only [Option.some.injEq,Prod.mk.injEq]at hn;rw [hn.1]at c;cases c
 simp only [bne_eq_false_iff_eq]at c
 obtain⟨r,hr,hr2⟩:=QqN n1.Tasks n1 h h.2.2.1
 rw [h12]at hr;cases hr
 intro t ht
 obtain⟨j,hj,rfl⟩:=List.mem_iff_getElem.1 ht
 obtain⟨t,h1,h2⟩:=Qv4 n1 j (hr2 c j hj)
 rw [QX,List.getElem?_eq_getElem hj]at h1
 cases h1
 exact h2
theorem QxT (n1:TNet)(m:List (List (Int×Int)))(h:QJ n1)(hm:lenL (lenL fun _=>True) m):TotP (Qdp n1 m) fun r=>r=true→QY n1∧MOk n1 1024 m∧Low n1 m:=by
 unfold Qdp
 refine TotP.bind (Qxq n1 h) fun x5 h5=>?_
 refine TotP.bind (Qxr m hm.1) fun x6 _=>?_
 refine TotP.bif (fun _=>TotP.ok fun h=>by cases h) fun hc=>?_
 simp only [Bool.or_eq_false_iff,Bool.not_eq_false',decide_eq_false_iff_not]at hc
 have h5:=h5 hc.1
 refine TotP.bind (Qte n1 h).self fun x11 h11=>?_
 refine TotP.bind (P:=fun r=>r=false→QY n1∧MOk n1 1024 m∧Low n1 m) ?_ fun x12 h12=>?_
 ·unfold QgH
  refine TotP.bif (fun _=>TotP.ok fun h=>by cases h) fun hc1=>?_
  simp only [bne_eq_false_iff_eq]at hc1
  refine TotP.bind (QtT n1 m h hm) fun r hr=>TotP.ok fun hrf=>⟨⟨h,h5.2.1,by omega,?_⟩,hr (by simpa using hrf)⟩
  obtain⟨a,b⟩:=x11
  simp only at hc1
  subst hc1
  exact Qv5 n1 h h11.1
 unfold Qdo
 refine TotP.bif (fun _=>TotP.ok fun h=>by cases h) fun hx=>?_
 have hfin:=h12 hx
 refine TotP.mono (P:=fun _=>True) ?_ fun _ _ _=>hfin
 refine TotP.bind (TotP.up n1.Tasks.length (fun st=>st.2) (fun _=>True) (Q:=fun _=>True) rfl trivial (fun i st hi hn _=>?_)) (fun q _=>TotP.okT)
 obtain⟨a,x⟩:=st
 replace hi:x=(i:Int):=hi
 show TotP (Qet n1 a x) _
 unfold Qet
 refine TotP.bif (fun hc=>?_) (fun _=>TotP.ok (Ql trivial))
 simp only [decide_eq_true_eq]at hc
 refine TotP.bind (TotP.idx (by omega) (by omega)) fun e _=>?_
 refine TotP.bind (Qny n1 x h) fun y _=>?_
 exact TotP.ok (Qx ⟨by omega,by subst hi;exact Qu (by omega) h.2.2.1.1,trivial⟩)
end Go.Proofs
