/- A part of the proof; what it holds is told at each theorem. -/
import Derived.Test.YtbfgchciebcbpaaGreatDoorH2XPlA
import Derived.Test.YtbfgchciebcbpaaGreatDoorH2V3
import Derived.Test.YtbfgchciebcbpaaGreatDoorH2T3
import Derived.KernelRfl
set_option linter.unusedVariables false
set_option linter.unusedSimpArgs false
set_option linter.unusedSectionVars false
set_option linter.deprecated false
namespace Go.Vm
open Go Go.RowKit
def Qf {α:Type}(o:Option α)(Q:α→Prop):Prop:=∃r,o=some r∧Q r
section
variable {α β σ ρ:Type}
theorem Qf.ok {a:α}{Q:α→Prop}(h:Q a):Qf (some a) Q:=⟨a,rfl,h⟩
theorem Qf.okT {a:α}:Qf (some a) fun _=>True:=⟨a,rfl,trivial⟩
theorem Qf.bind {o:Option α}{f:α→Option β}{P:α→Prop}{Q:β→Prop}(h:Qf o P)(k:∀x,P x→Qf (f x) Q):Qf (o.bind f) Q:=by
 obtain⟨x,rfl,hx⟩:=h
 exact k x hx
theorem Qf.bif {c:Bool}{a b:Option α}{Q:α→Prop}(h1:c=true→Qf a Q)(h2:c=false→Qf b Q):Qf (bif c then a else b) Q:=by
 cases c with
 | true=>exact h1 rfl
 | false=>exact h2 rfl
theorem Qf.chk {c:Bool}(h:c=true):Qf (chk c) fun _=>True:=⟨(),QlG h,trivial⟩
theorem Qf.idx {l:List α}{j:Int}(h0:0≤j)(h1:j<l.length):Qf (idx l j) fun x=>x∈l:=by
 rw [Qsw h0 h1]
 exact⟨_,rfl,QaQ _⟩
theorem Qf.get {l:List α}{j:Nat}(h1:j<l.length):Qf (l[j]?) fun x=>x∈l:=by
 rw [QD h1]
 exact⟨_,rfl,QaQ _⟩
theorem Qf.sidx {s:ByteArray}{j:Int}(h0:0≤j)(h1:j<s.size):Qf (sidx s j) fun _=>True:=by
 unfold Vm.sidx
 rw [if_pos h0]
 have:j.toNat<s.size:=by omega
 rw [getElem?_pos s j.toNat this]
 exact⟨_,rfl,trivial⟩
theorem Qf.mono {o:Option α}{P Q:α→Prop}(h:Qf o P)(k:∀x,P x→Q x):Qf o Q:=let ⟨r,h1,h2⟩:=h;⟨r,h1,k r h2⟩
theorem Qf.tot {o:Option α}{P:α→Prop}(h:Qf o P):∃r,o=some r:=let ⟨r,h1,_⟩:=h;⟨r,h1⟩
theorem Qf.self {o:Option α}{P:α→Prop}(h:Qf o P):Qf o fun x=>o=some x∧P x:=let ⟨r,h1,h2⟩:=h;⟨r,h1,h1,h2⟩
theorem Qf.up {body:σ→Option (σ⊕ρ)}(n:Nat)(ix:σ→Int)(J:σ→Prop){Q:ρ→Prop}{s0:σ}(h0:ix s0=0)(hJ:J s0)
  (step:∀(i:Nat) s,ix s=(i:Int)→i≤n→J s→Qf (body s) fun o=>(∀s',o=.inl s'→i<n∧ix s'=((i+1:Nat):Int)∧J s')∧∀r,o=.inr r→Q r):Qf (QE body s0) Q:=by
 have key:∀k i s,i+k=n→ix s=(i:Int)→J s→∃r,QE body s=some r∧Q r:=by
  intro k
  induction k with
  | zero=>
   intro i s hk hi hj
   obtain⟨o,ho,h1,h2⟩:=step i s hi (by omega) hj
   rw [Qcx,ho]
   cases o with
   | inl s'=>have:=(h1 s' rfl).1;omega
   | inr r=>exact⟨r,rfl,h2 r rfl⟩
  | succ k ih=>
   intro i s hk hi hj
   obtain⟨o,ho,h1,h2⟩:=step i s hi (by omega) hj
   rw [Qcx,ho]
   cases o with
   | inl s'=>
    obtain⟨_,h3,h4⟩:=h1 s' rfl
    exact ih (i+1) s' (by omega) h3 h4
   | inr r=>exact⟨r,rfl,h2 r rfl⟩
 exact key n 0 s0 (by omega) h0 hJ
theorem Qy {s:σ}{n i:Nat}{ix:σ→Int}{J:σ→Prop}{Q:ρ→Prop}(h:i<n∧ix s=((i+1:Nat):Int)∧J s):
  (∀s',(Sum.inl s:σ⊕ρ)=.inl s'→i<n∧ix s'=((i+1:Nat):Int)∧J s')∧∀r,(Sum.inl s:σ⊕ρ)=.inr r→Q r:=
 ⟨fun s' e=>(by cases e;exact h),fun r e=>(by cases e)⟩
theorem Qn {r:ρ}{n i:Nat}{ix:σ→Int}{J:σ→Prop}{Q:ρ→Prop}(h:Q r):
  (∀s',(Sum.inr r:σ⊕ρ)=.inl s'→i<n∧ix s'=((i+1:Nat):Int)∧J s')∧∀r',(Sum.inr r:σ⊕ρ)=.inr r'→Q r':=
 ⟨fun s' e=>(by cases e),fun r' e=>(by cases e;exact h)⟩
end
def QM {α:Type}(ok:α→Prop)(l:List α):Prop:=l.length≤maxLen∧∀x∈l,ok x
theorem QM.drop {α:Type}{ok:α→Prop}{l:List α}(h:QM ok l)(k:Nat):QM ok (l.drop k):=⟨by have:=h.1;rw [Qmr];omega,fun x hx=>h.2 x (Qpp hx)⟩
theorem QM.take {α:Type}{ok:α→Prop}{l:List α}(h:QM ok l)(k:Nat):QM ok (l.take k):=⟨by have:=h.1;rw [Qfh];omega,fun x hx=>h.2 x (QgS hx)⟩
theorem QM.nil {α:Type}{ok:α→Prop}:QM ok ([]:List α):=⟨by simp,fun x h=>by cases h⟩
theorem QM.app {α:Type}{ok:α→Prop}{l m:List α}(h:QM ok l)(hm:QM ok m)(hs:l.length+m.length≤maxLen):QM ok (l++m):=⟨by simpa using hs,fun x hx=>by rcases Qco.1 hx with h1 | h1;exact h.2 x h1;exact hm.2 x h1⟩
def Qg3 (s:ByteArray):Prop:=s.size≤maxLen
theorem QCo {s:ByteArray}(h:QiF s (⟨#[]⟩:ByteArray)=false):0<s.size:=by
 apply QpK
 intro h0
 have:s=⟨#[]⟩:=by
  obtain⟨a⟩:=s
  have:a=#[]:=Array.eq_empty_of_size_eq_zero h0
  rw [this]
 subst this
 simp [QiF]at h
theorem Qm4 {a b:Int}:0≤min2 a b↔0≤a∧0≤b:=by unfold min2;split<;>omega
theorem Qm5 {a b n:Int}:max2 a b<n↔a<n∧b<n:=by unfold max2;split<;>omega
theorem QlI {a b n:Int}:max2 a b≤n↔a≤n∧b≤n:=by unfold max2;split<;>omega
abbrev T0:=@Qf.bind
abbrev T1:=@Qf.bif
abbrev T2:=@Qf.ok
abbrev T3:=@Qf.okT
abbrev T4:=@Qf.idx
abbrev T5:=@Qf.chk
abbrev T6:=@Qf.mono
end Go.Vm
namespace Go.Vm
open Go Go.RowKit
def Asc (l:List (Int×Int)):Prop:=l.Pairwise fun p q=>p.1<q.1
def QnJ (l:List (Int×Int)):Prop:=l.Pairwise fun p q=>p.1≠q.1
theorem Asc.nd {l:List (Int×Int)}(h:Asc l):QnJ l:=h.imp fun h=>by omega
theorem QgM {p:Int×Int}{l:List (Int×Int)}:Asc (p::l)↔(∀q∈l,p.1<q.1)∧Asc l:=List.pairwise_cons
theorem Qyf {p:Int×Int}{l:List (Int×Int)}:QnJ (p::l)↔(∀q∈l,p.1≠q.1)∧QnJ l:=List.pairwise_cons
theorem Qvs {l:List (Int×Int)}{k:Int}:QR l k=none↔∀p∈l,p.1≠k:=by
 induction l with
 | nil=>simp [QR]
 | cons p l ih=>
  obtain⟨a,x⟩:=p
  rw [Qaf]
  by_cases h:a=k
  ·simp [h]
  simp [h,ih]
theorem Qel {l:List (Int×Int)}(hn:QnJ l){k v:Int}:QR l k=some v↔(k,v)∈l:=by
 induction l with
 | nil=>simp [QR]
 | cons p l ih=>
  obtain⟨a,x⟩:=p
  obtain⟨h1,h2⟩:=Qyf.1 hn
  rw [Qaf]
  by_cases h:a=k
  ·subst h
   rw [if_pos rfl]
   constructor
   ·intro e;cases e;simp
   intro e
   rcases Qaa.1 e with e | e
   ·cases e;rfl
   exact absurd rfl (h1 (a,v) e)
  rw [if_neg h,ih h2]
  constructor
  ·intro e;exact Qab _ e
  intro e
  rcases Qaa.1 e with e | e
  ·cases e;exact absurd rfl h
  exact e
theorem QCp {l m:List (Int×Int)}(hl:QnJ l)(h:l.Perm m)(k:Int):QR l k=QR m k:=by
 have hm:QnJ m:=(h.pairwise_iff (fun hab=>Ne.symm hab)).1 hl
 apply Option.ext
 intro v
 rw [Qel hl,Qel hm]
 exact h.mem_iff
theorem QAP {l m:List (Int×Int)}(hl:Asc l)(hm:Asc m)(h:∀k,QR l k=QR m k):l=m:=by
 induction l generalizing m with
 | nil=>
  cases m with
  | nil=>rfl
  | cons p m=>have:=h p.1;rw [Qaf (κ:=Int)]at this;simp [QR]at this
 | cons p l ih=>
  obtain⟨a,x⟩:=p
  cases m with
  | nil=>have:=h a;rw [Qaf]at this;simp [QR]at this
  | cons q m=>
   obtain⟨b,y⟩:=q
   obtain⟨l1,l2⟩:=QgM.1 hl
   obtain⟨m1,m2⟩:=QgM.1 hm
   have hab:a=b:=by
    rcases Int.lt_trichotomy a b with hc | hc | hc
    ·have e:=h a
     rw [Qaf,Qaf,if_pos rfl,if_neg (by omega),Qvs.2 (fun p hp=>by have:=m1 p hp;simp at this;omega)]at e
     cases e
    ·exact hc
    have e:=h b
    rw [Qaf,Qaf,if_neg (by omega),if_pos rfl,Qvs.2 (fun p hp=>by have:=l1 p hp;simp at this;omega)]at e
    cases e
   subst hab
   have e:=h a
   rw [Qaf,Qaf,if_pos rfl,if_pos rfl]at e
   cases e
   rw [ih l2 m2 fun k=>?_]
   by_cases hk:a=k
   ·subst hk
    rw [Qvs.2 (fun p hp=>by have:=l1 p hp;simp at this;omega),Qvs.2 (fun p hp=>by have:=m1 p hp;simp at this;omega)]
   have:=h k
   rwa [Qaf,Qaf,if_neg hk,if_neg hk]at this
theorem QER {l:List (Int×Int)}{k v:Int}{p:Int×Int}(h:p∈Qgg l k v):∃q∈l,q.1=p.1:=by
 induction l with
 | nil=>cases h
 | cons q l ih=>
  obtain⟨a,x⟩:=q
  rw [Qgg]at h
  split at h
  ·rename_i e
   rcases Qaa.1 h with rfl | h
   ·exact⟨_,Q5,e⟩
   exact⟨p,Qab _ h,rfl⟩
  rcases Qaa.1 h with rfl | h
  ·exact⟨_,Q5,rfl⟩
  obtain⟨q,h1,h2⟩:=ih h
  exact⟨q,Qab _ h1,h2⟩
theorem QDn {lt:Int→Int→Bool}{l:List (Int×Int)}{k v:Int}{p:Int×Int}(h:p∈Qkq lt l k v):p=(k,v)∨p∈l:=by
 induction l with
 | nil=>simp [Qkq]at h;exact .inl h
 | cons q l ih=>
  obtain⟨a,x⟩:=q
  rw [Qkq]at h
  split at h
  ·rcases Qaa.1 h with h | h
   ·exact .inl h
   exact .inr h
  rcases Qaa.1 h with h | h
  ·exact .inr (h▸Q5)
  rcases ih h with h | h
  ·exact .inl h
  exact .inr (Qab _ h)
theorem QzS {l:List (Int×Int)}(h:Asc l)(k v:Int):Asc (QaR ltI l k v):=by
 unfold QaR
 split
 ·rename_i x hx
  clear hx
  induction l with
  | nil=>exact h
  | cons p l ih=>
   obtain⟨a,x⟩:=p
   obtain⟨h1,h2⟩:=QgM.1 h
   rw [Qgg]
   split
   ·rename_i e;subst e;exact QgM.2 ⟨h1,h2⟩
   refine QgM.2 ⟨fun q hq=>?_,ih h2⟩
   obtain⟨q',hq',e⟩:=QER hq
   rw [←e];exact h1 _ hq'
 rename_i hn
 induction l with
 | nil=>exact List.pairwise_singleton _ _
 | cons p l ih=>
  obtain⟨a,x⟩:=p
  obtain⟨h1,h2⟩:=QgM.1 h
  rw [Qaf]at hn
  split at hn
  ·cases hn
  rename_i hne
  rw [Qkq]
  split
  ·rename_i e
   have e:k<a:=QV e
   refine QgM.2 ⟨fun q hq=>?_,h⟩
   rcases Qaa.1 hq with rfl | hq
   ·exact e
   have:=h1 q hq;simp at this ⊢;omega
  rename_i e
  have e:¬k<a:=fun c=>e (Qa4 c)
  refine QgM.2 ⟨fun q hq=>?_,ih h2 hn⟩
  rcases QDn hq with rfl | hq
  ·show a<k;omega
  exact h1 q hq
theorem QDo {l:List (Int×Int)}{k v:Int}:(Qgg l k v).length=l.length:=by
 induction l with
 | nil=>rfl
 | cons p l ih=>
  obtain⟨a,x⟩:=p
  rw [Qgg]
  split
  ·rfl
  simp [ih]
theorem QDp {lt:Int→Int→Bool}{l:List (Int×Int)}{k v:Int}:(Qkq lt l k v).length=l.length+1:=by
 induction l with
 | nil=>rfl
 | cons p l ih=>
  obtain⟨a,x⟩:=p
  rw [Qkq]
  split
  ·rfl
  simp [ih]
theorem QDq {l:List (Int×Int)}{k v:Int}:(QaR ltI l k v).length≤l.length+1:=by
 unfold QaR
 split
 ·rw [QDo];omega
 rw [QDp];exact QbY _
theorem QDr {l:List (Int×Int)}{k v:Int}(h:Asc (l++[(k,v)])):QaR ltI l k v=l++[(k,v)]:=by
 have hl:Asc l:=(List.pairwise_append.1 h).1
 refine QAP (QzS hl k v) h fun j=>?_
 rw [QoK]
 have hk:∀p∈l,p.1<k:=fun p hp=>(List.pairwise_append.1 h).2.2 p hp (k,v) (by simp)
 clear h
 induction l with
 | nil=>
  show(if j=k then some v else none)=(if k=j then some v else none)
  by_cases c:j=k
  ·rw [if_pos c,if_pos c.symm]
  rw [if_neg c,if_neg (fun e=>c e.symm)]
 | cons p l ih=>
  obtain⟨a,x⟩:=p
  have h1:=hk (a,x) Q5
  simp only at h1
  rw [Qoj,Qaf,Qaf]
  rw [←ih (QgM.1 hl).2 fun p hp=>hk p (Qab _ hp)]
  by_cases c:j=k
  ·subst c;rw [if_pos rfl,if_pos rfl,if_neg (by omega)]
  rw [if_neg c,if_neg c]
section
variable {ρ:Type}{g:Int→Int→Int}{stop:Int→Bool}{q:Option ρ}{body:List (Int×Int)→Int×Int→Option (List (Int×Int)⊕ρ)}
def QI (s:List (Int×Int))(k:Int):Int:=(QR s k).getD 0
def Qvt (g:Int→Int→Int)(s l:List (Int×Int))(k:Int):Option Int:=match QR l k with
 | some v=>some (g (QI s k) v)
 | none=>QR s k
theorem Qtl (hb:∀s p,body s p=bif stop (g (QI s p.1) p.2)then q.map Sum.inr else some (.inl (QaR ltI s p.1 (g (QI s p.1) p.2)))):
  ∀l s,Asc s→QnJ l→((∃p∈l,stop (g (QI s p.1) p.2)=true)∧QbA body s l=q.map Sum.inr)∨
   ((∀p∈l,stop (g (QI s p.1) p.2)=false)∧∃s',QbA body s l=some (.inl s')∧Asc s'∧s'.length≤s.length+l.length∧∀k,QR s' k=Qvt g s l k):=by
 intro l
 induction l with
 | nil=>intro s hs _;exact .inr ⟨fun p h=>(by cases h),s,rfl,hs,by simp,fun k=>rfl⟩
 | cons p l ih=>
  intro s hs hl
  obtain⟨h1,h2⟩:=Qyf.1 hl
  simp only [QbA,hb]
  cases hst:stop (g (QI s p.1) p.2)with
  | true=>exact .inl ⟨⟨p,Q5,hst⟩,by cases q<;>rfl⟩
  | false=>
   simp only [cond_false,Qi,Sum.elim_inl]
   have hc:∀r∈l,QI (QaR ltI s p.1 (g (QI s p.1) p.2)) r.1=QI s r.1:=fun r hr=>by
    unfold QI
    rw [QoK,if_neg (fun e=>h1 r hr e.symm)]
   rcases ih _ (QzS hs p.1 (g (QI s p.1) p.2)) h2 with⟨⟨r,hr,h3⟩,h4⟩|⟨h3,s',h4,h5,h6,h7⟩
   ·exact .inl ⟨⟨r,Qab _ hr,by rw [hc r hr]at h3;exact h3⟩,h4⟩
   refine .inr ⟨fun r hr=>?_,s',h4,h5,?_,fun k=>?_⟩
   ·rcases Qaa.1 hr with rfl | hr
    ·exact hst
    have:=h3 r hr;rwa [hc r hr]at this
   ·have:=QDq (l:=s) (k:=p.1) (v:=g (QI s p.1) p.2)
    simp;omega
   rw [h7]
   obtain⟨a,x⟩:=p
   unfold Qvt
   rw [Qaf]
   by_cases e:a=k
   ·subst e
    rw [if_pos rfl,Qvs.2 (fun r hr=>Ne.symm (h1 r hr)),QoK,if_pos rfl]
   rw [if_neg e]
   simp only [QI,QoK,if_neg (fun e'=>e (Eq.symm e'):¬k=a)]
theorem Qxq (hb:∀s p,body s p=bif stop (g (QI s p.1) p.2)then q.map Sum.inr else some (.inl (QaR ltI s p.1 (g (QI s p.1) p.2)))){l s:List (Int×Int)}(hs:Asc s)(hl:QnJ l):
  ((∃p∈l,stop (g (QI s p.1) p.2)=true)∧∀r,q=some r→QcE body s l=some (.inr r))∨
   ((∀p∈l,stop (g (QI s p.1) p.2)=false)∧∃s',QcE body s l=some (.inl s')∧Asc s'∧s'.length≤s.length+l.length∧∀k,QR s' k=Qvt g s l k):=by
 have key:∀l':List (Int×Int),l'.Perm l→QbA body s l'=QbA body s l:=fun l' hp=>by
  have hl':QnJ l':=(hp.pairwise_iff (fun hab=>Ne.symm hab)).2 hl
  rcases Qtl hb l' s hs hl' with⟨⟨p,h1,h2⟩,h3⟩|⟨h1,s1,h3,h4,_,h5⟩
  ·rcases Qtl hb l s hs hl with⟨_,g3⟩|⟨g1,_⟩
   ·rw [h3,g3]
   rw [g1 p (hp.mem_iff.1 h1)]at h2;cases h2
  rcases Qtl hb l s hs hl with⟨⟨p,g1,g2⟩,g3⟩|⟨g1,s2,g3,g4,_,g5⟩
  ·rw [h1 p (hp.mem_iff.2 g1)]at g2;cases g2
  rw [h3,g3,QAP h4 g4 fun k=>?_]
  rw [h5,g5]
  unfold Qvt
  rw [QCp hl' hp k]
 rcases Qtl hb l s hs hl with⟨h1,h3⟩|⟨h1,s1,h3,h4,h6,h5⟩
 ·exact .inl ⟨h1,fun r hr=>Qd0.2 ⟨key,by rw [h3,hr];rfl⟩⟩
 exact .inr ⟨h1,s1,Qd0.2 ⟨key,h3⟩,h4,h6,h5⟩
end
theorem QBB {ρ:Type}{bad:Int×Int→Bool}{q:ρ}{body:Unit→Int×Int→Option (Unit⊕ρ)}(hb:∀p,body () p=some (bif bad p then .inr q else .inl ()))(l:List (Int×Int)):
  QcE body () l=some (bif l.any bad then .inr q else .inl ()):=by
 have h1:∀l:List (Int×Int),QbA body () l=some (bif l.any bad then .inr q else .inl ()):=by
  intro l
  induction l with
  | nil=>rfl
  | cons p l ih=>
   simp only [QbA,hb,Qi,List.any_cons]
   cases bad p with
   | true=>rfl
   | false=>exact ih
 refine Qd0.2 ⟨fun l' hp=>?_,h1 l⟩
 rw [h1,h1]
 congr 2
 rw [Bool.eq_iff_iff,Qm8,Qm8]
 exact⟨fun ⟨x,a,b⟩=>⟨x,hp.mem_iff.1 a,b⟩,fun ⟨x,a,b⟩=>⟨x,hp.mem_iff.2 a,b⟩⟩
def rtF (a:Int):List (Int×Int)→Bool
 | []=>true
 | p::r=>!(decide (p.1≤a)||(decide (p.2<1)||decide (1048576<p.2)))&&rtF p.1 r
theorem QD2 {a:Int}{l:List (Int×Int)}:rtF a l=true↔Asc l∧∀p∈l,a<p.1∧1≤p.2∧p.2≤1048576:=by
 induction l generalizing a with
 | nil=>simp [rtF,Asc]
 | cons p l ih=>
  rw [rtF,Qz,ih,QgM]
  simp only [Qfg,QcZ,QY]
  constructor
  ·rintro ⟨⟨h1,h2,h3⟩,h4,h5⟩
   refine⟨⟨fun q hq=>(h5 q hq).1,h4⟩,fun q hq=>?_⟩
   rcases Qaa.1 hq with rfl | hq
   ·omega
   have:=h5 q hq;omega
  rintro ⟨⟨h1,h2⟩,h3⟩
  have:=h3 p Q5
  exact⟨by omega,h2,fun q hq=>⟨h1 q hq,(h3 q (Qab _ hq)).2⟩⟩
def Rt (l:List (Int×Int)):Prop:=Asc l∧∀p∈l,0≤p.1∧1≤p.2∧p.2≤1048576
theorem QgN {l:List (Int×Int)}:rtF (-1) l=true↔Rt l:=by
 rw [QD2]
 constructor
 ·rintro ⟨h1,h2⟩;exact⟨h1,fun p hp=>by have:=h2 p hp;omega⟩
 rintro ⟨h1,h2⟩;exact⟨h1,fun p hp=>by have:=h2 p hp;omega⟩
theorem Rt.nil : Rt []:=⟨List.Pairwise.nil,fun p h=>by cases h⟩
theorem Qoa {l:List (Int×Int)}(h:QnJ l){p:Int×Int}(hp:p∈l):QI l p.1=p.2:=by
 unfold QI;rw [(Qel h).2 (show(p.1,p.2)∈l from hp)];rfl
theorem Rt.cnt {l:List (Int×Int)}(h:Rt l)(k:Int):0≤QI l k∧QI l k≤1048576:=by
 unfold QI
 cases e:QR l k with
 | none=>simp
 | some v=>have:=h.2 _ ((Qel h.1.nd).1 e);simp at this ⊢;omega
theorem Rt.cnt_pos {l:List (Int×Int)}(h:Rt l){k:Int}(hk:0<QI l k):0≤k:=by
 unfold QI at hk
 cases e:QR l k with
 | none=>rw [e]at hk;simp at hk
 | some v=>exact(h.2 _ ((Qel h.1.nd).1 e)).1
def QkR (l:List (Int×Int)):List (Int×Int):=l.filter fun p=>decide (0<p.2)
theorem QzT {l:List (Int×Int)}(h:Asc l)(k:Int):QI (QkR l) k=if 0<QI l k then QI l k else 0:=by
 have hp:Asc (QkR l):=h.sublist List.filter_sublist
 by_cases c:0<QI l k
 ·rw [if_pos c]
  unfold QI at c
  cases e:QR l k with
  | none=>rw [e]at c;simp at c
  | some v=>
   rw [e]at c
   have h1:(k,v)∈QkR l:=Qhe.2 ⟨(Qel h.nd).1 e,by simpa using c⟩
   unfold QI
   rw [(Qel hp.nd).2 h1,e]
 rw [if_neg c]
 unfold QI
 cases e:QR (QkR l) k with
 | none=>rfl
 | some v=>
  have h1:=Qhe.1 ((Qel hp.nd).1 e)
  have h2:=(Qel h.nd).2 h1.1
  unfold QI at c
  rw [h2]at c
  simp at h1 c;omega
theorem QCq {l:List (Int×Int)}(h:Asc l)(hb:∀k,0<QI l k→0≤k∧QI l k≤1048576):Rt (QkR l):=by
 refine⟨h.sublist List.filter_sublist,fun p hp=>?_⟩
 obtain⟨h1,h2⟩:=Qhe.1 hp
 have h3:=Qoa h.nd h1
 have h4:0<p.2:=QV h2
 have:=hb p.1 (by omega)
 omega
theorem QCr {l:List (Int×Int)}(h:Asc l):QeW (l.map Prod.fst)=l.map Prod.fst:=by
 rw [Qs5]
 refine List.mergeSort_of_pairwise ?_
 rw [QqW]
 exact h.imp fun h=>by simp;omega
end Go.Vm
namespace Go.Vm
open Go Go.RowKit
def upL : Int→Nat→List Int
 | _,0=>[]
 | x,k+1=>x::upL (x+1) k
def binds : List Int→List (List Int)
 | []=>[[]]
 | s::r=>(0::upL 1 (s-1).toNat).flatMap fun x=>(binds r).map (x::·)
def inB : List Int→List Int→Prop
 | [],[]=>True
 | s::r,x::d=>0≤x∧(x=0∨x<s)∧inB r d
 | _,_=>False
theorem QD3 {y x:Int}{k:Nat}:y∈upL x k↔x≤y∧y<x+k:=by
 induction k generalizing x with
 | zero=>
  simp only [upL,List.not_mem_nil,false_iff];omega
 | succ k ih=>simp only [upL,Qaa,ih];omega
theorem QCs {l d:List Int}:d∈binds l↔inB l d:=by
 induction l generalizing d with
 | nil=>cases d<;>simp [binds,inB]
 | cons s r ih=>
  cases d with
  | nil=>simp [binds,inB]
  | cons x d=>
   simp only [binds,List.mem_flatMap,Qaa,QD3,QG,List.cons.injEq,inB,←ih]
   constructor
   ·rintro ⟨y,h1,e,h2,rfl,rfl⟩
    exact⟨by omega,by omega,h2⟩
   rintro ⟨h1,h2,h3⟩
   exact⟨x,by omega,d,h3,rfl,rfl⟩
section
variable {α:Type}
end
end Go.Vm
noncomputable section
namespace Go.Proofs
open Go Go.RowKit Go.Vm
inductive QdL : Ql→Prop where
 | mk (e:Ql):e.Kids.length≤maxLen→(∀k∈e.Kids,QdL k)→QdL e
theorem Qfe {e:Ql}(h:QdL e):QM QdL e.Kids:=by
 cases h with
 | mk _ h1 h2=>exact⟨h1,h2⟩
theorem QuS {e k:Ql}(h:k∈e.Kids):SizeOf.sizeOf k<SizeOf.sizeOf e:=by
 obtain⟨a,b,l⟩:=e
 have:=List.sizeOf_lt_of_mem h
 simp only [Ql.mk.sizeOf_spec]at *
 omega
theorem Ql.pos (e:Ql):0<SizeOf.sizeOf e:=by
 obtain⟨a,b,l⟩:=e
 simp only [Ql.mk.sizeOf_spec];omega
inductive POk (v:Int):Ql→Prop where
 | mk (e:Ql):(e.Kind=1∨e.Kind=2∨e.Kind=3∨e.Kind=4∨e.Kind=5∨e.Kind=6)→(e.Kind=2→0≤e.Num∧e.Num<v)→(e.Kind=3∨e.Kind=4→e.Kids.length=1)→(e.Kind=5→e.Kids.length=2)→(e.Kind=6→e.Kids.length=3)→(∀k∈e.Kids,POk v k)→POk v e
def Qcw (x:QO):Prop:=Qg3 x.Name∧True∧True∧True∧(QM Qg3) x.Names∧True∧True
def Qc8 (x:QW):Prop:=Qg3 x.Name∧True∧(QM (fun _=>True)) x.First
def QeH (x:QaA):Prop:=Qg3 x.Name∧True
def Qjo (x:QX):Prop:=True∧QdL x.Expr
def QaP (x:QA):Prop:=Qg3 x.Name∧(QM QeH) x.Vars∧QdL x.Guard∧True∧True∧(QM Qjo) x.Ins∧(QM Qjo) x.Outs∧(QM (fun _=>True)) x.Cancel∧True∧True
def QU (x:Qk):Prop:=(QM Qcw) x.Colours∧(QM Qc8) x.Places∧(QM QaP) x.Tasks∧True∧True
def Qy6 (x:Qa9):Prop:=(QM Qcw) x.all∧(QM (fun _=>True)) x.sizes∧True
theorem Qxr (v1:Qk)(h_v1:QU v1):Qf (Qmw v1) fun r=>True:=by
 unfold Qmw
 exact T3
theorem QcI (l1:(List QW))(k2:Int)(h_l1:(QM Qc8) l1):Qf (QaY l1 k2) fun r=>r=true→0≤k2∧k2<l1.length:=by
 unfold QaY
 exact T2 (by first | (intro hr;first | (cases hr;done) | omega | ((try simp only [Qz,QdN,QcZ,Qfg,QiB,Qx,QY,beq_iff_eq,bne_iff_ne,ne_eq,Qpl,QqQ,QfJ,Qnb,Qna,Qmr,Qfh,QeU,Qm4,Qm5,QlI]at *);omega)) | ((try simp only [Qz,QdN,QcZ,Qfg,QiB,Qx,QY,beq_iff_eq,bne_iff_ne,ne_eq,Qpl,QqQ,QfJ,Qnb,Qna,Qmr,Qfh,QeU,Qm4,Qm5,QlI]at *);omega) | simp_all)
theorem Qxs (v1:Qk)(h_v1:QU v1):Qf (Qmx v1) fun r=>True:=by
 unfold Qmx
 refine T0 (P:=fun _=>True) ?_ (fun x_1 hv2=>?_)
 ·unfold Qp9
  refine T0 (QcI v1.Places v1.From (h_v1.2.1)) (fun x_3 hv4=>?_)
  refine T1 (fun hc5=>?_) (fun hc5=>?_)
  ·refine T0 (QcI v1.Places v1.To (h_v1.2.1)) (fun x_6 hv7=>?_)
   exact T3
  exact T3
 unfold QiM
 exact T3
theorem Qxt (v1:Qk)(h_v1:QU v1):Qf (Qmy v1) fun r=>True:=by
 unfold Qmy
 exact T3
theorem Qxu (v1:Qk)(v2:Int)(v3:Int)(v4:Int)(h_v1:QU v1):Qf (Qmz v1 v2 v3 v4) fun r=>True:=by
 unfold Qmz
 refine T0 (Qxr v1 (h_v1)) (fun x_1 hv2=>?_)
 refine T1 (fun hc3=>?_) (fun hc3=>?_)
 ·exact T3
 refine T0 (Qxs v1 (h_v1)) (fun x_4 hv5=>?_)
 refine T1 (fun hc6=>?_) (fun hc6=>?_)
 ·exact T3
 refine T0 (Qxt v1 (h_v1)) (fun x_7 hv8=>?_)
 refine T1 (fun hc9=>?_) (fun hc9=>?_)
 ·exact T3
 exact T3
theorem Qxv (lo1:Int)(hi2:Int)  : Qf (QmA lo1 hi2) fun r=>True:=by
 unfold QmA
 refine T1 (fun hc1=>?_) (fun hc1=>?_)
 ·exact T3
 exact T3
theorem Qph (c1:Int)  : Qf (Qfn c1) fun r=>True:=by
 unfold Qfn
 exact T3
theorem QnK (s1:ByteArray)(h_s1:Qg3 s1):Qf (Qha s1) fun r=>True:=by
 unfold Qha
 refine T0 (P:=fun _=>True) ?_ (fun x_1 hv2=>?_)
 ·unfold Qqa
  refine T1 (fun hc3=>?_) (fun hc3=>?_)
  ·exact T3
  have hshc3:=QCo hc3
  refine T1 (fun hc4=>?_) (fun hc4=>?_)
  ·exact T3
  refine T0 (Qf.sidx (by omega) (by omega)) (fun c_5 hv6=>?_)
  refine T0 (Qph c_5 ) (fun x_7 hv8=>?_)
  exact T3
 unfold QiR
 refine T1 (fun hc9=>?_) (fun hc9=>?_)
 ·exact T3
 refine T0 (Qf.up (s1.size) (fun st=>st) (fun _=>True) (Q:=fun q=>True) rfl trivial (fun i11 st hi12 hn13 hj14=>?_)) (fun q15 hq16=>?_)
 ·obtain⟨x_10,hst⟩:∃y,y=st:=⟨_,rfl⟩
  subst hst
  replace hi12:x_10=(i11:Int):=hi12
  show Qf (QiO s1 x_10) _
  unfold QiO
  refine T1 (fun hc17=>?_) (fun hc17=>?_)
  ·refine T0 (Qf.sidx (by omega) (by simp_all)) (fun c_18 hv19=>?_)
   refine T0 (P:=fun _=>True) ?_ (fun x_20 hv21=>?_)
   ·unfold Qqb
    refine T0 (Qph c_18 ) (fun x_22 hv23=>?_)
    refine T1 (fun hc24=>?_) (fun hc24=>?_)
    ·refine T1 (fun hc25=>?_) (fun hc25=>?_)
     ·exact T3
     refine T1 (fun hc26=>?_) (fun hc26=>?_)
     ·exact T3
     exact T3
    exact T3
   unfold QiN
   refine T1 (fun hc27=>?_) (fun hc27=>?_)
   ·exact T2 (Qn trivial)
   exact T2 (Qy ⟨(by simp_all),by subst hi12;exact Qw (by simp_all) h_s1,trivial⟩)
  exact T2 (Qn trivial)
 rcases q15 with q15 | q15
 ·show Qf (QiP) _
  unfold QiP
  exact T3
 show Qf (QiQ) _
 unfold QiQ
 exact T3
theorem Qwy (l1:(List ByteArray))(h_l1:(QM Qg3) l1):Qf (Qlo l1) fun r=>True:=by
 unfold Qlo
 refine T0 (Qf.up (l1.length) (fun st=>st.1) (fun _=>True) (Q:=fun q=>True) rfl trivial (fun i3 st hi4 hn5 hj6=>?_)) (fun q7 hq8=>?_)
 ·obtain⟨x_1,m_2⟩:=st
  replace hi4:x_1=(i3:Int):=hi4
  show Qf (QhZ l1 x_1 m_2) _
  unfold QhZ
  refine T1 (fun hc9=>?_) (fun hc9=>?_)
  ·refine T0 (T4 (by omega) (by simp_all)) (fun e_10 hv11=>?_)
   refine T0 (P:=fun _=>True) ?_ (fun x_12 hv13=>?_)
   ·unfold Qo7
    refine T0 (QnK e_10 (((h_l1).2 e_10 hv11))) (fun x_14 hv15=>?_)
    refine T1 (fun hc16=>?_) (fun hc16=>?_)
    ·exact T3
    exact T3
   unfold QhY
   refine T1 (fun hc17=>?_) (fun hc17=>?_)
   ·exact T2 (Qn trivial)
   exact T2 (Qy ⟨(by simp_all),by subst hi4;exact Qw (by simp_all) (h_l1).1,trivial⟩)
  exact T2 (Qn trivial)
 rcases q7 with q7 | q7
 ·show Qf (Qh0) _
  unfold Qh0
  exact T3
 show Qf (Qh1) _
 unfold Qh1
 exact T3
theorem Qxw (c1:QO)(ahead2:(List Int))(h_c1:Qcw c1)(h_ahead2:(QM (fun _=>True)) ahead2):Qf (QmB c1 ahead2) fun r=>True:=by
 unfold QmB
 refine T1 (fun hc1=>?_) (fun hc1=>?_)
 ·refine T0 (Qxv c1.Lo c1.Hi ) (fun x_2 hv3=>?_)
  exact T3
 refine T1 (fun hc4=>?_) (fun hc4=>?_)
 ·refine T0 (Qwy c1.Names (h_c1.2.2.2.2.1)) (fun x_5 hv6=>?_)
  refine T1 (fun hc7=>?_) (fun hc7=>?_)
  ·exact T3
  unfold Qdy
  exact T3
 refine T1 (fun hc8=>?_) (fun hc8=>?_)
 ·refine T1 (fun hc9=>?_) (fun hc9=>?_)
  ·refine T0 (T4 (by(try simp only [Qz,QdN,QcZ,Qfg,QiB,Qx,QY,beq_iff_eq,bne_iff_ne,ne_eq,Qpl,QqQ,QfJ,Qnb,Qna,Qmr,Qfh,QeU,Qm4,Qm5,QlI]at *);omega) (by(try simp only [Qz,QdN,QcZ,Qfg,QiB,Qx,QY,beq_iff_eq,bne_iff_ne,ne_eq,Qpl,QqQ,QfJ,Qnb,Qna,Qmr,Qfh,QeU,Qm4,Qm5,QlI]at *);omega)) (fun e_10 hv11=>?_)
   refine T0 (T4 (by(try simp only [Qz,QdN,QcZ,Qfg,QiB,Qx,QY,beq_iff_eq,bne_iff_ne,ne_eq,Qpl,QqQ,QfJ,Qnb,Qna,Qmr,Qfh,QeU,Qm4,Qm5,QlI]at *);omega) (by(try simp only [Qz,QdN,QcZ,Qfg,QiB,Qx,QY,beq_iff_eq,bne_iff_ne,ne_eq,Qpl,QqQ,QfJ,Qnb,Qna,Qmr,Qfh,QeU,Qm4,Qm5,QlI]at *);omega)) (fun e_12 hv13=>?_)
   exact T3
  unfold Qdy
  exact T3
 unfold Qdy
 exact T3
theorem Qqw (l1:(List QO))(h_l1:(QM Qcw) l1):Qf (Qii l1) fun r=>((QM (fun _=>True)) r.1∧True)∧(r.2=true→r.1.length=l1.length∧∀x∈r.1,1≤x∧x≤1024):=by
 unfold Qii
 refine T1 (fun hc=>T2 ⟨⟨QM.nil,trivial⟩,fun h=>by cases h⟩) (fun hc=>?_)
 have hl:l1.length≤32:=by simp only [QY]at hc;omega
 refine T0 (Qf.up l1.length (fun st=>st.1) (fun st=>(st.2.2.length:Int)=st.1∧∀x∈st.2.2,1≤x∧x≤1024) (Q:=fun q=>∀l,q=.inr l→l.length=l1.length∧∀x∈l,1≤x∧x≤1024) rfl ⟨rfl,fun x h=>(by cases h)⟩ (fun i st hi hn hj=>?_)) (fun q hq=>?_)
 ·obtain⟨x,m,l⟩:=st
  replace hi:x=(i:Int):=hi
  replace hj:(l.length:Int)=x∧∀x∈l,1≤x∧x≤1024:=hj
  obtain⟨hj,hj2⟩:=hj
  show Qf (Qh3 l1 x m l) _
  unfold Qh3
  refine T1 (fun hc2=>?_) (fun hc2=>?_)
  ·simp only [Qx]at hc2
   refine T0 (T4 (by omega) (by omega)) fun e he=>?_
   refine T0 (Qxw e l (h_l1.2 e he) ⟨by unfold maxLen;omega,fun _ _=>trivial⟩) fun y _=>?_
   refine T0 (P:=fun z=>z=false→1≤y∧y≤1024) ?_ fun z hz=>?_
   ·unfold Qo8
    refine T0 (QnK e.Name (h_l1.2 e he).1) fun z _=>?_
    refine T1 (fun _=>T2 (fun h=>by cases h)) fun _=>T1 (fun _=>T2 (fun h=>by cases h)) fun _=>T1 (fun _=>T2 (fun h=>by cases h)) fun h1=>T2 fun h2=>?_
    simp only [QY]at h1 h2
    omega
   unfold Qh2
   refine T1 (fun _=>T2 (Qn fun l h=>by cases h)) fun hz0=>?_
   refine T0 (T5 (by simp;omega)) fun _ _=>?_
   exact T2 (Qy ⟨by omega,by subst hi;exact Qw (by omega) (by unfold maxLen;omega:l1.length≤maxLen),by simp only [QfJ,Qnb];subst hi;rw [Qw (show i<l1.length by omega) (by unfold maxLen;omega)];omega,fun u hu=>by
    rcases Qco.1 hu with hu | hu
    ·exact hj2 u hu
    simp at hu;subst hu;exact hz hz0⟩)
  simp only [QY]at hc2
  exact T2 (Qn fun l' h=>by cases h;exact⟨by omega,hj2⟩)
 rcases q with q | q
 ·exact T2 ⟨⟨QM.nil,trivial⟩,fun h=>by cases h⟩
 have:=hq q rfl
 exact T2 ⟨⟨⟨by show q.length≤maxLen;unfold maxLen;omega,fun _ _=>trivial⟩,trivial⟩,fun _=>this⟩
theorem Qwz (l1:(List QO))(h_l1:(QM Qcw) l1):Qf (Qlp l1) fun r=>True:=by
 unfold Qlp
 refine T0 (Qqw l1 (h_l1)) (fun x_1 hv2=>?_)
 exact T3
theorem Qsx (v1:Qk)(v2:Int)(h_v1:QU v1)(hp0:0≤v2)(hp1:v2<v1.Colours.length):Qf (QgU v1 v2) fun r=>True:=by
 have hl:=h_v1.1.1
 unfold maxLen at hl
 unfold QgU
 rw [Q6 (show -9223372036854775808≤v2+1∧v2+1≤9223372036854775807 by omega)]
 refine T0 (T5 (by simp only [Qz,Qx];omega)) fun _ _=>?_
 exact T0 (Qwz _ ((h_v1.1.drop _).take _)) fun x _=>T3
def Qxx : List ByteArray:=(Qjh).getD []
set_option maxRecDepth 100000 in
theorem QDs : Qjh=some Qxx:=by kernel_rfl
set_option maxRecDepth 100000 in
theorem QAF : (decide (Qxx.length≤1000)&&Qxx.all fun s=>decide (s.size≤1000))=true:=by kernel_rfl
theorem Qxy : Qf (Qjh) fun r=>QM Qg3 r:=by
 have h:=QAF
 rw [Qz,decide_eq_true_iff,Qac]at h
 refine⟨Qxx,QDs,by unfold maxLen;omega,fun x hx=>?_⟩
 have:=h.2 x hx
 rw [decide_eq_true_iff]at this
 unfold Qg3 maxLen;omega
theorem QnL (s1:(List ByteArray))(v2:ByteArray)(h_s1:(QM Qg3) s1)(h_v2:Qg3 v2):Qf (Qc3 s1 v2) fun r=>True:=by
 unfold Qc3
 refine T0 (Qf.up (s1.length) (fun st=>st) (fun _=>True) (Q:=fun q=>True) rfl trivial (fun i2 st hi3 hn4 hj5=>?_)) (fun q6 hq7=>?_)
 ·obtain⟨x_1,hst⟩:∃y,y=st:=⟨_,rfl⟩
  subst hst
  replace hi3:x_1=(i2:Int):=hi3
  show Qf (Qcp s1 v2 x_1) _
  unfold Qcp
  refine T1 (fun hc8=>?_) (fun hc8=>?_)
  ·refine T0 (T4 (by omega) (by simp_all)) (fun e_9 hv10=>?_)
   refine T1 (fun hc11=>?_) (fun hc11=>?_)
   ·exact T2 (Qn trivial)
   exact T2 (Qy ⟨(by simp_all),by subst hi3;exact Qw (by simp_all) (h_s1).1,trivial⟩)
  exact T2 (Qn trivial)
 rcases q6 with q6 | q6
 ·show Qf (Qcq q6) _
  unfold Qcq
  exact T3
 show Qf (Qcr) _
 unfold Qcr
 exact T3
theorem Qmo (s1:(List ByteArray))(v2:ByteArray)(h_s1:(QM Qg3) s1)(h_v2:Qg3 v2):Qf (Qcs s1 v2) fun r=>True:=by
 unfold Qcs
 refine T0 (QnL s1 v2 (h_s1) (h_v2)) (fun x_1 hv2=>?_)
 exact T3
theorem Qyg (s1:ByteArray)(h_s1:Qg3 s1):Qf (Qnp s1) fun r=>True:=by
 unfold Qnp
 refine T0 (Qxy  ) (fun x_1 hv2=>?_)
 refine T0 (Qmo x_1 s1 (hv2) (h_s1)) (fun x_3 hv4=>?_)
 exact T3
theorem Qit (s1:ByteArray)(h_s1:Qg3 s1):Qf (Qfa s1) fun r=>True:=by
 unfold Qfa
 refine T0 (P:=fun _=>True) ?_ (fun x_1 hv2=>?_)
 ·unfold Qrf
  refine T0 (QnK s1 (h_s1)) (fun x_3 hv4=>?_)
  refine T1 (fun hc5=>?_) (fun hc5=>?_)
  ·refine T0 (Qyg s1 (h_s1)) (fun x_6 hv7=>?_)
   exact T3
  exact T3
 unfold QjW
 exact T3
theorem QqK (s1:ByteArray)(h_s1:Qg3 s1):Qf (Qfo s1) fun r=>True:=by
 unfold Qfo
 refine T0 (Qit s1 (h_s1)) (fun x_1 hv2=>?_)
 exact T3
theorem QlV (s1:(List ByteArray))(h_s1:(QM Qg3) s1):Qf (Qcd s1) fun r=>True:=by
 unfold Qcd
 refine T0 (Qf.up (s1.length) (fun st=>st) (fun _=>True) (Q:=fun q=>True) rfl trivial (fun i2 st hi3 hn4 hj5=>?_)) (fun q6 hq7=>?_)
 ·obtain⟨x_1,hst⟩:∃y,y=st:=⟨_,rfl⟩
  subst hst
  replace hi3:x_1=(i2:Int):=hi3
  show Qf (QbC s1 x_1) _
  unfold QbC
  refine T1 (fun hc8=>?_) (fun hc8=>?_)
  ·refine T0 (T4 (by omega) (by simp_all)) (fun e_9 hv10=>?_)
   refine T0 (QqK e_9 (((h_s1).2 e_9 hv10))) (fun x_11 hv12=>?_)
   refine T1 (fun hc13=>?_) (fun hc13=>?_)
   ·exact T2 (Qn trivial)
   exact T2 (Qy ⟨(by simp_all),by subst hi3;exact Qw (by simp_all) (h_s1).1,trivial⟩)
  exact T2 (Qn trivial)
 rcases q6 with q6 | q6
 ·show Qf (QbD q6) _
  unfold QbD
  exact T3
 show Qf (QbE) _
 unfold QbE
 exact T3
theorem Qkn (s1:(List ByteArray))(h_s1:(QM Qg3) s1):Qf (QbF s1) fun r=>True:=by
 unfold QbF
 refine T0 (QlV s1 (h_s1)) (fun x_1 hv2=>?_)
 exact T3
theorem Qsy (v1:QO)(h_v1:Qcw v1):Qf (QgV v1) fun r=>True:=by
 unfold QgV
 refine T0 (P:=fun _=>True) ?_ (fun x_1 hv2=>?_)
 ·unfold Ql5
  refine T0 (Qit v1.Name (h_v1.1)) (fun x_3 hv4=>?_)
  refine T1 (fun hc5=>?_) (fun hc5=>?_)
  ·refine T1 (fun hc6=>?_) (fun hc6=>?_)
   ·exact T3
   refine T0 (Qkn v1.Names (h_v1.2.2.2.2.1)) (fun x_7 hv8=>?_)
   exact T3
  exact T3
 unfold QeY
 exact T3
theorem QuT (v1:Qk)(v2:Int)(v3:Int)(v4:QO)(v5:Int)(h_v1:QU v1)(h_v4:Qcw v4)(hp0:0≤v2)(hp1:v2<v1.Colours.length):Qf (QiS v1 v2 v3 v4 v5) fun r=>True:=by
 unfold QiS
 refine T0 (Qsx v1 v2 (h_v1) (by omega) (by omega)) (fun x_1 hv2=>?_)
 refine T1 (fun hc3=>?_) (fun hc3=>?_)
 ·exact T3
 refine T0 (Qsy v4 (h_v4)) (fun x_4 hv5=>?_)
 refine T1 (fun hc6=>?_) (fun hc6=>?_)
 ·exact T3
 exact T3
theorem Qt4 (k1:Int)(c2:QO)(v3:Qk)(h_c2:Qcw c2)(h_v3:QU v3)(hp0:0≤k1)(hp1:k1<v3.Colours.length):Qf (Qh4 k1 c2 v3) fun r=>True:=by
 unfold Qh4
 refine T0 (QuT v3 k1 8 c2 8 (h_v3) (h_c2) (by omega) (by omega)) (fun x_1 hv2=>?_)
 exact T3
theorem QpF (l1:(List QO))(v2:Qk)(h_l1:(QM Qcw) l1)(h_v2:QU v2)(hp0:l1.length≤v2.Colours.length):Qf (Qew l1 v2) fun r=>True:=by
 unfold Qew
 refine T0 (Qf.up (l1.length) (fun st=>st) (fun _=>True) (Q:=fun q=>True) rfl trivial (fun i2 st hi3 hn4 hj5=>?_)) (fun q6 hq7=>?_)
 ·obtain⟨x_1,hst⟩:∃y,y=st:=⟨_,rfl⟩
  subst hst
  replace hi3:x_1=(i2:Int):=hi3
  show Qf (Qdq l1 v2 x_1) _
  unfold Qdq
  refine T1 (fun hc8=>?_) (fun hc8=>?_)
  ·refine T0 (T4 (by omega) (by simp_all)) (fun e_9 hv10=>?_)
   refine T0 (Qt4 x_1 e_9 v2 (((h_l1).2 e_9 hv10)) (h_v2) (by omega) (by simp_all;omega)) (fun x_11 hv12=>?_)
   refine T1 (fun hc13=>?_) (fun hc13=>?_)
   ·exact T2 (Qn trivial)
   exact T2 (Qy ⟨(by simp_all),by subst hi3;exact Qw (by simp_all) (h_l1).1,trivial⟩)
  exact T2 (Qn trivial)
 rcases q6 with q6 | q6
 ·show Qf (Qdr q6.1 q6.2) _
  unfold Qdr
  exact T3
 show Qf (Qds) _
 unfold Qds
 exact T3
theorem Qpi (n1:Qk)(h_n1:QU n1):Qf (Qhp n1) fun r=>True:=by
 unfold Qhp
 refine T0 (QpF n1.Colours n1 (h_n1.1) (h_n1) (by omega)) (fun x_1 hv2=>?_)
 exact T3
theorem QvP (v1:QW)(h_v1:Qc8 v1):Qf (QjX v1) fun r=>True:=by
 unfold QjX
 refine T0 (Qit v1.Name (h_v1.1)) (fun x_1 hv2=>?_)
 exact T3
theorem QvQ (p1:QW)(v2:QW)(h_p1:Qc8 p1)(h_v2:Qc8 v2):Qf (QjY p1 v2) fun r=>True:=by
 unfold QjY
 exact T3
theorem Qi9 (s1:(List QW))(v2:QW)(h_s1:(QM Qc8) s1)(h_v2:Qc8 v2):Qf (Qbm s1 v2) fun r=>True:=by
 unfold Qbm
 refine T0 (Qf.up (s1.length) (fun st=>st) (fun _=>True) (Q:=fun q=>True) rfl trivial (fun i2 st hi3 hn4 hj5=>?_)) (fun q6 hq7=>?_)
 ·obtain⟨x_1,hst⟩:∃y,y=st:=⟨_,rfl⟩
  subst hst
  replace hi3:x_1=(i2:Int):=hi3
  show Qf (Qa0 s1 v2 x_1) _
  unfold Qa0
  refine T1 (fun hc8=>?_) (fun hc8=>?_)
  ·refine T0 (T4 (by omega) (by simp_all)) (fun e_9 hv10=>?_)
   refine T0 (QvQ e_9 v2 (((h_s1).2 e_9 hv10)) (h_v2)) (fun x_11 hv12=>?_)
   refine T1 (fun hc13=>?_) (fun hc13=>?_)
   ·exact T2 (Qn trivial)
   exact T2 (Qy ⟨(by simp_all),by subst hi3;exact Qw (by simp_all) (h_s1).1,trivial⟩)
  exact T2 (Qn trivial)
 rcases q6 with q6 | q6
 ·show Qf (Qa1 q6) _
  unfold Qa1
  exact T3
 show Qf (Qa2) _
 unfold Qa2
 exact T3
theorem QhR (s1:(List QW))(v2:QW)(h_s1:(QM Qc8) s1)(h_v2:Qc8 v2):Qf (Qa3 s1 v2) fun r=>True:=by
 unfold Qa3
 refine T0 (Qi9 s1 v2 (h_s1) (h_v2)) (fun x_1 hv2=>?_)
 exact T3
theorem QvR (v1:Qk)(v2:Int)(v3:QW)(h_v1:QU v1)(h_v3:Qc8 v3)(hp0:0≤v2)(hp1:v2<v1.Places.length):Qf (QjZ v1 v2 v3) fun r=>True:=by
 unfold QjZ
 refine T0 (T5 (by simp_all;omega)) (fun _ _=>?_)
 refine T0 (QhR ((v1.Places.drop 0).take (v2.toNat-0)) v3 (((h_v1.2.1).drop _).take _) (h_v3)) (fun x_1 hv2=>?_)
 exact T3
theorem Qjp (l1:(List QO))(k2:Int)(h_l1:(QM Qcw) l1):Qf (QcS l1 k2) fun r=>True:=by
 unfold QcS
 exact T3
theorem QvS (v1:Qk)(v2:QW)(h_v1:QU v1)(h_v2:Qc8 v2):Qf (Qj0 v1 v2) fun r=>True:=by
 unfold Qj0
 refine T0 (Qjp v1.Colours v2.Colour (h_v1.1)) (fun x_1 hv2=>?_)
 exact T3
theorem Qy7 (b1:(List (Int×Int)))(h_b1:(QM (fun _=>True)) b1):Qf (Qf1 b1) fun r=>True:=by
 unfold Qf1
 refine T0 (Qf.up (b1.length) (fun st=>st.2) (fun _=>True) (Q:=fun q=>True) rfl trivial (fun i3 st hi4 hn5 hj6=>?_)) (fun q7 hq8=>?_)
 ·obtain⟨last_1,x_2⟩:=st
  replace hi4:x_2=(i3:Int):=hi4
  show Qf (Qc2 b1 last_1 x_2) _
  unfold Qc2
  refine T1 (fun hc9=>?_) (fun hc9=>?_)
  ·refine T0 (T4 (by omega) (by simp_all)) (fun e_10 hv11=>?_)
   refine T1 (fun hc12=>?_) (fun hc12=>?_)
   ·exact T2 (Qn trivial)
   exact T2 (Qy ⟨(by simp_all),by subst hi4;exact Qw (by simp_all) (h_b1).1,trivial⟩)
  exact T2 (Qn trivial)
 rcases q7 with q7 | q7
 ·show Qf (Qla) _
  unfold Qla
  exact T3
 show Qf (Qlb) _
 unfold Qlb
 exact T3
theorem QvT (v1:QW)(h_v1:Qc8 v1):Qf (Qj1 v1) fun r=>True:=by
 unfold Qj1
 refine T0 (Qy7 v1.First (h_v1.2.2)) (fun x_1 hv2=>?_)
 exact T3
theorem Qjq (l1:(List QO))(k2:Int)(h_l1:(QM Qcw) l1):Qf (Qf3 l1 k2) fun r=>(True∧Qy6 r.2)∧(r.1=true→(0≤k2∧k2<r.2.sizes.length)∧r.2.k=k2∧r.2.all.length=r.2.sizes.length∧∀x∈r.2.sizes,1≤x∧x≤1024):=by
 unfold Qf3
 refine T0 (Qqw l1 h_l1) fun x hx=>?_
 refine T1 (fun _=>T2 ⟨⟨trivial,QM.nil,QM.nil,trivial⟩,fun h=>by cases h⟩) fun hc=>?_
 simp only [QcZ,QiB,QY]at hc
 have:=hx.2 hc.1
 exact T2 ⟨⟨trivial,h_l1,hx.1.1,trivial⟩,fun _=>⟨⟨by omega,by show k2<(x.1.length:Int);omega⟩,rfl,this.1.symm,this.2⟩⟩
theorem Qkj (l1:(List QO))(k2:Int)(h_l1:(QM Qcw) l1):Qf (Qbd l1 k2) fun r=>0≤r∧r≤1024:=by
 unfold Qbd
 refine T0 (Qjq l1 k2 h_l1) (fun x hx=>?_)
 refine T1 (fun hc=>T2 (by omega)) (fun hc=>?_)
 have h:=hx.2 (by simpa using hc)
 exact T0 (T4 (by omega) (by omega)) fun e he=>T2 (by have:=h.2.2.2 e he;omega)
theorem Qt5 (row1:(Int×Int))(v2:Int)  : Qf (Qh5 row1 v2) fun r=>True:=by
 unfold Qh5
 exact T3
theorem QlW (s1:(List (Int×Int)))(v2:Int)(h_s1:(QM (fun _=>True)) s1):Qf (Qce s1 v2) fun r=>True:=by
 unfold Qce
 refine T0 (Qf.up (s1.length) (fun st=>st) (fun _=>True) (Q:=fun q=>True) rfl trivial (fun i2 st hi3 hn4 hj5=>?_)) (fun q6 hq7=>?_)
 ·obtain⟨x_1,hst⟩:∃y,y=st:=⟨_,rfl⟩
  subst hst
  replace hi3:x_1=(i2:Int):=hi3
  show Qf (QbG s1 v2 x_1) _
  unfold QbG
  refine T1 (fun hc8=>?_) (fun hc8=>?_)
  ·refine T0 (T4 (by omega) (by simp_all)) (fun e_9 hv10=>?_)
   refine T0 (Qt5 e_9 v2 ) (fun x_11 hv12=>?_)
   refine T1 (fun hc13=>?_) (fun hc13=>?_)
   ·exact T2 (Qn trivial)
   exact T2 (Qy ⟨(by simp_all),by subst hi3;exact Qw (by simp_all) (h_s1).1,trivial⟩)
  exact T2 (Qn trivial)
 rcases q6 with q6 | q6
 ·show Qf (QbH q6) _
  unfold QbH
  exact T3
 show Qf (QbI) _
 unfold QbI
 exact T3
theorem Qko (s1:(List (Int×Int)))(v2:Int)(h_s1:(QM (fun _=>True)) s1):Qf (QbJ s1 v2) fun r=>True:=by
 unfold QbJ
 refine T0 (QlW s1 v2 (h_s1)) (fun x_1 hv2=>?_)
 exact T3
theorem QvU (v1:Qk)(v2:QW)(h_v1:QU v1)(h_v2:Qc8 v2):Qf (Qj2 v1 v2) fun r=>True:=by
 unfold Qj2
 refine T0 (Qkj v1.Colours v2.Colour (h_v1.1)) (fun x_1 hv2=>?_)
 refine T0 (Qko v2.First x_1 (h_v2.2.2)) (fun x_3 hv4=>?_)
 exact T3
theorem QuU (v1:QW)(v2:Int)(v3:Qk)(v4:Int)(v5:Int)(v6:Int)(v7:Int)(v8:Int)(h_v1:Qc8 v1)(h_v3:QU v3)(hp0:0≤v4)(hp1:v4<v3.Places.length):Qf (QiU v1 v2 v3 v4 v5 v6 v7 v8) fun r=>True:=by
 unfold QiU
 refine T0 (QvP v1 (h_v1)) (fun x_1 hv2=>?_)
 refine T1 (fun hc3=>?_) (fun hc3=>?_)
 ·exact T3
 refine T0 (QvR v3 v4 v1 (h_v3) (h_v1) (by omega) (by omega)) (fun x_4 hv5=>?_)
 refine T1 (fun hc6=>?_) (fun hc6=>?_)
 ·exact T3
 refine T0 (QvS v3 v1 (h_v3) (h_v1)) (fun x_7 hv8=>?_)
 refine T1 (fun hc9=>?_) (fun hc9=>?_)
 ·exact T3
 refine T0 (QvT v1 (h_v1)) (fun x_10 hv11=>?_)
 refine T1 (fun hc12=>?_) (fun hc12=>?_)
 ·exact T3
 refine T0 (QvU v3 v1 (h_v3) (h_v1)) (fun x_13 hv14=>?_)
 refine T1 (fun hc15=>?_) (fun hc15=>?_)
 ·exact T3
 exact T3
theorem Qxz (n1:Qk)(k2:Int)(h_n1:QU n1):Qf (QmC n1 k2) fun r=>True:=by
 unfold QmC
 refine T0 (QcI n1.Places k2 (h_n1.2.1)) (fun x_1 hv2=>?_)
 refine T1 (fun hc3=>?_) (fun hc3=>?_)
 ·exact T3
 refine T0 (T4 (by simp_all) (by simp_all)) (fun e_4 hv5=>?_)
 refine T0 (QuU e_4 1 n1 k2 5 3 1 8 (((h_n1.2.1).2 e_4 hv5)) (h_n1) (by simp_all) (by simp_all)) (fun x_6 hv7=>?_)
 exact T3
theorem QxA (k1:Int)(p2:QW)(v3:Qk)(h_p2:Qc8 p2)(h_v3:QU v3):Qf (QmD k1 p2 v3) fun r=>True:=by
 unfold QmD
 refine T0 (Qxz v3 k1 (h_v3)) (fun x_1 hv2=>?_)
 exact T3
theorem Qqx (l1:(List QW))(v2:Qk)(h_l1:(QM Qc8) l1)(h_v2:QU v2):Qf (QeZ l1 v2) fun r=>True:=by
 unfold QeZ
 refine T0 (Qf.up (l1.length) (fun st=>st) (fun _=>True) (Q:=fun q=>True) rfl trivial (fun i2 st hi3 hn4 hj5=>?_)) (fun q6 hq7=>?_)
 ·obtain⟨x_1,hst⟩:∃y,y=st:=⟨_,rfl⟩
  subst hst
  replace hi3:x_1=(i2:Int):=hi3
  show Qf (QdP l1 v2 x_1) _
  unfold QdP
  refine T1 (fun hc8=>?_) (fun hc8=>?_)
  ·refine T0 (T4 (by omega) (by simp_all)) (fun e_9 hv10=>?_)
   refine T0 (QxA x_1 e_9 v2 (((h_l1).2 e_9 hv10)) (h_v2)) (fun x_11 hv12=>?_)
   refine T1 (fun hc13=>?_) (fun hc13=>?_)
   ·exact T2 (Qn trivial)
   exact T2 (Qy ⟨(by simp_all),by subst hi3;exact Qw (by simp_all) (h_l1).1,trivial⟩)
  exact T2 (Qn trivial)
 rcases q6 with q6 | q6
 ·show Qf (QdQ q6.1 q6.2) _
  unfold QdQ
  exact T3
 show Qf (QdR) _
 unfold QdR
 exact T3
theorem QkS (l1:(List QA))(k2:Int)(h_l1:(QM QaP) l1):Qf (Qdh l1 k2) fun r=>r=true→0≤k2∧k2<l1.length:=by
 unfold Qdh
 exact T2 (by first | (intro hr;first | (cases hr;done) | omega | ((try simp only [Qz,QdN,QcZ,Qfg,QiB,Qx,QY,beq_iff_eq,bne_iff_ne,ne_eq,Qpl,QqQ,QfJ,Qnb,Qna,Qmr,Qfh,QeU,Qm4,Qm5,QlI]at *);omega)) | ((try simp only [Qz,QdN,QcZ,Qfg,QiB,Qx,QY,beq_iff_eq,bne_iff_ne,ne_eq,Qpl,QqQ,QfJ,Qnb,Qna,Qmr,Qfh,QeU,Qm4,Qm5,QlI]at *);omega) | simp_all)
theorem QxB (v1:Int)(v2:Qk)(v3:QA)(h_v2:QU v2)(h_v3:QaP v3):Qf (QmE v1 v2 v3) fun r=>True:=by
 unfold QmE
 exact T3
theorem QuV (v1:Int)(v2:Qk)(v3:QA)(v4:Int)(h_v2:QU v2)(h_v3:QaP v3):Qf (QiV v1 v2 v3 v4) fun r=>True:=by
 unfold QiV
 exact T3
theorem QuW (v1:Int)(v2:Qk)(v3:QA)(v4:Int)(h_v2:QU v2)(h_v3:QaP v3):Qf (QiW v1 v2 v3 v4) fun r=>True:=by
 unfold QiW
 exact T3
theorem QuX (v1:Int)(v2:Qk)(v3:QA)(h_v2:QU v2)(h_v3:QaP v3):Qf (QiX v1 v2 v3) fun r=>True:=by
 unfold QiX
 exact T3
theorem QwA (v1:QA)(h_v1:QaP v1):Qf (Qls v1) fun r=>True:=by
 unfold Qls
 refine T0 (Qit v1.Name (h_v1.1)) (fun x_1 hv2=>?_)
 exact T3
theorem QwB (p1:QA)(v2:QA)(h_p1:QaP p1)(h_v2:QaP v2):Qf (Qlt p1 v2) fun r=>True:=by
 unfold Qlt
 exact T3
theorem QjE (s1:(List QA))(v2:QA)(h_s1:(QM QaP) s1)(h_v2:QaP v2):Qf (Qbz s1 v2) fun r=>True:=by
 unfold Qbz
 refine T0 (Qf.up (s1.length) (fun st=>st) (fun _=>True) (Q:=fun q=>True) rfl trivial (fun i2 st hi3 hn4 hj5=>?_)) (fun q6 hq7=>?_)
 ·obtain⟨x_1,hst⟩:∃y,y=st:=⟨_,rfl⟩
  subst hst
  replace hi3:x_1=(i2:Int):=hi3
  show Qf (Qbe s1 v2 x_1) _
  unfold Qbe
  refine T1 (fun hc8=>?_) (fun hc8=>?_)
  ·refine T0 (T4 (by omega) (by simp_all)) (fun e_9 hv10=>?_)
   refine T0 (QwB e_9 v2 (((h_s1).2 e_9 hv10)) (h_v2)) (fun x_11 hv12=>?_)
   refine T1 (fun hc13=>?_) (fun hc13=>?_)
   ·exact T2 (Qn trivial)
   exact T2 (Qy ⟨(by simp_all),by subst hi3;exact Qw (by simp_all) (h_s1).1,trivial⟩)
  exact T2 (Qn trivial)
 rcases q6 with q6 | q6
 ·show Qf (Qbf q6) _
  unfold Qbf
  exact T3
 show Qf (Qbg) _
 unfold Qbg
 exact T3
theorem Qiw (s1:(List QA))(v2:QA)(h_s1:(QM QaP) s1)(h_v2:QaP v2):Qf (Qbh s1 v2) fun r=>True:=by
 unfold Qbh
 refine T0 (QjE s1 v2 (h_s1) (h_v2)) (fun x_1 hv2=>?_)
 exact T3
theorem QwC (v1:Qk)(v2:Int)(v3:QA)(h_v1:QU v1)(h_v3:QaP v3)(hp0:0≤v2)(hp1:v2<v1.Tasks.length):Qf (Qlu v1 v2 v3) fun r=>True:=by
 unfold Qlu
 refine T0 (T5 (by simp_all;omega)) (fun _ _=>?_)
 refine T0 (Qiw ((v1.Tasks.drop 0).take (v2.toNat-0)) v3 (((h_v1.2.2.1).drop _).take _) (h_v3)) (fun x_1 hv2=>?_)
 exact T3
theorem QwD (v1:Int)(v2:QA)(h_v2:QaP v2):Qf (Qik v1 v2) fun r=>True:=by
 unfold Qik
 exact T3
theorem QqL (v1:QaA)(h_v1:QeH v1):Qf (Qfp v1) fun r=>True:=by
 unfold Qfp
 refine T0 (Qit v1.Name (h_v1.1)) (fun x_1 hv2=>?_)
 exact T3
theorem QqM (p1:QaA)(v2:QaA)(h_p1:QeH p1)(h_v2:QeH v2):Qf (Qfq p1 v2) fun r=>True:=by
 unfold Qfq
 exact T3
theorem QkT (s1:(List QaA))(v2:QaA)(h_s1:(QM QeH) s1)(h_v2:QeH v2):Qf (QbT s1 v2) fun r=>True:=by
 unfold QbT
 refine T0 (Qf.up (s1.length) (fun st=>st) (fun _=>True) (Q:=fun q=>True) rfl trivial (fun i2 st hi3 hn4 hj5=>?_)) (fun q6 hq7=>?_)
 ·obtain⟨x_1,hst⟩:∃y,y=st:=⟨_,rfl⟩
  subst hst
  replace hi3:x_1=(i2:Int):=hi3
  show Qf (Qbp s1 v2 x_1) _
  unfold Qbp
  refine T1 (fun hc8=>?_) (fun hc8=>?_)
  ·refine T0 (T4 (by omega) (by simp_all)) (fun e_9 hv10=>?_)
   refine T0 (QqM e_9 v2 (((h_s1).2 e_9 hv10)) (h_v2)) (fun x_11 hv12=>?_)
   refine T1 (fun hc13=>?_) (fun hc13=>?_)
   ·exact T2 (Qn trivial)
   exact T2 (Qy ⟨(by simp_all),by subst hi3;exact Qw (by simp_all) (h_s1).1,trivial⟩)
  exact T2 (Qn trivial)
 rcases q6 with q6 | q6
 ·show Qf (Qbq q6) _
  unfold Qbq
  exact T3
 show Qf (Qbr) _
 unfold Qbr
 exact T3
theorem Qjr (s1:(List QaA))(v2:QaA)(h_s1:(QM QeH) s1)(h_v2:QeH v2):Qf (Qbs s1 v2) fun r=>True:=by
 unfold Qbs
 refine T0 (QkT s1 v2 (h_s1) (h_v2)) (fun x_1 hv2=>?_)
 exact T3
theorem QqN (v1:(List QaA))(v2:Int)(v3:QaA)(h_v1:(QM QeH) v1)(h_v3:QeH v3)(hp0:0≤v2)(hp1:v2<v1.length):Qf (Qfr v1 v2 v3) fun r=>True:=by
 unfold Qfr
 refine T0 (T5 (by simp_all;omega)) (fun _ _=>?_)
 refine T0 (Qjr ((v1.drop 0).take (v2.toNat-0)) v3 (((h_v1).drop _).take _) (h_v3)) (fun x_1 hv2=>?_)
 exact T3
theorem QqO (v1:Qk)(v2:QaA)(h_v1:QU v1)(h_v2:QeH v2):Qf (Qfs v1 v2) fun r=>True:=by
 unfold Qfs
 refine T0 (Qjp v1.Colours v2.Colour (h_v1.1)) (fun x_1 hv2=>?_)
 exact T3
theorem QuY (v1:QaA)(v2:Int)(v3:(List QaA))(v4:Int)(v5:Int)(v6:Qk)(v7:Int)(h_v1:QeH v1)(h_v3:(QM QeH) v3)(h_v6:QU v6)(hp0:0≤v4)(hp1:v4<v3.length):Qf (QiZ v1 v2 v3 v4 v5 v6 v7) fun r=>True:=by
 unfold QiZ
 refine T0 (QqL v1 (h_v1)) (fun x_1 hv2=>?_)
 refine T1 (fun hc3=>?_) (fun hc3=>?_)
 ·exact T3
 refine T0 (QqN v3 v4 v1 (h_v3) (h_v1) (by omega) (by omega)) (fun x_4 hv5=>?_)
 refine T1 (fun hc6=>?_) (fun hc6=>?_)
 ·exact T3
 refine T0 (QqO v6 v1 (h_v6) (h_v1)) (fun x_7 hv8=>?_)
 refine T1 (fun hc9=>?_) (fun hc9=>?_)
 ·exact T3
 exact T3
theorem Qsz (k1:Int)(v2:QaA)(v3:(List QaA))(v4:Qk)(h_v2:QeH v2)(h_v3:(QM QeH) v3)(h_v4:QU v4)(hp0:0≤k1)(hp1:k1<v3.length):Qf (QgW k1 v2 v3 v4) fun r=>True:=by
 unfold QgW
 refine T0 (QuY v2 1 v3 k1 5 v4 3 (h_v2) (h_v3) (h_v4) (by omega) (by omega)) (fun x_1 hv2=>?_)
 exact T3
theorem QrY (l1:(List QaA))(v2:(List QaA))(v3:Qk)(h_l1:(QM QeH) l1)(h_v2:(QM QeH) v2)(h_v3:QU v3)(hp0:l1.length≤v2.length):Qf (QfR l1 v2 v3) fun r=>True:=by
 unfold QfR
 refine T0 (Qf.up (l1.length) (fun st=>st) (fun _=>True) (Q:=fun q=>True) rfl trivial (fun i2 st hi3 hn4 hj5=>?_)) (fun q6 hq7=>?_)
 ·obtain⟨x_1,hst⟩:∃y,y=st:=⟨_,rfl⟩
  subst hst
  replace hi3:x_1=(i2:Int):=hi3
  show Qf (Qex l1 v2 v3 x_1) _
  unfold Qex
  refine T1 (fun hc8=>?_) (fun hc8=>?_)
  ·refine T0 (T4 (by omega) (by simp_all)) (fun e_9 hv10=>?_)
   refine T0 (Qsz x_1 e_9 v2 v3 (((h_l1).2 e_9 hv10)) (h_v2) (h_v3) (by omega) (by simp_all;omega)) (fun x_11 hv12=>?_)
   refine T1 (fun hc13=>?_) (fun hc13=>?_)
   ·exact T2 (Qn trivial)
   exact T2 (Qy ⟨(by simp_all),by subst hi3;exact Qw (by simp_all) (h_l1).1,trivial⟩)
  exact T2 (Qn trivial)
 rcases q6 with q6 | q6
 ·show Qf (Qey q6.1 q6.2) _
  unfold Qey
  exact T3
 show Qf (Qez) _
 unfold Qez
 exact T3
theorem Qt6 (n1:Qk)(l2:(List QaA))(h_n1:QU n1)(h_l2:(QM QeH) l2):Qf (Qh6 n1 l2) fun r=>True:=by
 unfold Qh6
 refine T0 (QrY l2 l2 n1 (h_l2) (h_l2) (h_n1) (by omega)) (fun x_1 hv2=>?_)
 exact T3
theorem QwE (v1:Qk)(v2:QA)(h_v1:QU v1)(h_v2:QaP v2):Qf (Qlv v1 v2) fun r=>True:=by
 unfold Qlv
 refine T0 (Qt6 v1 v2.Vars (h_v1) (h_v2.2.1)) (fun x_1 hv2=>?_)
 exact T3
theorem QvV (v1:Qk)(v2:QA)(v3:Int)(h_v1:QU v1)(h_v2:QaP v2):Qf (Qj4 v1 v2 v3) fun r=>True:=by
 unfold Qj4
 refine T0 (QwE v1 v2 (h_v1) (h_v2)) (fun x_1 hv2=>?_)
 exact T3
theorem Qrx (n1:Qk)(k2:Int)(h_n1:QU n1):Qf (Qjj n1 k2) fun r=>True:=by
 unfold Qjj
 refine T0 (QkS n1.Tasks k2 (h_n1.2.2.1)) (fun x_1 hv2=>?_)
 refine T1 (fun hc3=>?_) (fun hc3=>?_)
 ·exact T3
 refine T0 (T4 (by simp_all) (by simp_all)) (fun e_4 hv5=>?_)
 refine T0 (Qf.up (e_4.Vars.length) (fun st=>st.2) (fun _=>True) (Q:=fun q=>True) rfl trivial (fun i8 st hi9 hn10 hj11=>?_)) (fun q12 hq13=>?_)
 ·obtain⟨out_6,x_7⟩:=st
  replace hi9:x_7=(i8:Int):=hi9
  show Qf (Qi0 e_4 n1 out_6 x_7) _
  unfold Qi0
  refine T1 (fun hc14=>?_) (fun hc14=>?_)
  ·refine T0 (T4 (by omega) (by simp_all)) (fun e_15 hv16=>?_)
   refine T0 (Qkj n1.Colours e_15.Colour (h_n1.1)) (fun x_17 hv18=>?_)
   refine T1 (fun hc19=>?_) (fun hc19=>?_)
   ·exact T2 (Qn trivial)
   exact T2 (Qy ⟨(by simp_all),by subst hi9;exact Qw (by simp_all) (((h_n1.2.2.1).2 e_4 hv5).2.1).1,trivial⟩)
  exact T2 (Qn trivial)
 rcases q12 with q12 | q12
 ·show Qf (Qi1) _
  unfold Qi1
  exact T3
 show Qf (Qi2 q12) _
 unfold Qi2
 exact T3
theorem QwF (v1:Qk)(v2:Int)(h_v1:QU v1):Qf (Qlw v1 v2) fun r=>True:=by
 unfold Qlw
 refine T0 (Qrx v1 v2 (h_v1)) (fun x_1 hv2=>?_)
 exact T3
theorem Qy8 (kind1:Int):Qf (Qor kind1) fun r=>0≤r→(kind1=1∨kind1=2∨kind1=3∨kind1=4∨kind1=5∨kind1=6)∧(kind1=3∨kind1=4→r=1)∧(kind1=5→r=2)∧(kind1=6→r=3):=by
 unfold Qor
 refine T1 (fun hc=>?_) (fun hc=>?_)
 ·unfold Qim;rw [hc]
  simp only [beq_iff_eq]at hc
  exact T2 (by omega)
 simp only [beq_eq_false_iff_ne]at hc
 unfold Qim
 refine T1 (fun hc=>T2 (by simp only [beq_iff_eq]at hc;omega)) (fun hc2=>?_)
 simp only [beq_eq_false_iff_ne]at hc2
 refine T1 (fun hc3=>?_) (fun hc3=>?_)
 ·unfold Qil;rw [hc3]
  simp only [beq_iff_eq]at hc3
  exact T2 (by omega)
 simp only [beq_eq_false_iff_ne]at hc3
 unfold Qil
 refine T1 (fun hc=>T2 (by simp only [beq_iff_eq]at hc;omega)) (fun hc4=>?_)
 simp only [beq_eq_false_iff_ne]at hc4
 refine T1 (fun hc=>T2 (by simp only [beq_iff_eq]at hc;omega)) (fun hc5=>?_)
 simp only [beq_eq_false_iff_ne]at hc5
 exact T1 (fun hc=>T2 (by simp only [beq_iff_eq]at hc;omega)) (fun hc6=>T2 (by omega))
theorem Qyh (op1:Int)  : Qf (Qnr op1) fun r=>True:=by
 unfold Qnr
 exact T3
theorem Qob (rec_:Ql→Int→Option Bool)(s1:List Ql)(v2:Int)(h1:s1.length≤maxLen)(h:∀k∈s1,Qf (rec_ k v2) fun r=>r=true→POk v2 k):Qf (Qbj rec_ s1 v2) fun r=>r=false→∀k∈s1,POk v2 k:=by
 unfold Qbj QcT
 refine T0 (P:=fun x=>x<0→∀k∈s1,POk v2 k) ?_ fun x hx=>T2 fun h=>hx (by simp only [QY]at h;omega)
 refine T0 (Qf.up s1.length (fun st=>st) (fun st=>∀(j:Nat) k,(j:Int)<st→s1[j]? = some k→POk v2 k) (Q:=fun q=>(∀x,q=.inl x→0≤x)∧(q=.inr ()→∀k∈s1,POk v2 k)) rfl (fun j k hj=>by omega) (fun i st hi hn hj=>?_)) (fun q hq=>?_)
 ·show Qf (Qbi s1 rec_ v2 st) _
  unfold Qbi Qn6
  refine T1 (fun hc=>?_) (fun hc=>T2 (Qn ⟨fun x h=>(by cases h),fun _ k hk=>by
   obtain⟨j,hj1,hj2⟩:=Qk1.1 hk
   simp only [QY]at hc
   exact hj j k (by omega) (by rw [QD hj1,hj2])⟩))
  simp only [Qx]at hc
  rw [Qm3 (by omega)]
  have hlt:st.toNat<s1.length:=by omega
  rw [QD hlt]
  refine T0 (P:=fun k=>k=s1[st.toNat]) (T2 rfl) fun k hk=>?_
  subst hk
  refine T0 (P:=fun r=>r=false→POk v2 s1[st.toNat]) (T0 (h _ (QaQ hlt)) fun x hx=>T2 fun h=>hx (by simpa using h)) fun x hx=>?_
  refine T1 (fun _=>T2 (Qn ⟨fun x h=>(by cases h;omega),fun h=>(by cases h)⟩)) fun hxf=>T2 (Qy ⟨by omega,by rw [hi];exact Qw (by omega) h1,?_⟩)
  rw [hi,Qw (show i<s1.length by omega) h1]
  intro j k hj' hk
  by_cases c:j=i
  ·subst c
   have e:st.toNat=j:=by omega
   have:=hx hxf
   rw [QD (by omega)]at hk
   cases hk
   simpa only [e] using this
  exact hj j k (by omega) hk
 rcases q with q | q
 ·exact T2 fun h=>absurd (hq.1 q rfl) (by omega)
 exact T2 fun _=>hq.2 rfl
theorem Qqy : ∀(n:Nat) (e:Ql) (v:Int),QdL e→SizeOf.sizeOf e≤n→Qf (QeO n e v) fun r=>r=true→POk v e
 | 0,e,_,_,h=>absurd e.pos (by omega)
 | n+1,e,v,he,h=>by
  unfold QeO Qn7
  refine T0 (Qy8 e.Kind) fun x hx=>?_
  refine T1 (fun _=>T2 fun h=>by cases h) fun h1=>T1 (fun _=>T2 fun h=>by cases h) fun h2=>?_
  refine T0 (P:=fun _=>True) ?_ fun y _=>?_
  ·unfold Qrg
   exact T1 (fun _=>T0 (Qyh e.Num) fun x _=>T3) fun _=>T3
  unfold Qj6
  refine T1 (fun _=>T2 fun h=>by cases h) fun _=>?_
  refine T0 (Qob (QeO n) e.Kids v (Qfe he).1 fun k hk=>Qqy n k v ((Qfe he).2 k hk) (by have:=QuS hk;omega)) fun x hx2=>T2 fun hx3=>?_
  simp only [bne_eq_false_iff_eq]at h1
  have h3:=hx (by omega)
  simp only [Bool.and_eq_false_iff,QcZ,QY,beq_eq_false_iff_ne]at h2
  exact .mk e h3.1 (fun hk=>by omega) (fun hk=>by have:=h3.2.1 hk;omega) (fun hk=>by have:=h3.2.2.1 hk;omega) (fun hk=>by have:=h3.2.2.2 hk;omega) (hx2 (by simpa using hx3))
theorem Qyi (e1:Ql)(vars2:Int)(h_e1:QdL e1):Qf (Qql e1 vars2) fun r=>r=true→POk vars2 e1:=Qqy _ e1 vars2 h_e1 (QbY _)
theorem Qqz : ∀(n:Nat) (e:Ql),QdL e→SizeOf.sizeOf e≤n→Qf (QeN n e) fun _=>True
 | 0,e,_,h=>absurd e.pos (by omega)
 | n+1,e,he,h=>by
  unfold QeN Qn4
  refine T0 (Qf.up e.Kids.length (fun st=>st.2) (fun _=>True) (Q:=fun _=>True) rfl trivial (fun i st hi hn _=>?_)) (fun q _=>?_)
  ·obtain⟨a,x⟩:=st
   replace hi:x=(i:Int):=hi
   show Qf (Qj5 e (QeN n) a x) _
   unfold Qj5
   refine T1 (fun hc=>?_) (fun hc=>?_)
   ·simp only [Qx]at hc
    refine T0 (T4 (by omega) (by omega)) fun k hk=>?_
    have:=QuS hk
    refine T0 (Qqz n k ((Qfe he).2 k hk) (by omega)) fun d _=>?_
    exact T2 (Qy ⟨by omega,by subst hi;exact Qw (by omega) (Qfe he).1,trivial⟩)
   exact T2 (Qn trivial)
  unfold Qnq
  exact T3
theorem Qyj (e1:Ql)(h_e1:QdL e1):Qf (Qqj e1) fun _=>True:=Qqz _ e1 h_e1 (QbY _)
theorem Qry : ∀(n:Nat) (e:Ql),QdL e→SizeOf.sizeOf e≤n→Qf (QfD n e) fun _=>True
 | 0,e,_,h=>absurd e.pos (by omega)
 | n+1,e,he,h=>by
  unfold QfD QoR
  refine T0 (Qf.up e.Kids.length (fun st=>st.2) (fun _=>True) (Q:=fun _=>True) rfl trivial (fun i st hi hn _=>?_)) (fun q _=>?_)
  ·obtain⟨a,x⟩:=st
   replace hi:x=(i:Int):=hi
   show Qf (Qlx e (QfD n) a x) _
   unfold Qlx
   refine T1 (fun hc=>?_) (fun hc=>?_)
   ·simp only [Qx]at hc
    refine T0 (T4 (by omega) (by omega)) fun k hk=>?_
    have:=QuS hk
    refine T0 (Qry n k ((Qfe he).2 k hk) (by omega)) fun d _=>?_
    exact T2 (Qy ⟨by omega,by subst hi;exact Qw (by omega) (Qfe he).1,trivial⟩)
   exact T2 (Qn trivial)
  unfold Qn5
  exact T3
theorem Qy9 (e1:Ql)(h_e1:QdL e1):Qf (QrS e1) fun _=>True:=Qry _ e1 h_e1 (QbY _)
theorem Qoc (e1:Ql)(vars2:Int)(h_e1:QdL e1):Qf (Qio e1 vars2) fun r=>r=true→POk vars2 e1:=by
 unfold Qio
 refine T0 (P:=fun r=>r=true→POk vars2 e1) ?_ (fun x hx=>T2 hx)
 unfold Qrh
 refine T0 (Qyj e1 h_e1) (fun x _=>?_)
 refine T1 (fun _=>?_) (fun _=>T2 fun h=>by cases h)
 refine T0 (Qy9 e1 h_e1) (fun x _=>?_)
 refine T1 (fun _=>?_) (fun _=>T2 fun h=>by cases h)
 exact T0 (Qyi e1 vars2 h_e1) (fun x hx=>T2 hx)
theorem QwG (v1:QA)(v2:Int)(h_v1:QaP v1):Qf (Qly v1 v2) fun r=>True:=by
 unfold Qly
 refine T0 (P:=fun _=>True) ?_ (fun x_1 hv2=>?_)
 ·unfold Qpe
  refine T0 (Qoc v1.Guard v2 (h_v1.2.2.1)) (fun x_3 hv4=>?_)
  refine T1 (fun hc5=>?_) (fun hc5=>?_)
  ·refine T1 (fun hc6=>?_) (fun hc6=>?_)
   ·exact T3
   exact T3
  exact T3
 unfold Qh7
 exact T3
theorem QuZ (v1:Qk)(v2:QX)(h_v1:QU v1)(h_v2:Qjo v2):Qf (Qi3 v1 v2) fun r=>True:=by
 unfold Qi3
 refine T0 (QcI v1.Places v2.Place (h_v1.2.1)) (fun x_1 hv2=>?_)
 exact T3
theorem Qu0 (v1:QX)(v2:Int)(h_v1:Qjo v1):Qf (Qi4 v1 v2) fun r=>True:=by
 unfold Qi4
 refine T0 (Qoc v1.Expr v2 (h_v1.2)) (fun x_1 hv2=>?_)
 exact T3
theorem Qu1 (v1:Qk)(v2:QX)(v3:Int)(v4:Int)(v5:Int)(h_v1:QU v1)(h_v2:Qjo v2):Qf (Qi5 v1 v2 v3 v4 v5) fun r=>True:=by
 unfold Qi5
 refine T0 (QuZ v1 v2 (h_v1) (h_v2)) (fun x_1 hv2=>?_)
 refine T1 (fun hc3=>?_) (fun hc3=>?_)
 ·exact T3
 refine T0 (Qu0 v2 v4 (h_v2)) (fun x_4 hv5=>?_)
 refine T1 (fun hc6=>?_) (fun hc6=>?_)
 ·exact T3
 exact T3
theorem QwH (p1:Int)(a2:QX)(v3:Qk)(v4:Int)(h_a2:Qjo a2)(h_v3:QU v3):Qf (Qlz p1 a2 v3 v4) fun r=>True:=by
 unfold Qlz
 refine T0 (Qu1 v3 a2 3 v4 1 (h_v3) (h_a2)) (fun x_1 hv2=>?_)
 exact T3
theorem QrZ (l1:(List QX))(v2:Qk)(v3:Int)(h_l1:(QM Qjo) l1)(h_v2:QU v2):Qf (QfS l1 v2 v3) fun r=>True:=by
 unfold QfS
 refine T0 (Qf.up (l1.length) (fun st=>st) (fun _=>True) (Q:=fun q=>True) rfl trivial (fun i2 st hi3 hn4 hj5=>?_)) (fun q6 hq7=>?_)
 ·obtain⟨x_1,hst⟩:∃y,y=st:=⟨_,rfl⟩
  subst hst
  replace hi3:x_1=(i2:Int):=hi3
  show Qf (QeA l1 v2 v3 x_1) _
  unfold QeA
  refine T1 (fun hc8=>?_) (fun hc8=>?_)
  ·refine T0 (T4 (by omega) (by simp_all)) (fun e_9 hv10=>?_)
   refine T0 (QwH x_1 e_9 v2 v3 (((h_l1).2 e_9 hv10)) (h_v2)) (fun x_11 hv12=>?_)
   refine T1 (fun hc13=>?_) (fun hc13=>?_)
   ·exact T2 (Qn trivial)
   exact T2 (Qy ⟨(by simp_all),by subst hi3;exact Qw (by simp_all) (h_l1).1,trivial⟩)
  exact T2 (Qn trivial)
 rcases q6 with q6 | q6
 ·show Qf (QeB q6.1 q6.2) _
  unfold QeB
  exact T3
 show Qf (QeC) _
 unfold QeC
 exact T3
theorem QsA (n1:Qk)(l2:(List QX))(vars3:Int)(h_n1:QU n1)(h_l2:(QM Qjo) l2):Qf (QkI n1 l2 vars3) fun r=>True:=by
 unfold QkI
 refine T0 (QrZ l2 n1 vars3 (h_l2) (h_n1)) (fun x_1 hv2=>?_)
 exact T3
theorem QwI (v1:Qk)(v2:QA)(v3:Int)(h_v1:QU v1)(h_v2:QaP v2):Qf (QlA v1 v2 v3) fun r=>True:=by
 unfold QlA
 refine T0 (QsA v1 v2.Ins v3 (h_v1) (h_v2.2.2.2.2.2.1)) (fun x_1 hv2=>?_)
 exact T3
theorem Qtm (v1:Qk)(v2:QA)(v3:Int)(v4:Int)(h_v1:QU v1)(h_v2:QaP v2):Qf (Qhq v1 v2 v3 v4) fun r=>True:=by
 unfold Qhq
 refine T0 (QwI v1 v2 v3 (h_v1) (h_v2)) (fun x_1 hv2=>?_)
 exact T3
theorem QwJ (v1:Qk)(v2:QA)(v3:Int)(h_v1:QU v1)(h_v2:QaP v2):Qf (QlB v1 v2 v3) fun r=>True:=by
 unfold QlB
 refine T0 (QsA v1 v2.Outs v3 (h_v1) (h_v2.2.2.2.2.2.2.1)) (fun x_1 hv2=>?_)
 exact T3
theorem Qtn (v1:Qk)(v2:QA)(v3:Int)(v4:Int)(h_v1:QU v1)(h_v2:QaP v2):Qf (Qhr v1 v2 v3 v4) fun r=>True:=by
 unfold Qhr
 refine T0 (QwJ v1 v2 v3 (h_v1) (h_v2)) (fun x_1 hv2=>?_)
 exact T3
theorem QsB (v1:Qk)(v2:Int)(h_v1:QU v1):Qf (QgX v1 v2) fun r=>True:=by
 unfold QgX
 refine T0 (QcI v1.Places v2 (h_v1.2.1)) (fun x_1 hv2=>?_)
 exact T3
theorem QqA (s1:(List Int))(v2:Int)(h_s1:(QM (fun _=>True)) s1):Qf (Qe0 s1 v2) fun r=>True:=by
 unfold Qe0
 refine T0 (Qf.up (s1.length) (fun st=>st) (fun _=>True) (Q:=fun q=>True) rfl trivial (fun i2 st hi3 hn4 hj5=>?_)) (fun q6 hq7=>?_)
 ·obtain⟨x_1,hst⟩:∃y,y=st:=⟨_,rfl⟩
  subst hst
  replace hi3:x_1=(i2:Int):=hi3
  show Qf (QdS s1 v2 x_1) _
  unfold QdS
  refine T1 (fun hc8=>?_) (fun hc8=>?_)
  ·refine T0 (T4 (by omega) (by simp_all)) (fun e_9 hv10=>?_)
   refine T1 (fun hc11=>?_) (fun hc11=>?_)
   ·exact T2 (Qn trivial)
   exact T2 (Qy ⟨(by simp_all),by subst hi3;exact Qw (by simp_all) (h_s1).1,trivial⟩)
  exact T2 (Qn trivial)
 rcases q6 with q6 | q6
 ·show Qf (QdT q6) _
  unfold QdT
  exact T3
 show Qf (QdU) _
 unfold QdU
 exact T3
theorem QiA (s1:(List Int))(v2:Int)(h_s1:(QM (fun _=>True)) s1):Qf (QbK s1 v2) fun r=>True:=by
 unfold QbK
 refine T0 (QqA s1 v2 (h_s1)) (fun x_1 hv2=>?_)
 exact T3
theorem QsC (v1:(List Int))(v2:Int)(v3:Int)(h_v1:(QM (fun _=>True)) v1)(hp0:0≤v2)(hp1:v2<v1.length):Qf (QgY v1 v2 v3) fun r=>True:=by
 unfold QgY
 refine T0 (T5 (by simp_all;omega)) (fun _ _=>?_)
 refine T0 (QiA ((v1.drop 0).take (v2.toNat-0)) v3 (((h_v1).drop _).take _)) (fun x_1 hv2=>?_)
 exact T3
theorem Qu2 (v1:Qk)(v2:Int)(v3:Int)(v4:(List Int))(v5:Int)(v6:Int)(h_v1:QU v1)(h_v4:(QM (fun _=>True)) v4)(hp0:0≤v5)(hp1:v5<v4.length):Qf (Qi6 v1 v2 v3 v4 v5 v6) fun r=>True:=by
 unfold Qi6
 refine T0 (QsB v1 v2 (h_v1)) (fun x_1 hv2=>?_)
 refine T1 (fun hc3=>?_) (fun hc3=>?_)
 ·exact T3
 refine T0 (QsC v4 v5 v2 (h_v4) (by omega) (by omega)) (fun x_4 hv5=>?_)
 refine T1 (fun hc6=>?_) (fun hc6=>?_)
 ·exact T3
 exact T3
theorem Qt7 (k1:Int)(place2:Int)(v3:Qk)(v4:(List Int))(h_v3:QU v3)(h_v4:(QM (fun _=>True)) v4)(hp0:0≤k1)(hp1:k1<v4.length):Qf (Qh8 k1 place2 v3 v4) fun r=>True:=by
 unfold Qh8
 refine T0 (Qu2 v3 place2 3 v4 k1 5 (h_v3) (h_v4) (by omega) (by omega)) (fun x_1 hv2=>?_)
 exact T3
theorem Qu3 (l1:(List Int))(v2:Qk)(v3:(List Int))(h_l1:(QM (fun _=>True)) l1)(h_v2:QU v2)(h_v3:(QM (fun _=>True)) v3)(hp0:l1.length≤v3.length):Qf (Qi7 l1 v2 v3) fun r=>True:=by
 unfold Qi7
 refine T0 (Qf.up (l1.length) (fun st=>st) (fun _=>True) (Q:=fun q=>True) rfl trivial (fun i2 st hi3 hn4 hj5=>?_)) (fun q6 hq7=>?_)
 ·obtain⟨x_1,hst⟩:∃y,y=st:=⟨_,rfl⟩
  subst hst
  replace hi3:x_1=(i2:Int):=hi3
  show Qf (QgZ l1 v2 v3 x_1) _
  unfold QgZ
  refine T1 (fun hc8=>?_) (fun hc8=>?_)
  ·refine T0 (T4 (by omega) (by simp_all)) (fun e_9 hv10=>?_)
   refine T0 (Qt7 x_1 e_9 v2 v3 (h_v2) (h_v3) (by omega) (by simp_all;omega)) (fun x_11 hv12=>?_)
   refine T1 (fun hc13=>?_) (fun hc13=>?_)
   ·exact T2 (Qn trivial)
   exact T2 (Qy ⟨(by simp_all),by subst hi3;exact Qw (by simp_all) (h_l1).1,trivial⟩)
  exact T2 (Qn trivial)
 rcases q6 with q6 | q6
 ·show Qf (Qg0 q6.1 q6.2) _
  unfold Qg0
  exact T3
 show Qf (Qg1) _
 unfold Qg1
 exact T3
theorem QvW (n1:Qk)(l2:(List Int))(h_n1:QU n1)(h_l2:(QM (fun _=>True)) l2):Qf (Qj7 n1 l2) fun r=>True:=by
 unfold Qj7
 refine T0 (Qu3 l2 n1 l2 (h_l2) (h_n1) (h_l2) (by omega)) (fun x_1 hv2=>?_)
 exact T3
theorem QvX (v1:Qk)(v2:QA)(h_v1:QU v1)(h_v2:QaP v2):Qf (Qj8 v1 v2) fun r=>True:=by
 unfold Qj8
 refine T0 (QvW v1 v2.Cancel (h_v1) (h_v2.2.2.2.2.2.2.2.1)) (fun x_1 hv2=>?_)
 exact T3
theorem Qto (v1:Qk)(v2:QA)(v3:Int)(h_v1:QU v1)(h_v2:QaP v2):Qf (Qhs v1 v2 v3) fun r=>True:=by
 unfold Qhs
 refine T0 (QvX v1 v2 (h_v1) (h_v2)) (fun x_1 hv2=>?_)
 exact T3
theorem Qpj (k1:Int)(l2:(List QX))(h_l2:(QM Qjo) l2):Qf (Qft k1 l2) fun r=>True:=by
 unfold Qft
 exact T3
theorem QxC (t1:QA)(h_t1:QaP t1):Qf (Qjl t1) fun r=>True:=by
 unfold Qjl
 refine T0 (P:=fun _=>True) ?_ (fun x_1 hv2=>?_)
 ·unfold Qqm
  refine T0 (Qpj t1.Join t1.Ins (h_t1.2.2.2.2.2.1)) (fun x_3 hv4=>?_)
  refine T1 (fun hc5=>?_) (fun hc5=>?_)
  ·refine T0 (Qpj t1.Split t1.Outs (h_t1.2.2.2.2.2.2.1)) (fun x_6 hv7=>?_)
   refine T1 (fun hc8=>?_) (fun hc8=>?_)
   ·refine T1 (fun hc9=>?_) (fun hc9=>?_)
    ·refine T1 (fun hc10=>?_) (fun hc10=>?_)
     ·exact T3
     exact T3
    exact T3
   exact T3
  exact T3
 unfold Qi8
 exact T3
theorem QvY (v1:QA)(h_v1:QaP v1):Qf (Qj9 v1) fun r=>True:=by
 unfold Qj9
 refine T0 (QxC v1 (h_v1)) (fun x_1 hv2=>?_)
 exact T3
theorem Qu4 (v1:QA)(v2:Int)(v3:Qk)(v4:Int)(v5:Int)(v6:Int)(v7:Int)(v8:Int)(v9:Int)(v10:Int)(v11:Int)(v12:Int)(v13:Int)(v14:Int)(v15:Int)(h_v1:QaP v1)(h_v3:QU v3)(hp0:0≤v4)(hp1:v4<v3.Tasks.length):Qf (QgH v1 v2 v3 v4 v5 v6 v7 v8 v9 v10 v11 v12 v13 v14 v15) fun r=>True:=by
 unfold QgH
 refine T0 (QwA v1 (h_v1)) (fun x_1 hv2=>?_)
 refine T1 (fun hc3=>?_) (fun hc3=>?_)
 ·exact T3
 refine T0 (QwC v3 v4 v1 (h_v3) (h_v1) (by omega) (by omega)) (fun x_4 hv5=>?_)
 refine T1 (fun hc6=>?_) (fun hc6=>?_)
 ·exact T3
 refine T0 (QwD v6 v1 (h_v1)) (fun x_7 hv8=>?_)
 refine T1 (fun hc9=>?_) (fun hc9=>?_)
 ·exact T3
 refine T0 (QvV v3 v1 v8 (h_v3) (h_v1)) (fun x_10 hv11=>?_)
 refine T1 (fun hc12=>?_) (fun hc12=>?_)
 ·exact T3
 refine T0 (QwF v3 v4 (h_v3)) (fun x_13 hv14=>?_)
 refine T1 (fun hc15=>?_) (fun hc15=>?_)
 ·exact T3
 refine T0 (QwG v1 v6 (h_v1)) (fun x_16 hv17=>?_)
 refine T1 (fun hc18=>?_) (fun hc18=>?_)
 ·exact T3
 refine T0 (Qtm v3 v1 v6 x_10.2 (h_v3) (h_v1)) (fun x_19 hv20=>?_)
 refine T1 (fun hc21=>?_) (fun hc21=>?_)
 ·exact T3
 refine T0 (Qtn v3 v1 v6 x_19.2 (h_v3) (h_v1)) (fun x_22 hv23=>?_)
 refine T1 (fun hc24=>?_) (fun hc24=>?_)
 ·exact T3
 refine T0 (Qto v3 v1 x_22.2 (h_v3) (h_v1)) (fun x_25 hv26=>?_)
 refine T1 (fun hc27=>?_) (fun hc27=>?_)
 ·exact T3
 refine T0 (QvY v1 (h_v1)) (fun x_28 hv29=>?_)
 refine T1 (fun hc30=>?_) (fun hc30=>?_)
 ·exact T3
 exact T3
theorem QsD (n1:Qk)(k2:Int)(h_n1:QU n1):Qf (Qdi n1 k2) fun r=>True:=by
 unfold Qdi
 refine T0 (QkS n1.Tasks k2 (h_n1.2.2.1)) (fun x_1 hv2=>?_)
 refine T1 (fun hc3=>?_) (fun hc3=>?_)
 ·exact T3
 refine T0 (Qpi n1 (h_n1)) (fun x_4 hv5=>?_)
 refine T1 (fun hc6=>?_) (fun hc6=>?_)
 ·exact T3
 refine T0 (T4 (by simp_all) (by simp_all)) (fun e_7 hv8=>?_)
 refine T0 (T4 (by simp_all) (by simp_all)) (fun e_9 hv10=>?_)
 refine T0 (QxB 0 n1 e_7 (h_n1) (((h_n1.2.2.1).2 e_7 hv8))) (fun x_11 hv12=>?_)
 refine T0 (QuV 0 n1 e_7 (e_9.Vars.length:Int) (h_n1) (((h_n1.2.2.1).2 e_7 hv8))) (fun x_13 hv14=>?_)
 refine T0 (QuW 0 n1 e_7 (e_9.Vars.length:Int) (h_n1) (((h_n1.2.2.1).2 e_7 hv8))) (fun x_15 hv16=>?_)
 refine T0 (QuX 0 n1 e_7 (h_n1) (((h_n1.2.2.1).2 e_7 hv8))) (fun x_17 hv18=>?_)
 refine T0 (Qu4 e_7 1 n1 k2 5 (e_9.Vars.length:Int) 2 0 (-1) 2 1 (-1) (-1) (-1) 11 (((h_n1.2.2.1).2 e_7 hv8)) (h_n1) (by simp_all) (by simp_all)) (fun x_19 hv20=>?_)
 refine T1 (fun hc21=>?_) (fun hc21=>?_)
 ·exact T3
 exact T3
theorem QxD (k1:Int)(p2:QA)(v3:Qk)(h_p2:QaP p2)(h_v3:QU v3):Qf (Qjm k1 p2 v3) fun r=>True:=by
 unfold Qjm
 refine T0 (QsD v3 k1 (h_v3)) (fun x_1 hv2=>?_)
 exact T3
theorem QqP (l1:(List QA))(v2:Qk)(h_l1:(QM QaP) l1)(h_v2:QU v2):Qf (QcK l1 v2) fun r=>True:=by
 unfold QcK
 refine T0 (Qf.up (l1.length) (fun st=>st) (fun _=>True) (Q:=fun q=>True) rfl trivial (fun i2 st hi3 hn4 hj5=>?_)) (fun q6 hq7=>?_)
 ·obtain⟨x_1,hst⟩:∃y,y=st:=⟨_,rfl⟩
  subst hst
  replace hi3:x_1=(i2:Int):=hi3
  show Qf (QbX l1 v2 x_1) _
  unfold QbX
  refine T1 (fun hc8=>?_) (fun hc8=>?_)
  ·refine T0 (T4 (by omega) (by simp_all)) (fun e_9 hv10=>?_)
   refine T0 (QxD x_1 e_9 v2 (((h_l1).2 e_9 hv10)) (h_v2)) (fun x_11 hv12=>?_)
   refine T1 (fun hc13=>?_) (fun hc13=>?_)
   ·exact T2 (Qn trivial)
   exact T2 (Qy ⟨(by simp_all),by subst hi3;exact Qw (by simp_all) (h_l1).1,trivial⟩)
  exact T2 (Qn trivial)
 rcases q6 with q6 | q6
 ·show Qf (Qd3 q6.1 q6.2) _
  unfold Qd3
  exact T3
 show Qf (Qd4) _
 unfold Qd4
 exact T3
theorem QtN (n1:Qk)(h_n1:QU n1):Qf (QhG n1) fun r=>True:=by
 unfold QhG
 refine T0 (Qxu n1 2 3 1 (h_n1)) (fun x_1 hv2=>?_)
 refine T1 (fun hc3=>?_) (fun hc3=>?_)
 ·exact T3
 refine T0 (Qpi n1 (h_n1)) (fun x_4 hv5=>?_)
 refine T1 (fun hc6=>?_) (fun hc6=>?_)
 ·exact T3
 refine T0 (Qqx n1.Places n1 (h_n1.2.1) (h_n1)) (fun x_7 hv8=>?_)
 refine T1 (fun hc9=>?_) (fun hc9=>?_)
 ·exact T3
 refine T0 (QqP n1.Tasks n1 (h_n1.2.2.1) (h_n1)) (fun x_10 hv11=>?_)
 refine T1 (fun hc12=>?_) (fun hc12=>?_)
 ·exact T3
 exact T3
theorem QzU (a1:Int)(b2:Int)  : Qf (Qld a1 b2) fun r=>True:=by
 unfold Qld
 refine T1 (fun hc1=>?_) (fun hc1=>?_)
 ·exact T3
 exact T3
theorem Qt8 (a1:Int)(b2:Int)  : Qf (QhW a1 b2) fun r=>True:=by
 unfold QhW
 refine T1 (fun hc1=>?_) (fun hc1=>?_)
 ·exact T3
 exact T3
theorem QtO (a1:Int)  : Qf (QhE a1) fun r=>True:=by
 unfold QhE
 refine T1 (fun hc1=>?_) (fun hc1=>?_)
 ·exact T3
 exact T3
theorem Qt9 (p1:Int)(y2:Int)  : Qf (Qec p1 y2) fun r=>True:=by
 unfold Qec
 exact T3
theorem QwK (a1:Int)(b2:Int)  : Qf (Qf9 a1 b2) fun r=>True:=by
 unfold Qf9
 refine T0 (QtO a1 ) (fun x_1 hv2=>?_)
 refine T0 (QtO b2 ) (fun x_3 hv4=>?_)
 refine T0 (Qt9 x_1 x_3 ) (fun x_5 hv6=>?_)
 refine T1 (fun hc7=>?_) (fun hc7=>?_)
 ·unfold Qc7
  refine T1 (fun hc8=>?_) (fun hc8=>?_)
  ·exact T3
  exact T3
 unfold Qc7
 refine T1 (fun hc9=>?_) (fun hc9=>?_)
 ·exact T3
 exact T3
theorem Qpk (a1:Int)(b2:Int)  : Qf (Qhk a1 b2) fun r=>True:=by
 unfold Qhk
 refine T1 (fun hc1=>?_) (fun hc1=>?_)
 ·exact T3
 refine T1 (fun hc2=>?_) (fun hc2=>?_)
 ·exact T3
 refine T0 (T5 (by simp_all)) (fun _ _=>?_)
 refine T0 (T5 (by simp_all)) (fun _ _=>?_)
 exact T3
theorem Qff (is1:Bool)  : Qf (Qd2 is1) fun r=>True:=by
 unfold Qd2
 refine T1 (fun hc1=>?_) (fun hc1=>?_)
 ·exact T3
 exact T3
theorem Qmp (op1:Int)(a2:Int)(b3:Int)  : Qf (QcR op1 a2 b3) fun r=>True:=by
 unfold QcR
 refine T1 (fun hc1=>?_) (fun hc1=>?_)
 ·refine T0 (QzU a2 b3 ) (fun x_2 hv3=>?_)
  exact T3
 refine T1 (fun hc4=>?_) (fun hc4=>?_)
 ·refine T0 (Qt8 a2 b3 ) (fun x_5 hv6=>?_)
  exact T3
 refine T1 (fun hc7=>?_) (fun hc7=>?_)
 ·refine T0 (QwK a2 b3 ) (fun x_8 hv9=>?_)
  exact T3
 refine T1 (fun hc10=>?_) (fun hc10=>?_)
 ·refine T0 (Qpk a2 b3 ) (fun x_11 hv12=>?_)
  exact T3
 refine T1 (fun hc13=>?_) (fun hc13=>?_)
 ·refine T0 (Qpk a2 b3 ) (fun x_14 hv15=>?_)
  exact T3
 refine T1 (fun hc16=>?_) (fun hc16=>?_)
 ·refine T0 (Qff (a2==b3) ) (fun x_17 hv18=>?_)
  exact T3
 refine T1 (fun hc19=>?_) (fun hc19=>?_)
 ·refine T0 (Qff (a2 != b3) ) (fun x_20 hv21=>?_)
  exact T3
 refine T1 (fun hc22=>?_) (fun hc22=>?_)
 ·refine T0 (Qff (decide (a2<b3)) ) (fun x_23 hv24=>?_)
  exact T3
 refine T1 (fun hc25=>?_) (fun hc25=>?_)
 ·refine T0 (Qff (decide (a2≤b3)) ) (fun x_26 hv27=>?_)
  exact T3
 refine T1 (fun hc28=>?_) (fun hc28=>?_)
 ·refine T0 (P:=fun _=>True) ?_ (fun v_29 hv30=>?_)
  ·unfold Qut
   refine T1 (fun hc31=>?_) (fun hc31=>?_)
   ·refine T0 (Qff (b3 != 0) ) (fun x_32 hv33=>?_)
    exact T3
   refine T0 (Qff false ) (fun x_34 hv35=>?_)
   exact T3
  unfold Qnk
  exact T3
 refine T1 (fun hc36=>?_) (fun hc36=>?_)
 ·refine T0 (P:=fun _=>True) ?_ (fun v_37 hv38=>?_)
  ·unfold Quu
   refine T1 (fun hc39=>?_) (fun hc39=>?_)
   ·refine T0 (Qff true ) (fun x_40 hv41=>?_)
    exact T3
   refine T0 (Qff (b3 != 0) ) (fun x_42 hv43=>?_)
   exact T3
  unfold Qnl
  exact T3
 exact T3
theorem Qu5 (a1:Int)  : Qf (Qpz a1) fun r=>True:=by
 unfold Qpz
 refine T0 (Qmp 2 0 a1 ) (fun x_1 hv2=>?_)
 exact T3
end Go.Proofs
noncomputable section
namespace Go.Proofs
open Go Go.RowKit Go.Vm
theorem Qu6 (b:List (Int×Int))(h:b.length≤maxLen):Qf1 b=some (rtF (-1) b):=by
 unfold Qf1
 have h1:=QyF (body:=fun st=>Qc2 b st.1 st.2) (l:=b) (ρ:=Unit⊕Unit) (fun i (t:Int)=>(t,(i:Int)))
  (fun i t x=>bif ((decide (x.1≤t))||((decide (x.2<1))||(decide (1048576<x.2))))then .inr (.inl ())else .inl x.1) (fun _=>.inr ())
  (fun i t x hi hx=>by
   show Qc2 b t i=_
   unfold Qc2
   rw [Qa4 (by omega:(i:Int)<b.length),cond_true,QN,hx,Qi]
   cases ((decide (x.1≤t))||((decide (x.2<1))||(decide (1048576<x.2))))with
   | true=>rfl
   | false=>simp only [cond_false,Sum.elim_inl];rw [Qw hi h])
  (fun t=>by
   show Qc2 b t b.length=_
   unfold Qc2
   rw [Qa8 (by omega)];rfl) (-1) (s0:=(-1,0)) rfl
 rw [h1]
 have:∀(l:List (Int×Int)) (k:Nat) (t:Int),QnI (fun i t (x:Int×Int)=>(bif ((decide (x.1≤t))||((decide (x.2<1))||(decide (1048576<x.2))))then .inr (.inl ())else .inl x.1:Int⊕(Unit⊕Unit))) (fun _=>.inr ()) k t l=bif rtF t l then .inr ()else .inl ():=by
  intro l
  induction l with
  | nil=>intro k t;rfl
  | cons x l ih=>
   intro k t
   rw [QnI,rtF]
   cases ((decide (x.1≤t))||((decide (x.2<1))||(decide (1048576<x.2))))with
   | true=>rfl
   | false=>simp only [cond_false,Sum.elim_inl,Bool.not_false,Bool.true_and];exact ih _ _
 rw [this]
 cases rtF (-1) b<;>rfl
theorem Qrz (b:List (Int×Int))(h:b.length≤maxLen):QmN b=some (bif rtF (-1) b then .inr b else .inl ()):=by
 unfold QmN
 rw [Qu6 b h,Qi]
 cases hr:rtF (-1) b with
 | false=>rfl
 | true=>
  simp only [Qoh,cond_false,cond_true]
  have ha:=(QgN.1 hr).1
  obtain⟨r,h1,h2⟩:=QlH (body:=fun st=>QhD b st.1 st.2) b.length (fun i s=>s=((i:Int),b.take i)) (fun r=>r=b)
   (fun i s hi hs=>by
    subst hs
    refine .inl ⟨(((i+1:Nat):Int),b.take (i+1)),?_,rfl⟩
    show QhD b i (b.take i)=_
    unfold QhD
    rw [Qa4 (by omega:(i:Int)<b.length),cond_true,QN,QD hi,Qi,Qw hi h]
    have e:b.take (i+1)=b.take i++[b[i]]:=by rw [Qdp,QD hi];rfl
    rw [e,←QDr (by have:=(ha.sublist (List.take_sublist (i+1) b));rw [e]at this;exact this)])
   (fun s hs=>by
    subst hs
    refine⟨_,?_,rfl⟩
    show QhD b b.length (b.take b.length)=_
    unfold QhD
    rw [Qa8 (by omega),Qk3];rfl) (0,[]) rfl
  rw [h1,h2];rfl
theorem Qr0 (a b:List (Int×Int))(ha:a.length≤maxLen)(hb:b.length≤maxLen):QlE a b=some (bif rtF (-1) a then(bif rtF (-1) b then .inr (.inr (.inr (a,b)))else .inr (.inr (.inl a)))else(bif rtF (-1) b then .inr (.inl b)else .inl ())):=by
 unfold QlE
 rw [Qrz a ha]
 cases rtF (-1) a with
 | true=>
  simp only [cond_true,Qi,Sum.elim_inr]
  unfold QoU
  rw [Qrz b hb]
  cases rtF (-1) b<;>rfl
 | false=>
  simp only [cond_false,Qi,Sum.elim_inl]
  unfold QoT
  rw [Qrz b hb]
  cases rtF (-1) b<;>rfl
theorem QmG (m:List (Int×Int))(ha:Asc m)(h':m.length≤4294967296):QeP m=some (QkR m):=by
 have h:m.length≤maxLen:=by unfold maxLen;omega
 unfold QeP Qd5 QjC
 simp only [Qa4 h',QlG rfl,Qi,QCr ha]
 obtain⟨r,h1,h2⟩:=QlH (body:=fun st=>QcA (m.map Prod.fst) m st.1 st.2) m.length (fun i s=>s=((i:Int),QkR (m.take i))) (fun r=>r=QkR m)
  (fun i s hi hs=>by
   subst hs
   refine .inl ⟨(((i+1:Nat):Int),QkR (m.take (i+1))),?_,rfl⟩
   show QcA (m.map Prod.fst) m i (QkR (m.take i))=_
   unfold QcA
   have e:m.take (i+1)=m.take i++[m[i]]:=by rw [Qdp,QD hi];rfl
   have ec:(QR m m[i].1).getD 0=m[i].2:=Qoa ha.nd (QaQ hi)
   rw [Qa4 (by simp;omega),cond_true,QN,Qan,QD hi,QdY,Qi,ec]
   have hl:(QkR (m.take i)).length≤i:=Qaw (Qvg _ _) (by simp;omega)
   cases hc:decide (0<m[i].2)with
   | true=>
    simp only [cond_true]
    rw [QnH (by simp;omega),Qi]
    unfold QeE
    rw [Qw hi h,e]
    unfold QkR
    rw [List.filter_append,Qm9,if_pos hc];rfl
   | false=>
    simp only [cond_false]
    unfold QeE
    rw [Qw hi h,e]
    unfold QkR
    rw [List.filter_append,Qm9,if_neg (by rw [hc];decide),List.filter_nil,QsJ])
  (fun s hs=>by
   subst hs
   refine⟨_,?_,rfl⟩
   show QcA (m.map Prod.fst) m m.length (QkR (m.take m.length))=_
   unfold QcA
   rw [Qa8 (by simp),Qk3];rfl) (0,[]) rfl
 rw [h1,h2];rfl
theorem QzV (m:List (Int×Int)):(QkR m).length≤m.length:=Qvg _ _
theorem QkU (a b:List (Int×Int))(h:a.length+b.length≤4294967296):(¬(Rt a∧Rt b)∧QbQ a b=some ([],1))∨(Rt a∧Rt b∧(∃k,1048576<QI a k+QI b k)∧QbQ a b=some ([],2))∨
  (Rt a∧Rt b∧∃r,QbQ a b=some (r,0)∧Rt r∧(∀k,QI r k=QI a k+QI b k)∧r.length≤a.length+b.length):=by
 unfold QbQ
 rw [Qr0 a b (by unfold maxLen;omega) (by unfold maxLen;omega),Qi]
 cases ra:rtF (-1) a with
 | false=>exact .inl ⟨fun hh=>(by rw [QgN.2 hh.1]at ra;cases ra),by cases rtF (-1) b<;>rfl⟩
 | true=>
  cases rb:rtF (-1) b with
  | false=>exact .inl ⟨fun hh=>(by rw [QgN.2 hh.2]at rb;cases rb),rfl⟩
  | true=>
   have hra:=QgN.1 ra
   have hrb:=QgN.1 rb
   simp only [cond_true,Sum.elim_inr]
   unfold Qqp
   have hw:∀p∈b,QI a p.1+p.2=QI a p.1+QI b p.1:=fun p hp=>by rw [Qoa hrb.1.nd hp]
   rcases Qxq (g:=fun x v=>w64 (x+v)) (stop:=fun x=>decide (1048576<x)) (q:=some ()) (body:=fun st p=>Qiq st p.1 p.2) (fun s p=>by
     show Qiq s p.1 p.2=_
     unfold Qiq
     rw [QoK,if_pos rfl]
     unfold QI
     simp only [Qne]
     cases decide (1048576<w64 ((QR s p.1).getD 0+p.2))<;>rfl) hra.1 hrb.1.nd with⟨⟨p,h1,h2⟩,h3⟩|⟨h1,s',h3,h4,h5,h6⟩
   ·refine .inr (.inl ⟨hra,hrb,⟨p.1,?_⟩,?_⟩)
    ·have:=hra.cnt p.1
     have:=hrb.cnt p.1
     have h2:=QV h2
     rw [Qoa hrb.1.nd h1]
     rw [Qoa hrb.1.nd h1]at this
     rwa [Q6 (by omega)]at h2
    simp only [h3 () rfl];rfl
   have hk:∀k,QI s' k=QI a k+QI b k∧QI s' k≤1048576:=fun k=>by
    have ca:=hra.cnt k
    have cb:=hrb.cnt k
    have e:=h6 k
    unfold Qvt at e
    cases hm:QR b k with
    | none=>
     rw [hm]at e
     simp only at e
     have:QI b k=0:=by unfold QI;rw [hm];rfl
     have e2:QI s' k=QI a k:=by unfold QI;rw [e]
     omega
    | some v=>
     rw [hm]at e
     simp only at e
     have e1:QI b k=v:=by unfold QI;rw [hm];rfl
     have e2:QI s' k=w64 (QI a k+v):=by unfold QI;rw [e];rfl
     have h7:=h1 (k,v) ((Qel hrb.1.nd).1 hm)
     simp only [QY]at h7
     rw [Q6 (by omega)]at e2 h7
     omega
   refine .inr (.inr ⟨hra,hrb,QkR s',?_,QCq h4 (fun k hk0=>⟨?_,(hk k).2⟩),fun k=>?_,Qaw (QzV s') h5⟩)
   ·simp only [h3,Qi,Sum.elim_inl]
    unfold Qqo
    rw [QmG s' h4 (by omega)];rfl
   ·have:=(hk k).1
    have ca:=hra.cnt k
    have cb:=hrb.cnt k
    by_cases c:0<QI a k
    ·exact hra.cnt_pos c
    exact hrb.cnt_pos (by omega)
   rw [QzT h4,(hk k).1]
   have ca:=hra.cnt k
   have cb:=hrb.cnt k
   split<;>omega
theorem QqB (m m':List (Int×Int)):QeF m m'=some (!(m.any fun p=>decide (QI m' p.1<p.2))):=by
 unfold QeF
 rw [QBB (bad:=fun p=>decide (QI m' p.1<p.2)) (q:=()) (fun p=>by
  show Qdk m' p.1 p.2=_
  unfold Qdk QI
  cases decide ((QR m' p.1).getD 0<p.2)<;>rfl)]
 cases m.any fun p=>decide (QI m' p.1<p.2)<;>rfl
theorem QxE {a b:List (Int×Int)}(ha:Rt a)(hb:Rt b):(a.any fun p=>decide (QI b p.1<p.2))=false↔∀k,QI a k≤QI b k:=by
 rw [←Qpl,Qm8]
 simp only [Qx,not_exists,not_and]
 constructor
 ·intro h k
  have cb:=hb.cnt k
  cases e:QR a k with
  | none=>
   have:QI a k=0:=by unfold QI;rw [e];rfl
   omega
  | some v=>
   have h1:=h _ ((Qel ha.1.nd).1 e)
   have:QI a k=v:=by unfold QI;rw [e];rfl
   simp only at h1
   omega
 intro h p hp hlt
 have:=h p.1
 rw [Qoa ha.1.nd hp]at this
 omega
theorem QxF (a b:List (Int×Int))(ha:a.length≤maxLen)(hb:b.length≤maxLen):∃r,QnA a b=some r∧(r=true↔Rt a∧Rt b∧∀k,QI a k≤QI b k):=by
 unfold QnA
 rw [Qr0 a b ha hb,Qi]
 cases ra:rtF (-1) a with
 | false=>exact⟨false,by cases rtF (-1) b<;>rfl,by simp;intro hh;rw [QgN.2 hh]at ra;cases ra⟩
 | true=>
  cases rb:rtF (-1) b with
  | false=>exact⟨false,rfl,by simp;intro _ hh;rw [QgN.2 hh]at rb;cases rb⟩
  | true=>
   have hra:=QgN.1 ra
   have hrb:=QgN.1 rb
   refine⟨!(a.any fun p=>decide (QI b p.1<p.2)),?_,?_⟩
   ·simp only [cond_true,Sum.elim_inr]
    unfold Qnz
    rw [QqB];rfl
   rw [Qfg,QxE hra hrb]
   exact⟨fun h=>⟨hra,hrb,h⟩,fun h=>h.2.2⟩
theorem QoX (a b:List (Int×Int))(h:a.length+b.length≤4294967296):(¬(Rt a∧Rt b)∧Qcg a b=some ([],1))∨(Rt a∧Rt b∧(∃k,QI a k<QI b k)∧Qcg a b=some ([],10))∨
  (Rt a∧Rt b∧(∀k,QI b k≤QI a k)∧∃r,Qcg a b=some (r,0)∧Rt r∧(∀k,QI r k=QI a k-QI b k)∧r.length≤a.length+b.length):=by
 unfold Qcg
 rw [Qr0 a b (by unfold maxLen;omega) (by unfold maxLen;omega),Qi]
 cases ra:rtF (-1) a with
 | false=>exact .inl ⟨fun hh=>(by rw [QgN.2 hh.1]at ra;cases ra),by cases rtF (-1) b<;>rfl⟩
 | true=>
  cases rb:rtF (-1) b with
  | false=>exact .inl ⟨fun hh=>(by rw [QgN.2 hh.2]at rb;cases rb),rfl⟩
  | true=>
   have hra:=QgN.1 ra
   have hrb:=QgN.1 rb
   simp only [cond_true,Sum.elim_inr]
   unfold QoW
   rw [QqB,Qi]
   cases hw:b.any fun p=>decide (QI a p.1<p.2)with
   | true=>
    refine .inr (.inl ⟨hra,hrb,?_,rfl⟩)
    obtain⟨p,h1,h2⟩:=Qm8.1 hw
    exact⟨p.1,by rw [Qoa hrb.1.nd h1];exact QV h2⟩
   | false=>
    have hle:=(QxE hrb hra).1 hw
    simp only [Bool.not_false,Qoh,cond_false]
    rcases Qxq (g:=fun x v=>w64 (x-v)) (stop:=fun _=>false) (q:=none) (body:=fun st p=>Qhc st p.1 p.2) (fun s p=>by
      show Qhc s p.1 p.2=_
      unfold Qhc QI
      rfl) hra.1 hrb.1.nd with⟨⟨p,h1,h2⟩,h3⟩|⟨h1,s',h3,h4,h5,h6⟩
    ·cases h2
    have hk:∀k,QI s' k=QI a k-QI b k:=fun k=>by
     have ca:=hra.cnt k
     have cb:=hrb.cnt k
     have e:=h6 k
     unfold Qvt at e
     cases hm:QR b k with
     | none=>
      rw [hm]at e
      simp only at e
      have:QI b k=0:=by unfold QI;rw [hm];rfl
      have e2:QI s' k=QI a k:=by unfold QI;rw [e]
      omega
     | some v=>
      rw [hm]at e
      simp only at e
      have e1:QI b k=v:=by unfold QI;rw [hm];rfl
      have e2:QI s' k=w64 (QI a k-v):=by unfold QI;rw [e];rfl
      rw [Q6 (by omega)]at e2
      omega
    refine .inr (.inr ⟨hra,hrb,hle,QkR s',?_,QCq h4 (fun k hk0=>?_),fun k=>?_,Qaw (QzV s') h5⟩)
    ·simp only [h3,Qi,Sum.elim_inl]
     unfold QoV
     rw [QmG s' h4 (by omega)];rfl
    ·have:=hk k
     have ca:=hra.cnt k
     have cb:=hrb.cnt k
     exact⟨hra.cnt_pos (by omega),by omega⟩
    rw [QzT h4,hk k]
    have:=hle k
    split<;>omega
theorem QxG (t:Int):Qtj [t]=some (bif decide (0≤t)then [(t,1)]else []):=by
 unfold Qtj
 rw [Qcx]
 show((Qf4 [t] 0 []).bind _).bind _=_
 unfold Qf4
 rw [Qa4 (by simp),cond_true,show idx [t] 0=some t from rfl,Qi]
 unfold Qot
 rw [show w64 (0+1)=1 from by decide]
 cases h:decide (0≤t)with
 | false=>
  simp only [cond_false,Qi,Sum.elim_inl]
  rw [Qcx]
  show((Qf4 [t] 1 []).bind _).bind _=_
  unfold Qf4
  rw [Qa8 (by simp)]
  simp only [cond_false,Qi,Sum.elim_inr]
  unfold Qou
  rw [QmG [] List.Pairwise.nil (by simp)];rfl
 | true=>
  simp only [cond_true,Qi,Sum.elim_inl]
  rw [Qcx]
  show((Qf4 [t] 1 [(t,min2 (w64 (0+1)) 1048576)]).bind _).bind _=_
  unfold Qf4
  rw [Qa8 (by simp)]
  simp only [cond_false,Qi,Sum.elim_inr]
  unfold Qou
  rw [QmG _ (List.pairwise_singleton _ _) (by simp [maxLen]),show min2 (w64 (0+1)) 1048576=1 from by decide];rfl
end Go.Proofs
noncomputable section
namespace Go.Proofs
open Go Go.RowKit Go.Vm
theorem QAQ : ∀(n:Nat) (e:Ql) (d:Int),QdL e→SizeOf.sizeOf e≤n→Qf (QfC n e d) fun _=>True
 | 0,e,_,_,h=>absurd e.pos (by omega)
 | n+1,e,d,he,h=>by
  unfold QfC QoP
  refine T1 (fun _=>T3) fun _=>?_
  refine T0 (Qf.up e.Kids.length (fun st=>st.2) (fun _=>True) (Q:=fun _=>True) rfl trivial (fun i st hi hn _=>?_)) (fun q _=>?_)
  ·obtain⟨a,x⟩:=st
   replace hi:x=(i:Int):=hi
   show Qf (Qlj e (QfC n) d a x) _
   unfold Qlj
   refine T1 (fun hc=>?_) (fun hc=>T2 (Qn trivial))
   simp only [Qx]at hc
   refine T0 (T4 (by omega) (by omega)) fun k hk=>?_
   have:=QuS hk
   refine T0 (QAQ n k _ ((Qfe he).2 k hk) (by omega)) fun y _=>?_
   refine T1 (fun _=>T2 (Qn trivial)) fun _=>T1 (fun _=>T2 (Qn trivial)) fun _=>?_
   exact T2 (Qy ⟨by omega,by subst hi;exact Qw (by omega) (Qfe he).1,trivial⟩)
  rcases q with q | q
  ·exact T3
  exact T3
theorem Qyk (e:Ql)(he:QdL e):Qf (Qju e) fun _=>True:=by
 unfold Qju QrO
 exact T0 (QAQ _ e 60 he (QbY _)) fun _ _=>T3
theorem QD4 (n1:Qk)(h:QU n1)(q0:Int):Qf (QjU n1 q0) fun r=>r=true→q0≤400:=by
 unfold QjU
 refine T0 (Qf.up n1.Tasks.length (fun st=>st.2) (fun _=>True) (Q:=fun _=>True) rfl trivial (fun i st hi hn _=>?_)) (fun q _=>?_)
 ·obtain⟨a,x⟩:=st
  replace hi:x=(i:Int):=hi
  show Qf (QjT n1 a x) _
  unfold QjT
  refine T1 (fun hc=>?_) (fun _=>T2 (Qn trivial))
  simp only [Qx]at hc
  refine T0 (T4 (by omega) (by omega)) fun e he=>?_
  have ke:=h.2.2.1.2 e he
  refine T1 (fun _=>T2 (Qn trivial)) fun _=>?_
  refine T0 (Qf.up e.Vars.length (fun st=>st) (fun _=>True) (Q:=fun _=>True) rfl trivial (fun i2 st hi2 hn2 _=>?_)) (fun q _=>?_)
  ·show Qf (QjN e st) _
   unfold QjN
   refine T1 (fun hc=>?_) (fun _=>T2 (Qn trivial))
   simp only [Qx]at hc
   refine T0 (T4 (by omega) (by omega)) fun s _=>?_
   exact T1 (fun _=>T2 (Qn trivial)) fun _=>T2 (Qy ⟨by omega,by rw [hi2];exact Qw (by omega) ke.2.1.1,trivial⟩)
  rcases q with q | q
  ·exact T2 (Qn trivial)
  show Qf (QjS e a x) _
  unfold QjS
  refine T0 (Qyk e.Guard ke.2.2.1) fun g _=>?_
  refine T0 (Qf.up e.Ins.length (fun st=>st.2) (fun _=>True) (Q:=fun _=>True) rfl trivial (fun i2 st hi2 hn2 _=>?_)) (fun q _=>?_)
  ·obtain⟨b,y⟩:=st
   replace hi2:y=(i2:Int):=hi2
   show Qf (QjO e b y) _
   unfold QjO
   refine T1 (fun hc=>?_) (fun _=>T2 (Qn trivial))
   simp only [Qx]at hc
   refine T0 (T4 (by omega) (by omega)) fun s hs=>?_
   refine T0 (Qyk s.Expr (ke.2.2.2.2.2.1.2 s hs).2) fun g _=>?_
   exact T2 (Qy ⟨by omega,by subst hi2;exact Qw (by omega) ke.2.2.2.2.2.1.1,trivial⟩)
  show Qf (QjR e a x q) _
  unfold QjR
  refine T0 (Qf.up e.Outs.length (fun st=>st.2) (fun _=>True) (Q:=fun _=>True) rfl trivial (fun i2 st hi2 hn2 _=>?_)) (fun q _=>?_)
  ·obtain⟨b,y⟩:=st
   replace hi2:y=(i2:Int):=hi2
   show Qf (QjP e b y) _
   unfold QjP
   refine T1 (fun hc=>?_) (fun _=>T2 (Qn trivial))
   simp only [Qx]at hc
   refine T0 (T4 (by omega) (by omega)) fun s hs=>?_
   refine T0 (Qyk s.Expr (ke.2.2.2.2.2.2.1.2 s hs).2) fun g _=>?_
   exact T2 (Qy ⟨by omega,by subst hi2;exact Qw (by omega) ke.2.2.2.2.2.2.1.1,trivial⟩)
  show Qf (QjQ a e x q) _
  unfold QjQ
  exact T1 (fun _=>T2 (Qn trivial)) fun _=>T2 (Qy ⟨by omega,by subst hi;exact Qw (by omega) h.2.2.1.1,trivial⟩)
 rcases q with q | q
 ·exact T2 fun h=>by cases h
 exact T2 fun h=>by simpa using h
theorem QAR (n1:Qk)(h:QU n1):Qf (Qjv n1) fun r=>r=true→n1.Colours.length≤40∧n1.Places.length≤70∧n1.Tasks.length≤70:=by
 unfold Qjv
 refine T1 (fun _=>T2 fun h=>by cases h) fun hc=>?_
 simp only [QcZ,QY]at hc
 refine T6 (P:=fun _=>True) ?_ fun _ _ _=>by omega
 refine T0 (Qf.up n1.Colours.length (fun st=>st.2) (fun _=>True) (Q:=fun _=>True) rfl trivial (fun i st hi hn _=>?_)) (fun q _=>?_)
 ·obtain⟨a,x⟩:=st
  replace hi:x=(i:Int):=hi
  show Qf (Qlm n1 a x) _
  unfold Qlm
  refine T1 (fun hc=>?_) (fun _=>T2 (Qn trivial))
  simp only [Qx]at hc
  refine T0 (T4 (by omega) (by omega)).self fun e he=>?_
  obtain⟨he,hm⟩:=he
  refine T0 (P:=fun _=>True) ?_ fun y _=>?_
  ·unfold Qsi
   rw [he,Qi]
   exact T1 (fun _=>T3) fun _=>T3
  unfold Qll
  refine T1 (fun _=>T2 (Qn trivial)) fun _=>?_
  refine T0 (Qf.up e.Names.length (fun st=>st) (fun _=>True) (Q:=fun _=>True) rfl trivial (fun i2 st hi2 hn2 _=>?_)) (fun q _=>?_)
  ·show Qf (Qlk n1 x st) _
   unfold Qlk
   simp only [he,Qi]
   refine T1 (fun hc=>?_) (fun _=>T2 (Qn trivial))
   simp only [Qx]at hc
   refine T0 (T4 (by omega) (by omega)) fun s _=>?_
   refine T1 (fun _=>T2 (Qn trivial)) fun _=>?_
   exact T2 (Qy ⟨by omega,by rw [hi2];exact Qw (by omega) (h.1.2 e hm).2.2.2.2.1.1,trivial⟩)
  rcases q with q | q
  ·exact T2 (Qn trivial)
  exact T2 (Qy ⟨by omega,by subst hi;exact Qw (by omega) h.1.1,trivial⟩)
 rcases q with q | q
 ·exact T3
 show Qf (QjV n1 q) _
 unfold QjV
 refine T0 (Qf.up n1.Places.length (fun st=>st.2) (fun _=>True) (Q:=fun _=>True) rfl trivial (fun i st hi hn _=>?_)) (fun q _=>?_)
 ·obtain⟨a,x⟩:=st
  replace hi:x=(i:Int):=hi
  show Qf (Qln n1 a x) _
  unfold Qln
  refine T1 (fun hc=>?_) (fun _=>T2 (Qn trivial))
  simp only [Qx]at hc
  refine T0 (T4 (by omega) (by omega)) fun e _=>?_
  refine T0 (T4 (by omega) (by omega)) fun e2 _=>?_
  exact T1 (fun _=>T2 (Qn trivial)) fun _=>T2 (Qy ⟨by omega,by subst hi;exact Qw (by omega) h.2.1.1,trivial⟩)
 rcases q with q | q
 ·exact T3
 exact(QD4 n1 h q).mono fun _ _=>trivial
theorem QD5 (m:List (List (Int×Int)))(h:m.length≤maxLen):Qf (Qos m) fun _=>True:=by
 unfold Qos
 refine T0 (Qf.up m.length (fun st=>st.2) (fun _=>True) (Q:=fun _=>True) rfl trivial (fun i st hi hn _=>?_)) (fun q _=>T3)
 obtain⟨a,x⟩:=st
 replace hi:x=(i:Int):=hi
 show Qf (QlC m a x) _
 unfold QlC
 refine T1 (fun hc=>?_) (fun _=>T2 (Qn trivial))
 simp only [Qz,Qx]at hc
 refine T0 (T4 (by omega) (by omega)) fun e _=>?_
 exact T2 (Qy ⟨by omega,by subst hi;exact Qw (by omega) h,trivial⟩)
theorem QD6 {l:List (Int×Int)}(h:Asc l):∀{a:Int},(∀p∈l,a≤p.1)→∀(i:Nat) (hi:i<l.length),a+i≤(l[i]).1:=by
 induction l with
 | nil=>intro a _ i hi;simp at hi
 | cons p l ih=>
  intro a ha i hi
  obtain⟨h1,h2⟩:=QgM.1 h
  cases i with
  | zero=>have:=ha p Q5;simpa using this
  | succ i=>
   have h3:=ih h2 (a:=a+1) (fun q hq=>by have:=h1 q hq;have:=ha p Q5;omega) i (by simpa using hi)
   simp only [List.getElem_cons_succ]
   omega
theorem QDt {l:List (Int×Int)}(h:Asc l)(h0:0<l.length){k:Int}(hk:0<QI l k):k≤(l[l.length-1]).1:=by
 unfold QI at hk
 cases e:QR l k with
 | none=>rw [e]at hk;simp at hk
 | some v=>
  obtain⟨j,hj,hjk⟩:=Qk1.1 ((Qel h.nd).1 e)
  by_cases c:j=l.length-1
  ·subst c;rw [hjk];exact Int.le_refl _
  have:=List.pairwise_iff_getElem.1 h j (l.length-1) hj (by omega) (by omega)
  rw [hjk]at this
  simp only at this
  omega
def MOk (n:Qk)(c:Nat)(m:List (List (Int×Int))):Prop:=m.length=n.Places.length∧∀b∈m,Rt b∧b.length≤c
theorem MOk.mono {n:Qk}{c c':Nat}{m:List (List (Int×Int))}(h:MOk n c m)(hc:c≤c'):MOk n c' m:=⟨h.1,fun b hb=>⟨(h.2 b hb).1,Qaw (h.2 b hb).2 hc⟩⟩
def Low (n:Qk)(m:List (List (Int×Int))):Prop:=∀(j:Nat) b p,m[j]? = some b→n.Places[j]? = some p→∀k,0<QI b k→∃z,Qbd n.Colours p.Colour=some z∧k<z
theorem QzW (n1:Qk)(m:List (List (Int×Int)))(h:QU n1)(hm:QM (QM fun _=>True) m):Qf (Qnv n1 m) fun r=>r=true→MOk n1 1024 m∧Low n1 m:=by
 unfold Qnv
 refine T1 (fun _=>T2 fun h=>by cases h) fun hc=>?_
 have hl:m.length=n1.Places.length:=by simp only [bne_eq_false_iff_eq]at hc;omega
 refine T0 (Qf.up m.length (fun st=>st) (fun st=>∀(j:Nat) (hj:j<m.length),(j:Int)<st→(Rt m[j]∧(m[j]).length≤1024)∧∀p,n1.Places[j]? = some p→∀k,0<QI m[j] k→∃z,Qbd n1.Colours p.Colour=some z∧k<z) (Q:=fun q=>q=.inr ()→(∀b∈m,Rt b∧b.length≤1024)∧Low n1 m) rfl (fun j _ hj=>by omega) (fun i st hi hn hJ=>?_)) (fun q hq=>?_)
 ·show Qf (Qkb m n1 st) _
  unfold Qkb
  refine T1 (fun hc=>?_) (fun hc=>T2 (Qn fun _=>⟨fun b hb=>by
   obtain⟨j,hj,rfl⟩:=Qk1.1 hb
   simp only [QY]at hc
   exact(hJ j hj (by omega)).1,fun j b p hb hp=>by
   obtain⟨hj,rfl⟩:=QQ.1 hb
   simp only [QY]at hc
   exact(hJ j hj (by omega)).2 p hp⟩))
  simp only [Qx]at hc
  have hlt:i<m.length:=by omega
  have hlp:i<n1.Places.length:=by omega
  rw [hi,QN,QD hlt,Qi,QN,QD hlp,Qi]
  refine T0 (Qkj n1.Colours (n1.Places[i]).Colour h.1).self fun sz hsz=>?_
  obtain⟨hze,hsz⟩:=hsz
  have hb:=hm.2 _ (QaQ hlt)
  have hbl:=hb.1
  refine T0 (P:=fun r=>r=false→(Rt m[i]∧(m[i]).length≤1024)∧∀k,0<QI m[i] k→k<sz) ?_ fun x hx=>?_
  ·unfold Qrj
   rw [Qu6 _ hb.1,Qi]
   refine T1 (fun _=>T2 fun h=>by cases h) fun hr=>?_
   have hrt:=QgN.1 (by simpa using hr:rtF (-1) m[i]=true)
   refine T1 (fun h0=>?_) (fun h0=>T2 fun _=>⟨⟨hrt,by simp only [QY]at h0;omega⟩,fun k hk=>by
    simp only [QY]at h0
    rw [show m[i]=[]from QqV.1 (by omega)]at hk
    simp [QI,QR]at hk⟩)
   simp only [Qx]at h0
   unfold maxLen at hbl
   rw [Q6 (by omega),show((m[i]).length:Int)-1=(((m[i]).length-1:Nat):Int) by omega,QN,QD (by omega),Qi]
   refine T2 fun hf=>?_
   simp only [QY]at hf
   have:=QD6 hrt.1 (a:=0) (fun p hp=>(hrt.2 p hp).1) ((m[i]).length-1) (by omega)
   refine⟨⟨hrt,by omega⟩,fun k hk=>?_⟩
   have:=QDt hrt.1 (by omega) hk
   omega
  unfold Qka
  refine T1 (fun _=>T2 (Qn fun h=>by cases h)) fun hxf=>?_
  refine T2 (Qy ⟨hlt,Qw hlt hm.1,fun j hj hjs=>?_⟩)
  rw [Qw hlt hm.1]at hjs
  by_cases c:j=i
  ·subst c
   refine⟨(hx hxf).1,fun p hp k hk=>⟨sz,?_,(hx hxf).2 k hk⟩⟩
   rw [QD hlp]at hp
   cases hp
   exact hze
  exact hJ j hj (by omega)
 rcases q with q | q
 ·exact T2 fun h=>by cases h
 exact T2 fun _=>⟨⟨hl,(hq rfl).1⟩,(hq rfl).2⟩
structure Qay (n:Qk):Prop where
 k:QU n
 pl:n.Places.length≤70
 tl:n.Tasks.length≤12
 tk:∀t∈n.Tasks,t.Vars.length≤16∧t.Ins.length≤16∧t.Outs.length≤16∧t.Cancel.length≤16
theorem QCt (n1:Qk)(k2:Int)(h:Qdi n1 k2=some 0):∃t,idx n1.Tasks k2=some t∧t.Vars.length≤16∧t.Ins.length≤16∧t.Outs.length≤16∧t.Cancel.length≤16:=by
 unfold Qdi at h
 obtain⟨x5,_,h⟩:=Qc h
 rcases Qt h with⟨_,h⟩|⟨_,h⟩
 ·cases h
 obtain⟨x7,_,h⟩:=Qc h
 rcases Qt h with⟨c,h⟩|⟨_,h⟩
 ·simp only [Option.some.injEq]at h;rw [h]at c;cases c
 obtain⟨e9,he9,h⟩:=Qc h
 obtain⟨e10,he10,h⟩:=Qc h
 rw [he9]at he10;cases he10
 obtain⟨_,_,h⟩:=Qc h
 obtain⟨_,_,h⟩:=Qc h
 obtain⟨_,_,h⟩:=Qc h
 obtain⟨_,_,h⟩:=Qc h
 obtain⟨x15,hx,h⟩:=Qc h
 have bad:∀a b:Int,0<a→x15=(a,b)→False:=fun a b ha e=>by
  subst e
  simp only at h
  rcases Qt h with⟨c,h⟩|⟨_,h⟩
  ·simp only [beq_iff_eq]at c;omega
  simp only [Option.some.injEq]at h;omega
 unfold QgH at hx
 obtain⟨x20,_,hx⟩:=Qc hx
 rcases Qt hx with⟨_,hx⟩|⟨_,hx⟩
 ·exact(bad _ _ (by decide) (Option.some.inj hx).symm).elim
 obtain⟨x22,_,hx⟩:=Qc hx
 rcases Qt hx with⟨_,hx⟩|⟨_,hx⟩
 ·exact(bad _ _ (by decide) (Option.some.inj hx).symm).elim
 obtain⟨x24,h24,hx⟩:=Qc hx
 rcases Qt hx with⟨_,hx⟩|⟨c,hx⟩
 ·exact(bad _ _ (by decide) (Option.some.inj hx).symm).elim
 unfold Qik at h24
 simp only [Option.some.injEq]at h24
 rw [←h24]at c
 simp only [QiB,Qz,Qx,QlI]at c
 exact⟨e9,he9,by omega,by omega,by omega,by omega⟩
theorem QAG (l1:List QA)(n1:Qk)(h:QU n1)(hl:QM QaP l1):Qf (QcK l1 n1) fun r=>r.2=0→∀(j:Nat),j<l1.length→Qdi n1 j=some 0:=by
 unfold QcK
 refine T0 (Qf.up l1.length (fun st=>st) (fun st=>∀(j:Nat),(j:Int)<st→Qdi n1 j=some 0) (Q:=fun q=>(∀a b,q=.inl (a,b)→b≠0)∧(q=.inr ()→∀(j:Nat),j<l1.length→Qdi n1 j=some 0)) rfl (fun j hj=>by omega) (fun i st hi hn hJ=>?_)) (fun q hq=>?_)
 ·show Qf (QbX l1 n1 st) _
  unfold QbX
  refine T1 (fun hc=>?_) (fun hc=>T2 (Qn ⟨fun a b h=>(by cases h),fun _ j hj=>by
   simp only [QY]at hc
   exact hJ j (by omega)⟩))
  simp only [Qx]at hc
  refine T0 (T4 (by omega) (by omega)) fun e he=>?_
  refine T0 (P:=fun x=>Qdi n1 st=some x) ?_ fun x hx=>?_
  ·unfold Qjm
   exact T0 (QsD n1 st h).self fun x hx=>T2 hx.1
  refine T1 (fun hc=>T2 (Qn ⟨fun a b h=>(by cases h;simpa using hc),fun h=>(by cases h)⟩)) fun hc=>?_
  simp only [bne_eq_false_iff_eq]at hc
  refine T2 (Qy ⟨by omega,by rw [hi];exact Qw (by omega) hl.1,fun j hj=>?_⟩)
  rw [hi,Qw (show i<l1.length by omega) hl.1]at hj
  by_cases c:j=i
  ·subst c;rw [←hi,hx,hc]
  exact hJ j (by omega)
 rcases q with q | q
 ·exact T2 fun h=>absurd h (hq.1 q.1 q.2 rfl)
 exact T2 fun _=>hq.2 rfl
theorem QyH (n1:Qk)(h:QU n1){p:QfO}(hn:QhG n1=some (0,p)):∀t∈n1.Tasks,t.Vars.length≤16∧t.Ins.length≤16∧t.Outs.length≤16∧t.Cancel.length≤16:=by
 unfold QhG at hn
 obtain⟨x6,_,hn⟩:=Qc hn
 rcases Qt hn with⟨c,hn⟩|⟨_,hn⟩
 ·simp only [Option.some.injEq,Prod.mk.injEq]at hn;rw [hn.1]at c;cases c
 obtain⟨x8,_,hn⟩:=Qc hn
 rcases Qt hn with⟨c,hn⟩|⟨_,hn⟩
 ·simp only [Option.some.injEq,Prod.mk.injEq]at hn;rw [hn.1]at c;cases c
 obtain⟨x10,_,hn⟩:=Qc hn
 rcases Qt hn with⟨c,hn⟩|⟨_,hn⟩
 ·simp only [Option.some.injEq,Prod.mk.injEq]at hn;rw [hn.1]at c;cases c
 obtain⟨x12,h12,hn⟩:=Qc hn
 rcases Qt hn with⟨c,hn⟩|⟨c,hn⟩
 ·simp only [Option.some.injEq,Prod.mk.injEq]at hn;rw [hn.1]at c;cases c
 simp only [bne_eq_false_iff_eq]at c
 obtain⟨r,hr,hr2⟩:=QAG n1.Tasks n1 h h.2.2.1
 rw [h12]at hr;cases hr
 intro t ht
 obtain⟨j,hj,rfl⟩:=Qk1.1 ht
 obtain⟨t,h1,h2⟩:=QCt n1 j (hr2 c j hj)
 rw [QN,QD hj]at h1
 cases h1
 exact h2
theorem QES (n1:Qk)(m:List (List (Int×Int)))(h:QU n1)(hm:QM (QM fun _=>True) m):Qf (Qnw n1 m) fun r=>r=true→Qay n1∧MOk n1 1024 m∧Low n1 m:=by
 unfold Qnw
 refine T0 (QAR n1 h) fun x5 h5=>?_
 refine T0 (QD5 m hm.1) fun x6 _=>?_
 refine T1 (fun _=>T2 fun h=>by cases h) fun hc=>?_
 simp only [QcZ,QiB,QY]at hc
 have h5:=h5 hc.1
 refine T0 (QtN n1 h).self fun x11 h11=>?_
 refine T0 (P:=fun r=>r=false→Qay n1∧MOk n1 1024 m∧Low n1 m) ?_ fun x12 h12=>?_
 ·unfold Qrm
  refine T1 (fun _=>T2 fun h=>by cases h) fun hc1=>?_
  simp only [bne_eq_false_iff_eq]at hc1
  refine T0 (QzW n1 m h hm) fun r hr=>T2 fun hrf=>⟨⟨h,h5.2.1,by omega,?_⟩,hr (by simpa using hrf)⟩
  obtain⟨a,b⟩:=x11
  simp only at hc1
  subst hc1
  exact QyH n1 h h11.1
 unfold Qkd
 refine T1 (fun _=>T2 fun h=>by cases h) fun hx=>?_
 have hfin:=h12 hx
 refine T6 (P:=fun _=>True) ?_ fun _ _ _=>hfin
 refine T0 (Qf.up n1.Tasks.length (fun st=>st.2) (fun _=>True) (Q:=fun _=>True) rfl trivial (fun i st hi hn _=>?_)) (fun q _=>T3)
 obtain⟨a,x⟩:=st
 replace hi:x=(i:Int):=hi
 show Qf (Qkc n1 a x) _
 unfold Qkc
 refine T1 (fun hc=>?_) (fun _=>T2 (Qn trivial))
 simp only [Qx]at hc
 refine T0 (T4 (by omega) (by omega)) fun e _=>?_
 refine T0 (Qrx n1 x h) fun y _=>?_
 exact T2 (Qy ⟨by omega,by subst hi;exact Qw (by omega) h.2.2.1.1,trivial⟩)
end Go.Proofs
noncomputable section
namespace Go.Proofs
open Go Go.RowKit Go.Vm
theorem QyI (s:Qa9)(m:Int)(h:0≤s.k∧s.k<s.sizes.length):Qf (Qdz s m) fun r=>r=true→0≤m:=by
 unfold Qdz
 refine T0 (P:=fun r=>r=true→0≤m) ?_ fun x hx=>T2 hx
 unfold Qg2
 refine T1 (fun hc=>?_) fun _=>T2 fun h=>by cases h
 exact T0 (T4 h.1 h.2) fun _ _=>T2 fun _=>by simpa using hc
theorem Qiu (s:Qa9)(h:0≤s.k∧s.k<s.all.length):Qf (Qdd s) fun _=>True:=by
 unfold Qdd
 exact T0 (T4 h.1 h.2) fun _ _=>T3
theorem QDu (l:List QO)(k m:Int)(hl:QM Qcw l):Qf (Qfu l k m) fun _=>True:=by
 unfold Qfu
 refine T0 (Qjq l k hl) fun x hx=>?_
 refine T0 (P:=fun r=>r=false→x.1=true) ?_ fun r hr=>?_
 ·unfold QkJ
  refine T1 (fun _=>T2 fun h=>by cases h) fun hc=>?_
  have hc:x.1=true:=by simpa using hc
  have h:=hx.2 hc
  exact T0 (QyI x.2 m (by omega)) fun _ _=>T2 fun _=>hc
 unfold Qfb
 refine T1 (fun _=>T3) fun hc=>?_
 have h:=hx.2 (hr hc)
 refine T0 (Qiu x.2 (by omega)) fun _ _=>?_
 refine T1 (fun _=>?_) fun _=>T3
 exact T0 (Qiu x.2 (by omega)) fun _ _=>T3
theorem QzX (l:List QO)(k n:Int)(hl:QM Qcw l):Qf (Qfv l k n) fun r=>r.2=true→0≤r.1:=by
 unfold Qfv
 refine T0 (Qjq l k hl) fun x hx=>?_
 refine T1 (fun _=>T2 fun h=>by cases h) fun hc=>?_
 have h:=hx.2 (by simpa using hc)
 have k1:∀m,Qf (QcV x m) fun r=>r.2=true→0≤r.1:=fun m=>by
  unfold QcV
  refine T0 (QyI x.2 m (by omega)) fun y hy=>?_
  exact T1 (fun _=>T2 fun h=>by cases h) fun hc=>T2 fun _=>hy (by simpa using hc)
 refine T0 (Qiu x.2 (by omega)) fun _ _=>?_
 refine T1 (fun _=>?_) fun _=>k1 _
 exact T1 (fun _=>T2 fun h=>by cases h) fun _=>k1 _
theorem QCu (l:List QO)(k n:Int)(hl:QM Qcw l):Qf (Qfv l k n) fun r=>r.2=true→∃z,Qbd l k=some z∧r.1<z:=by
 unfold Qfv Qbd
 refine T0 (Qjq l k hl).self fun x hx=>?_
 obtain⟨hxe,hx⟩:=hx
 refine T1 (fun _=>T2 fun h=>by cases h) fun hc=>?_
 have h:=hx.2 (by simpa using hc)
 have hk:k.toNat<x.2.sizes.length:=by omega
 have ei:idx x.2.sizes k=some x.2.sizes[k.toNat]:=Qsw h.1.1 h.1.2
 have k1:∀m,Qf (QcV x m) fun r=>r.2=true→∃z,((Qf3 l k).bind fun x5=>bif (!x5.1)then some 0 else(idx x5.2.sizes k).bind fun e7=>some e7)=some z∧r.1<z:=fun m=>by
  unfold QcV
  refine T0 (P:=fun y=>y=true→m<x.2.sizes[k.toNat]) ?_ fun y hy=>?_
  ·unfold Qdz
   refine T0 (P:=fun y=>y=true→m<x.2.sizes[k.toNat]) ?_ fun y hy=>T2 hy
   unfold Qg2
   refine T1 (fun _=>?_) fun _=>T2 fun h=>by cases h
   rw [h.2.1,ei,Qi]
   exact T2 fun h=>by simpa using h
  refine T1 (fun _=>T2 fun h=>by cases h) fun hc2=>T2 fun _=>⟨x.2.sizes[k.toNat],?_,hy (by simpa using hc2)⟩
  rw [hxe,Qi,hc,cond_false,ei];rfl
 refine T0 (Qiu x.2 (by omega)) fun _ _=>?_
 refine T1 (fun _=>?_) fun _=>k1 _
 exact T1 (fun _=>T2 fun h=>by cases h) fun _=>k1 _
theorem Qee {α:Type}{o:Option α}{P:α→Prop}(h:Qf o P){r:α}(e:o=some r):P r:=by
 obtain⟨r',h1,h2⟩:=h
 rw [e]at h1;cases h1;exact h2
theorem QzY : ∀(n:Nat) (v:List Int) (e:Ql),POk v.length e→SizeOf.sizeOf e≤n→Qf (QaK n v e) fun _=>True
 | 0,_,e,_,h=>absurd e.pos (by omega)
 | n+1,v,e,he,h=>by
  cases he with
  | mk _ hk h2 h3 h5 h6 hr=>
  unfold QaK QlU
  have sub:∀(j:Nat) (hj:j<e.Kids.length),Qf (QaK n v (e.Kids[j])) fun _=>True:=fun j hj=>
   QzY n v _ (hr _ (QaQ hj)) (by have:=QuS (QaQ hj);omega)
  have kid:∀(j:Nat) (hj:j<e.Kids.length),idx e.Kids (j:Int)=some e.Kids[j]:=fun j hj=>by rw [QN,QD hj]
  rcases hk with hk | hk | hk | hk | hk | hk
  ·refine T0 (P:=fun x=>x=.inl v) (by unfold Qdb;rw [hk];exact T2 rfl) fun x hx=>?_
   subst hx
   exact T3
  ·refine T0 (P:=fun x=>x=.inr (.inl v)) (by unfold Qdb;rw [hk];exact T2 rfl) fun x hx=>?_
   subst hx
   show Qf (Qht e v) _
   unfold Qht QjA
   have:=h2 hk
   exact T0 (T0 (T4 (by omega) (by omega)) fun _ _=>T3) fun _ _=>T3
  ·refine T0 (P:=fun x=>x=.inr (.inr (.inl v))) (by unfold Qdb QcU;rw [hk];exact T2 rfl) fun x hx=>?_
   subst hx
   show Qf (QdK (QaK n) e v) _
   unfold QdK Qh9
   have hl:=h3 (.inl hk)
   refine T0 (P:=fun _=>True) ?_ fun _ _=>T3
   rw [show idx e.Kids 0=some (e.Kids[0]'(by omega))from kid 0 (by omega),Qi]
   refine T0 (sub 0 (by omega)) fun x _=>?_
   refine T1 (fun _=>T3) fun _=>T1 (fun _=>T0 (Qu5 _) fun _ _=>T3) fun _=>T0 (Qmp _ _ _) fun _ _=>T3
  ·refine T0 (P:=fun x=>x=.inr (.inr (.inl v))) (by unfold Qdb QcU;rw [hk];exact T2 rfl) fun x hx=>?_
   subst hx
   show Qf (QdK (QaK n) e v) _
   unfold QdK Qh9
   have hl:=h3 (.inr hk)
   refine T0 (P:=fun _=>True) ?_ fun _ _=>T3
   rw [show idx e.Kids 0=some (e.Kids[0]'(by omega))from kid 0 (by omega),Qi]
   refine T0 (sub 0 (by omega)) fun x _=>?_
   refine T1 (fun _=>T3) fun _=>T1 (fun _=>T0 (Qu5 _) fun _ _=>T3) fun _=>T0 (Qmp _ _ _) fun _ _=>T3
  ·refine T0 (P:=fun x=>x=.inr (.inr (.inr (.inl v)))) (by unfold Qdb QcU;rw [hk];exact T2 rfl) fun x hx=>?_
   subst hx
   show Qf (Qhu (QaK n) e v) _
   unfold Qhu Qn8
   have hl:=h5 hk
   refine T0 (P:=fun _=>True) ?_ fun _ _=>T3
   rw [show idx e.Kids 0=some (e.Kids[0]'(by omega))from kid 0 (by omega),Qi]
   refine T0 (sub 0 (by omega)) fun x _=>?_
   have k1:∀b,Qf (Qed x e (QaK n) v b) fun _=>True:=fun b=>by
    unfold Qed
    refine T1 (fun _=>T0 (Qmp _ _ _) fun _ _=>T3) fun _=>?_
    rw [show idx e.Kids 1=some (e.Kids[1]'(by omega))from kid 1 (by omega),Qi]
    refine T0 (sub 1 (by omega)) fun y _=>?_
    exact T1 (fun _=>T3) fun _=>T0 (Qmp _ _ _) fun _ _=>T3
   exact T1 (fun _=>T3) fun _=>T1 (fun _=>k1 _) fun _=>T1 (fun _=>k1 _) fun _=>k1 _
  refine T0 (P:=fun x=>x=.inr (.inr (.inr (.inr v)))) (by unfold Qdb QcU;rw [hk];exact T2 rfl) fun x hx=>?_
  subst hx
  show Qf (Qhv (QaK n) e v) _
  unfold Qhv QlT
  have hl:=h6 hk
  refine T0 (P:=fun _=>True) ?_ fun _ _=>T3
  rw [show idx e.Kids 0=some (e.Kids[0]'(by omega))from kid 0 (by omega),Qi]
  refine T0 (sub 0 (by omega)) fun x _=>?_
  refine T1 (fun _=>T3) fun _=>T1 (fun _=>?_) fun _=>?_
  ·rw [show idx e.Kids 1=some (e.Kids[1]'(by omega))from kid 1 (by omega),Qi]
   exact T0 (sub 1 (by omega)) fun y _=>T3
  rw [show idx e.Kids 2=some (e.Kids[2]'(by omega))from kid 2 (by omega),Qi]
  exact T0 (sub 2 (by omega)) fun y _=>T3
theorem QzZ (e:Ql)(v:List Int)(h:QdL e):Qf (Ql6 e v) fun _=>True:=by
 unfold Ql6
 refine T0 (Qoc e v.length h) fun x hx=>?_
 refine T1 (fun _=>T3) fun hc=>?_
 unfold Qnx
 exact T0 (QzY _ v e (hx (by simpa using hc)) (QbY _)) fun _ _=>T3
theorem QxH (n:Qk)(task:Int)(vars:List Int)(h:Qay n):Qf (QfT n task vars) fun r=>r.2=0→0≤task∧task<n.Tasks.length:=by
 unfold QfT
 refine T1 (fun _=>T2 fun h=>by cases h) fun hc=>?_
 simp only [QcZ,QY]at hc
 refine T0 (T4 (by omega) (by omega)) fun e he=>?_
 have hv:=(h.tk e he).1
 have ke:=h.k.2.2.1.2 e he
 refine T1 (fun _=>T2 fun h=>by cases h) fun hl=>?_
 simp only [bne_eq_false_iff_eq]at hl
 refine T0 (T5 (by simp only [Qz,Qx];omega)) fun _ _=>?_
 refine T6 (P:=fun _=>True) ?_ fun _ _ _=>by omega
 refine T0 (Qf.up e.Vars.length (fun st=>st.1) (fun st=>st.2.length=e.Vars.length) (Q:=fun _=>True) rfl (by simp) (fun i st hi hn hJ=>?_)) (fun q _=>?_)
 ·obtain⟨x,l⟩:=st
  replace hi:x=(i:Int):=hi
  replace hJ:l.length=e.Vars.length:=hJ
  show Qf (Qhb e vars n x l) _
  unfold Qhb
  refine T1 (fun hc=>?_) (fun _=>T2 (Qn trivial))
  simp only [Qx]at hc
  refine T0 (T4 (by omega) (by omega)) fun a _=>?_
  refine T0 (T4 (by omega) (by omega)) fun b _=>?_
  refine T0 (QDu _ _ _ h.k.1) fun c _=>?_
  refine T1 (fun _=>T2 (Qn trivial)) fun _=>?_
  refine T0 (T4 (by omega) (by omega)) fun d _=>?_
  exact T2 (Qy ⟨by omega,by subst hi;exact Qw (by omega) (by unfold maxLen;omega:e.Vars.length≤maxLen),by simpa using hJ⟩)
 rcases q with q | q
 ·exact T3
 exact T3
theorem Qod {α:Type}{l:List α}{i:Nat}{x y:α}(h:y∈l.set i x):y=x∨y∈l:=by
 rcases Qzc h with h | h
 ·exact .inr h
 exact .inl h
theorem QqC (n:Qk)(l:List QX)(which env:List Int)(h:Qay n)(hl:QM Qjo l)(hw:which.length≤1000):Qf (QcY n l which env) fun r=>r.2=0→MOk n which.length r.1∧Low n r.1:=by
 unfold QcY
 have hpl:=h.pl
 refine T0 (T5 (by simp only [Qz,Qx];omega)) fun _ _=>?_
 refine T0 (Qf.up which.length (fun st=>st.1) (fun st=>(st.2.length=n.Places.length∧∀b∈st.2,Rt b∧(b.length:Int)≤st.1)∧Low n st.2) (Q:=fun q=>(∀x,q=.inl x→x≠0)∧∀m,q=.inr m→MOk n which.length m∧Low n m) rfl ⟨⟨by simp,fun b hb=>?_⟩,fun j b p hb hp k hk=>?_⟩ (fun i st hi hn hJ=>?_)) (fun q hq=>?_)
 ·have:=QqS hb
  subst this
  exact⟨Rt.nil,by simp⟩
 ·have:=QqS (QaL hb)
  subst this
  simp [QI,QR]at hk
 ·obtain⟨x,m⟩:=st
  replace hi:x=(i:Int):=hi
  obtain⟨⟨hJ1,hJ2⟩,hJ3⟩:(m.length=n.Places.length∧∀b∈m,Rt b∧(b.length:Int)≤x)∧Low n m:=hJ
  have err:∀y:Int,y≠0→(∀s',(Sum.inr (Sum.inl y):(Int×List (List (Int×Int)))⊕(Int⊕List (List (Int×Int))))=.inl s'→i<which.length∧s'.1=((i+1:Nat):Int)∧(s'.2.length=n.Places.length∧∀b∈s'.2,Rt b∧(b.length:Int)≤s'.1)∧Low n s'.2)∧∀r,(Sum.inr (Sum.inl y):(Int×List (List (Int×Int)))⊕(Int⊕List (List (Int×Int))))=.inr r→(∀x,r=.inl x→x≠0)∧∀m,r=.inr m→MOk n which.length m∧Low n m:=
   fun y hy=>⟨fun s' e=>(by cases e),fun r e=>(by cases e;exact⟨fun x e=>(by cases e;exact hy),fun m e=>(by cases e)⟩)⟩
  show Qf (QeQ which l env n x m) _
  unfold QeQ
  refine T1 (fun hc=>?_) (fun hc=>T2 (Qn ⟨fun x e=>(by cases e),fun m' e=>?_⟩))
  ·simp only [Qx]at hc
   refine T0 (T4 (by omega) (by omega)) fun e18 _=>?_
   refine T1 (fun _=>T2 (err _ (by decide))) fun hc1=>?_
   simp only [QcZ,QY]at hc1
   refine T0 (T4 (by omega) (by omega)) fun e22 h22=>?_
   refine T0 (QzZ e22.Expr env (hl.2 e22 h22).2) fun x23 _=>?_
   refine T1 (fun hc2=>T2 (err _ (by simpa using hc2))) fun _=>?_
   refine T0 (T4 (by omega) (by omega)) fun e25 _=>?_
   refine T1 (fun _=>T2 (err _ (by decide))) fun hc3=>?_
   simp only [QcZ,QY]at hc3
   refine T0 (T4 (by omega) (by omega)).self fun e29 h29=>?_
   refine T0 (QzX _ _ _ h.k.1).self fun x30 h30=>?_
   refine T1 (fun _=>T2 (err _ (by decide))) fun hc4=>?_
   have hz:=Qee (QCu _ _ _ h.k.1) h30.1 (by simpa using hc4)
   have h30:=h30.2 (by simpa using hc4)
   refine T0 (T4 (by omega) (by omega)).self fun e32 h32e=>?_
   have h32:=h32e.2
   have h32e:=h32e.1
   have h29:=h29.1
   rw [QxG,Qa4 h30]
   simp only [cond_true,Qi]
   have hb:=hJ2 e32 h32
   have key:∃s,QbQ e32 [(x30.1,1)]=some s∧(s.2=0→(Rt s.1∧s.1.length≤e32.length+1)∧∀k,QI s.1 k=QI e32 k+QI [(x30.1,1)] k):=by
    rcases QkU e32 [(x30.1,1)] (by simp;omega)with⟨_,e⟩|⟨_,_,_,e⟩|⟨_,_,r,e,h1,hcn,h2⟩
    ·exact⟨_,e,fun h=>by cases h⟩
    ·exact⟨_,e,fun h=>by cases h⟩
    exact⟨_,e,fun _=>⟨⟨h1,by simpa using h2⟩,hcn⟩⟩
   obtain⟨s,es,hs⟩:=key
   rw [es,Qi]
   refine T0 (T4 (by omega) (by omega)) fun _ _=>?_
   refine T1 (fun hc5=>T2 (err _ (by simpa using hc5))) fun hc5=>?_
   obtain⟨hs,hcn⟩:=hs (by simpa using hc5)
   refine T2 (Qy ⟨by omega,by subst hi;exact Qw (by omega) (by unfold maxLen;omega:which.length≤maxLen),⟨by simpa using hJ1,fun b hb'=>?_⟩,fun j b p hb' hp k hk=>?_⟩)
   ·subst hi
    show Rt b∧(b.length:Int)≤w64 ((i:Int)+1)
    rw [Qw (by omega) (by unfold maxLen;omega:which.length≤maxLen)]
    rcases Qod hb' with rfl | hb'
    ·exact⟨hs.1,by omega⟩
    have:=hJ2 b hb'
    exact⟨this.1,by omega⟩
   have hb':(m.set e25.Place.toNat s.1)[j]? = some b:=hb'
   by_cases cj:e25.Place.toNat=j
   ·subst cj
    rw [QqU (by omega)]at hb'
    cases hb'
    rw [Qm3 (by omega)]at h29 h32e
    rw [h29]at hp
    cases hp
    rw [hcn]at hk
    by_cases c0:0<QI e32 k
    ·exact hJ3 _ e32 e29 h32e h29 k c0
    have h9:0<QI [(x30.1,1)] k:=by omega
    have h8:x30.1=k:=by
     apply Decidable.byContradiction
     intro hne
     simp [QI,QR,hne]at h9
    obtain⟨z,hz1,hz2⟩:=hz
    exact⟨z,hz1,by omega⟩
   rw [QqT cj]at hb'
   exact hJ3 j b p hb' hp k hk
  cases e
  exact⟨⟨hJ1,fun b hb=>⟨(hJ2 b hb).1,by have:=(hJ2 b hb).2;omega⟩⟩,hJ3⟩
 rcases q with q | q
 ·exact T2 fun h=>absurd h (hq.1 q rfl)
 exact T2 fun _=>hq.2 q rfl
theorem Qz0 (a m:List (List (Int×Int)))(ha:QM (QM fun _=>True) a)(hm:QM (QM fun _=>True) m):Qf (Qjn a m) fun _=>True:=by
 unfold Qjn Qat
 refine T0 (P:=fun _=>True) ?_ fun _ _=>T3
 refine T1 (fun _=>T3) fun hc=>?_
 simp only [bne_eq_false_iff_eq]at hc
 refine T0 (Qf.up a.length (fun st=>st) (fun _=>True) (Q:=fun _=>True) rfl trivial (fun i st hi hn hJ=>?_)) (fun q _=>?_)
 ·show Qf (Q9 a m st) _
  unfold Q9
  refine T1 (fun hc=>?_) (fun _=>T2 (Qn trivial))
  simp only [Qx]at hc
  refine T0 (T4 (by omega) (by omega)) fun x hx=>?_
  refine T0 (T4 (by omega) (by omega)) fun y hy=>?_
  refine T0 (P:=fun _=>True) (by obtain⟨r,hr,_⟩:=QxF x y (ha.2 x hx).1 (hm.2 y hy).1;exact⟨r,hr,trivial⟩) fun _ _=>?_
  exact T1 (fun _=>T2 (Qn trivial)) fun _=>T2 (Qy ⟨by omega,by rw [hi];exact Qw (by omega) ha.1,trivial⟩)
 rcases q with q | q
 ·exact T3
 exact T3
theorem MOk.len {n:Qk}{c:Nat}{m:List (List (Int×Int))}(h:MOk n c m)(hn:Qay n)(hc:c≤1000000):QM (QM fun _=>True) m:=
 ⟨by have:=h.1;have:=hn.pl;unfold maxLen;omega,fun b hb=>⟨by have:=(h.2 b hb).2;unfold maxLen;omega,fun _ _=>trivial⟩⟩
end Go.Proofs
noncomputable section
namespace Go.Proofs
open Go Go.RowKit Go.Vm
structure BOk (n:Qk) (m:List (List (Int×Int))) (b:QP):Prop where
 net:b.net=n
 mm:b.m=m
 task:b.task∈n.Tasks
theorem QAS (n:Qk)(m:List (List (Int×Int)))(task:Int)(vars:List Int)(h:Qay n):Qf (Qcl n m task vars) fun r=>r.1=0→BOk n m r.2:=by
 unfold Qcl
 refine T0 (QxH n task vars h) fun x hx=>?_
 refine T1 (fun hc=>T2 fun h=>absurd h (by simpa using hc)) fun hc=>?_
 have:=hx (by simpa using hc)
 exact T0 (T4 this.1 this.2) fun e he=>T2 fun _=>⟨rfl,rfl,he⟩
theorem QyJ (n:Qk)(m:List (List (Int×Int)))(b:QP)(h:Qay n)(hb:BOk n m b):Qf (Qam b) fun _=>True:=by
 unfold Qam
 refine T0 (QzZ _ _ (h.k.2.2.1.2 _ hb.task).2.2.1) fun x _=>?_
 exact T1 (fun _=>T3) fun _=>T1 (fun _=>T3) fun _=>T3
theorem Qyl (n:Qk)(m:List (List (Int×Int)))(b:QP)(outs:List Int)(h:Qay n)(hb:BOk n m b)(ho:outs.length≤1000):Qf (QaB b outs) fun _=>True:=by
 unfold QaB
 rw [hb.net]
 exact T0 (QqC n _ outs _ h (h.k.2.2.1.2 _ hb.task).2.2.2.2.2.2.1 ho) fun x _=>T3
theorem QBC (l:List Int)(x:Int)(h:l.length≤maxLen):Qf (QbK l x) fun _=>True:=QiA l x ⟨h,fun _ _=>trivial⟩
theorem QoL (l:List Int)(h:l.length≤4294967296):Qad l=some l:=by
 unfold Qad
 rw [QnH (by simp;omega)];rfl
theorem QDv (l:List Int)(h:l.length≤4294967296):QaW l=some (QeW l):=by
 unfold QaW
 rw [QnH (by omega)];rfl
theorem QAT (n:Qk)(m:List (List (Int×Int)))(b:QP)(ins:List Int)(h:Qay n)(hb:BOk n m b)(hm:QM (QM fun _=>True) m)(hi:ins.length≤100):Qf (Qap b ins) fun _=>True:=by
 have ki:=(h.k.2.2.1.2 _ hb.task).2.2.2.2.2.1
 have kl:=(h.tk _ hb.task).2.1
 unfold Qap
 rw [hb.net,hb.mm]
 refine T0 (QqC n _ ins _ h ki (by omega)) fun x hx=>?_
 refine T1 (fun _=>T3) fun hc=>?_
 have hx:=hx (by simpa using hc)
 refine T0 (Qz0 _ _ (hx.1.len h (by omega)) hm) fun y _=>?_
 refine T1 (fun _=>T3) fun _=>T1 (fun _=>T3) fun _=>?_
 refine T0 (Qf.up b.task.Ins.length (fun st=>st) (fun _=>True) (Q:=fun _=>True) rfl trivial (fun i st hi hn _=>?_)) (fun q _=>?_)
 ·show Qf (Qe3 b ins st) _
  unfold Qe3
  refine T1 (fun hc=>?_) (fun _=>T2 (Qn trivial))
  simp only [Qx]at hc
  have step:Qf (Qe1 st) fun o=>(∀s',o=.inl s'→i<b.task.Ins.length∧s'=((i+1:Nat):Int)∧True)∧∀r:Unit⊕Unit,o=.inr r→True:=
   T2 (Qy (ix:=fun st=>st) (J:=fun _=>True) (Q:=fun _=>True) ⟨by omega,by rw [hi];exact Qw (by omega) ki.1,trivial⟩)
  refine T0 (QBC ins st (by unfold maxLen;omega)) fun z _=>?_
  refine T1 (fun _=>step) fun _=>?_
  rw [QoL ins (by omega),Qi]
  refine T0 (T5 (by simp;omega)) fun _ _=>?_
  rw [QDv _ (by simp;omega),Qi]
  refine T0 (T5 (by simp [Qhi])) fun _ _=>?_
  rw [hb.net]
  refine T0 (QqC n _ _ _ h ki (by rw [Qhi];simp;omega)) fun u hu=>?_
  refine T0 (P:=fun _=>True) ?_ fun v _=>?_
  ·unfold Qme
   rw [hb.mm]
   refine T1 (fun hc2=>?_) fun _=>T3
   have hu:=hu (by simpa using hc2)
   refine T0 (Qz0 _ _ (hu.1.len h (by rw [Qhi];simp;omega)) hm) fun _ _=>T3
  unfold Qe2
  exact T1 (fun _=>T2 (Qn trivial)) fun _=>step
 rcases q with q | q
 ·exact T3
 exact T3
def QkV (r:List (List Int)):Prop:=r.length≤16∧∀row∈r,row.length≤16
def chB (o:Option (List (List Int))):Bool:=match o with
 | some r=>decide (r.length≤16)&&r.all fun row=>decide (row.length≤16)
 | none=>false
theorem Qz1 {o:Option (List (List Int))}(h:chB o=true):Qf o QkV:=by
 cases o with
 | none=>cases h
 | some r=>
  simp only [chB,Qz,Qx,Qac]at h
  exact T2 h
theorem QET {arcs:Int}(h0:¬arcs<0)(h1:¬16<arcs):arcs=0∨arcs=1∨arcs=2∨arcs=3∨arcs=4∨arcs=5∨arcs=6∨arcs=7∨arcs=8∨arcs=9∨arcs=10∨arcs=11∨arcs=12∨arcs=13∨arcs=14∨arcs=15∨arcs=16:=by omega
set_option maxRecDepth 100000 in
theorem QrA (kind arcs:Int):Qf (QaF kind arcs) QkV:=by
 by_cases hg:((decide (arcs<0))||((decide (16<arcs))||((kind==3)&&(decide (4<arcs)))))=true
 ·unfold QaF
  rw [hg]
  exact T2 ⟨by simp,fun r h=>by cases h⟩
 simp only [QdN,Qz,Qx,beq_iff_eq,not_or,not_and]at hg
 obtain⟨h0,h1,h2⟩:=hg
 by_cases e1:kind=1
 ·subst e1
  rcases QET h0 h1 with rfl | rfl | rfl | rfl | rfl | rfl | rfl | rfl | rfl | rfl | rfl | rfl | rfl | rfl | rfl | rfl | rfl<;>exact Qz1 (by kernel_rfl)
 by_cases e2:kind=2
 ·subst e2
  rcases QET h0 h1 with rfl | rfl | rfl | rfl | rfl | rfl | rfl | rfl | rfl | rfl | rfl | rfl | rfl | rfl | rfl | rfl | rfl<;>exact Qz1 (by kernel_rfl)
 by_cases e3:kind=3
 ·subst e3
  have h3:=h2 rfl
  have:arcs=0∨arcs=1∨arcs=2∨arcs=3∨arcs=4:=by omega
  rcases this with rfl | rfl | rfl | rfl | rfl<;>exact Qz1 (by kernel_rfl)
 have f1:(kind==1)=false:=by simpa using e1
 have f2:(kind==2)=false:=by simpa using e2
 have f3:(kind==3)=false:=by simpa using e3
 unfold QaF Qea
 rw [f1,f2,f3]
 exact T1 (fun _=>T2 ⟨by simp,fun r h=>by cases h⟩) fun _=>T2 ⟨by simp,fun r h=>by cases h⟩
theorem QD7 (a b:List Int)(ha:a.length≤maxLen):Qf (QbB a b) fun _=>True:=by
 unfold QbB
 refine T1 (fun _=>T3) fun hc=>?_
 simp only [bne_eq_false_iff_eq]at hc
 refine T0 (Qf.up a.length (fun st=>st) (fun _=>True) (Q:=fun _=>True) rfl trivial (fun i st hi hn hJ=>?_)) (fun q _=>?_)
 ·show Qf (QbL a b st) _
  unfold QbL
  refine T1 (fun hc=>?_) (fun _=>T2 (Qn trivial))
  simp only [Qx]at hc
  refine T0 (T4 (by omega) (by omega)) fun x hx=>?_
  refine T0 (T4 (by omega) (by omega)) fun y hy=>?_
  exact T1 (fun _=>T2 (Qn trivial)) fun _=>T2 (Qy ⟨by omega,by rw [hi];exact Qw (by omega) ha,trivial⟩)
 rcases q with q | q
 ·exact T3
 exact T3
theorem Qz2 (kind arcs:Int)(row:List Int):Qf (Qej kind arcs row) fun _=>True:=by
 unfold Qej Qcf QcH
 refine T0 (QrA kind arcs) fun x hx=>?_
 refine T0 (P:=fun _=>True) ?_ fun _ _=>T3
 refine T0 (P:=fun _=>True) ?_ fun _ _=>T3
 have hl:=hx.1
 refine T0 (Qf.up x.length (fun st=>st) (fun _=>True) (Q:=fun _=>True) rfl trivial (fun i st hi hn hJ=>?_)) (fun q _=>?_)
 ·show Qf (Qai x row st) _
  unfold Qai Qkg
  refine T1 (fun hc=>?_) (fun _=>T2 (Qn trivial))
  simp only [Qx]at hc
  refine T0 (T4 (by omega) (by omega)) fun e he=>?_
  have:=hx.2 e he
  refine T0 (T0 (QD7 e row (by unfold maxLen;omega)) fun _ _=>T3) fun _ _=>?_
  exact T1 (fun _=>T2 (Qn trivial)) fun _=>T2 (Qy ⟨by omega,by rw [hi];exact Qw (by omega) (by unfold maxLen;omega:x.length≤maxLen),trivial⟩)
 rcases q with q | q
 ·exact T3
 exact T3
def QbN (n:Qk)(o:Qq):Prop:=o.Vars.length≤20∧o.Ins.length≤20∧o.Outs.length≤20
theorem QD8 (n:Qk)(m:List (List (Int×Int)))(o:Qq)(h:Qay n)(hm:QM (QM fun _=>True) m)(ho:QbN n o):Qf (Qfd n m o) fun _=>True:=by
 unfold Qfd
 refine T0 (QAS n m o.Task o.Vars h) fun x hx=>?_
 have k3:∀e,(e=0→x.1=0)→Qf (Qdc x o e) fun _=>True:=fun e he=>by
  unfold Qdc
  refine T1 (fun _=>T3) fun hc=>?_
  have hb:=hx (he (by simpa using hc))
  refine T0 (P:=fun _=>True) ?_ fun y _=>?_
  ·unfold Qkh
   refine T0 (Qz2 _ _ _) fun z _=>?_
   exact T1 (fun _=>T3) fun _=>T0 (Qz2 _ _ _) fun _ _=>T3
  unfold Qfx
  refine T1 (fun _=>T3) fun _=>?_
  refine T0 (QAT n m x.2 o.Ins h hb hm (by have:=ho.2.1;omega)) fun z _=>?_
  refine T1 (fun _=>T3) fun _=>?_
  exact T0 (Qyl n m x.2 o.Outs h hb (by have:=ho.2.2;omega)) fun _ _=>T3
 refine T1 (fun hc=>?_) fun hc=>k3 _ fun h=>h
 have hc:x.1=0:=by simpa using hc
 exact T0 (QyJ n m x.2 h (hx hc)) fun e _=>k3 e fun _=>hc
theorem QAU (n:Qk)(o:Qq)(h:Qay n)(ho:QbN n o):Qf (QgK n o) fun r=>r.2=0→MOk n 20 r.1∧Low n r.1:=by
 unfold QgK
 refine T0 (QxH n o.Task o.Vars h) fun x hx=>?_
 refine T1 (fun hc=>T2 fun h=>absurd h (by simpa using hc)) fun hc=>?_
 have:=hx (by simpa using hc)
 refine T0 (T4 this.1 this.2) fun e he=>?_
 have hl:=ho.2.1
 exact T0 (QqC n _ _ _ h (h.k.2.2.1.2 _ he).2.2.2.2.2.1 (by omega)) fun y hy=>T2 fun h0=>⟨(hy h0).1.mono hl,(hy h0).2⟩
theorem Qym (n:Qk)(o:Qq)(h:Qay n)(ho:QbN n o):Qf (QgL n o) fun r=>r.2=0→(MOk n 20 r.1∧Low n r.1)∧0≤o.Task∧o.Task<n.Tasks.length:=by
 unfold QgL
 refine T0 (QxH n o.Task o.Vars h) fun x hx=>?_
 refine T1 (fun hc=>T2 fun h=>absurd h (by simpa using hc)) fun hc=>?_
 have:=hx (by simpa using hc)
 refine T0 (T4 this.1 this.2) fun e he=>?_
 have hl:=ho.2.2
 exact T0 (QqC n _ _ _ h (h.k.2.2.1.2 _ he).2.2.2.2.2.2.1 (by omega)) fun y hy=>T2 fun h0=>⟨⟨(hy h0).1.mono hl,(hy h0).2⟩,this⟩
end Go.Proofs
