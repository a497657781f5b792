/- A part of the proof; what it holds is told at each theorem. -/
import Derived.Test.YtidpjdkldadlpaaGreatDoorM3XPlA
import Derived.Test.YtidpjdkldadlpaaGreatDoorM3V3
import Derived.Test.YtidpjdkldadlpaaGreatDoorM3T3
import Derived.KernelRfl
set_option linter.unusedVariables false
set_option linter.unusedSimpArgs false
set_option linter.unusedSectionVars false
set_option linter.deprecated false
namespace Go.Vm
open Go Go.RowKit
def Qg {α:Type}(o:Option α)(Q:α→Prop):Prop:=∃r,o=some r∧Q r
section
variable {α β σ ρ:Type}
theorem Qg.ok {a:α}{Q:α→Prop}(h:Q a):Qg (some a) Q:=⟨a,rfl,h⟩
theorem Qg.okT {a:α}:Qg (some a) fun _=>True:=⟨a,rfl,trivial⟩
theorem Qg.bind {o:Option α}{f:α→Option β}{P:α→Prop}{Q:β→Prop}(h:Qg o P)(k:∀x,P x→Qg (f x) Q):Qg (o.bind f) Q:=by
 obtain⟨x,rfl,hx⟩:=h
 exact k x hx
theorem Qg.bif {c:Bool}{a b:Option α}{Q:α→Prop}(h1:c=true→Qg a Q)(h2:c=false→Qg b Q):Qg (bif c then a else b) Q:=by
 cases c with
 | true=>exact h1 rfl
 | false=>exact h2 rfl
theorem Qg.chk {c:Bool}(h:c=true):Qg (chk c) fun _=>True:=⟨(),QwG h,trivial⟩
theorem Qg.idx {l:List α}{j:Int}(h0:0≤j)(h1:j<l.length):Qg (idx l j) fun x=>x∈l:=by
 rw [Qub h0 h1]
 exact⟨_,rfl,Qay _⟩
theorem Qg.get {l:List α}{j:Nat}(h1:j<l.length):Qg (l[j]?) fun x=>x∈l:=by
 rw [QB h1]
 exact⟨_,rfl,Qay _⟩
theorem Qg.sidx {s:ByteArray}{j:Int}(h0:0≤j)(h1:j<s.size):Qg (sidx s j) fun _=>True:=by
 unfold Vm.sidx
 rw [if_pos h0]
 have:j.toNat<s.size:=by omega
 rw [getElem?_pos s j.toNat this]
 exact⟨_,rfl,trivial⟩
theorem Qg.mono {o:Option α}{P Q:α→Prop}(h:Qg o P)(k:∀x,P x→Q x):Qg o Q:=let ⟨r,h1,h2⟩:=h;⟨r,h1,k r h2⟩
theorem Qg.tot {o:Option α}{P:α→Prop}(h:Qg o P):∃r,o=some r:=let ⟨r,h1,_⟩:=h;⟨r,h1⟩
theorem Qg.self {o:Option α}{P:α→Prop}(h:Qg o P):Qg o fun x=>o=some x∧P x:=let ⟨r,h1,h2⟩:=h;⟨r,h1,h1,h2⟩
theorem Qg.up {body:σ→Option (σ⊕ρ)}(n:Nat)(ix:σ→Int)(J:σ→Prop){Q:ρ→Prop}{s0:σ}(h0:ix s0=0)(hJ:J s0)
  (step:∀(i:Nat) s,ix s=(i:Int)→i≤n→J s→Qg (body s) fun o=>(∀s',o=.inl s'→i<n∧ix s'=((i+1:Nat):Int)∧J s')∧∀r,o=.inr r→Q r):Qg (QJ body s0) Q:=by
 have key:∀k i s,i+k=n→ix s=(i:Int)→J s→∃r,QJ body s=some r∧Q r:=by
  intro k
  induction k with
  | zero=>
   intro i s hk hi hj
   obtain⟨o,ho,h1,h2⟩:=step i s hi (by omega) hj
   rw [Qdf,ho]
   cases o with
   | inl s'=>have:=(h1 s' rfl).1;omega
   | inr r=>exact⟨r,rfl,h2 r rfl⟩
  | succ k ih=>
   intro i s hk hi hj
   obtain⟨o,ho,h1,h2⟩:=step i s hi (by omega) hj
   rw [Qdf,ho]
   cases o with
   | inl s'=>
    obtain⟨_,h3,h4⟩:=h1 s' rfl
    exact ih (i+1) s' (by omega) h3 h4
   | inr r=>exact⟨r,rfl,h2 r rfl⟩
 exact key n 0 s0 (by omega) h0 hJ
theorem QF {s:σ}{n i:Nat}{ix:σ→Int}{J:σ→Prop}{Q:ρ→Prop}(h:i<n∧ix s=((i+1:Nat):Int)∧J s):
  (∀s',(Sum.inl s:σ⊕ρ)=.inl s'→i<n∧ix s'=((i+1:Nat):Int)∧J s')∧∀r,(Sum.inl s:σ⊕ρ)=.inr r→Q r:=
 ⟨fun s' e=>(by cases e;exact h),fun r e=>(by cases e)⟩
theorem Qn {r:ρ}{n i:Nat}{ix:σ→Int}{J:σ→Prop}{Q:ρ→Prop}(h:Q r):
  (∀s',(Sum.inr r:σ⊕ρ)=.inl s'→i<n∧ix s'=((i+1:Nat):Int)∧J s')∧∀r',(Sum.inr r:σ⊕ρ)=.inr r'→Q r':=
 ⟨fun s' e=>(by cases e),fun r' e=>(by cases e;exact h)⟩
end
def QP {α:Type}(ok:α→Prop)(l:List α):Prop:=l.length≤maxLen∧∀x∈l,ok x
theorem QP.drop {α:Type}{ok:α→Prop}{l:List α}(h:QP ok l)(k:Nat):QP ok (l.drop k):=⟨by have:=h.1;rw [Qny];omega,fun x hx=>h.2 x (Qr4 hx)⟩
theorem QP.take {α:Type}{ok:α→Prop}{l:List α}(h:QP ok l)(k:Nat):QP ok (l.take k):=⟨by have:=h.1;rw [Qfs];omega,fun x hx=>h.2 x (Qii hx)⟩
theorem QP.nil {α:Type}{ok:α→Prop}:QP ok ([]:List α):=⟨by simp,fun x h=>by cases h⟩
theorem QP.app {α:Type}{ok:α→Prop}{l m:List α}(h:QP ok l)(hm:QP ok m)(hs:l.length+m.length≤maxLen):QP ok (l++m):=⟨by simpa using hs,fun x hx=>by rcases QbG.1 hx with h1 | h1;exact h.2 x h1;exact hm.2 x h1⟩
def Qgo (s:ByteArray):Prop:=s.size≤maxLen
theorem QBE {s:ByteArray}(h:Qij s (⟨#[]⟩:ByteArray)=false):0<s.size:=by
 apply Nat.pos_of_ne_zero
 intro h0
 have:s=⟨#[]⟩:=by
  obtain⟨a⟩:=s
  have:a=#[]:=Array.eq_empty_of_size_eq_zero h0
  rw [this]
 subst this
 simp [Qij]at h
theorem Qmd {a b:Int}:0≤min2 a b↔0≤a∧0≤b:=by unfold min2;split<;>omega
theorem Qme {a b n:Int}:max2 a b<n↔a<n∧b<n:=by unfold max2;split<;>omega
theorem Qk5 {a b n:Int}:max2 a b≤n↔a≤n∧b≤n:=by unfold max2;split<;>omega
abbrev T0:=@Qg.bind
abbrev T1:=@Qg.bif
abbrev T2:=@Qg.ok
abbrev T3:=@Qg.okT
abbrev T4:=@Qg.idx
abbrev T5:=@Qg.chk
abbrev T6:=@Qg.mono
end Go.Vm
namespace Go.Vm
open Go Go.RowKit
def Asc (l:List (Int×Int)):Prop:=l.Pairwise fun p q=>p.1<q.1
def QnO (l:List (Int×Int)):Prop:=l.Pairwise fun p q=>p.1≠q.1
theorem Asc.nd {l:List (Int×Int)}(h:Asc l):QnO l:=h.imp fun h=>by omega
theorem Qge {p:Int×Int}{l:List (Int×Int)}:Asc (p::l)↔(∀q∈l,p.1<q.1)∧Asc l:=Qr5
theorem QzL {p:Int×Int}{l:List (Int×Int)}:QnO (p::l)↔(∀q∈l,p.1≠q.1)∧QnO l:=Qr5
theorem QwI {l:List (Int×Int)}{k:Int}:Qv l k=none↔∀p∈l,p.1≠k:=by
 induction l with
 | nil=>simp [Qv]
 | cons p l ih=>
  obtain⟨a,x⟩:=p
  rw [Qat]
  by_cases h:a=k
  ·simp [h]
  simp [h,ih]
theorem Qd5 {l:List (Int×Int)}(hn:QnO l){k v:Int}:Qv l k=some v↔(k,v)∈l:=by
 induction l with
 | nil=>simp [Qv]
 | cons p l ih=>
  obtain⟨a,x⟩:=p
  obtain⟨h1,h2⟩:=QzL.1 hn
  rw [Qat]
  by_cases h:a=k
  ·subst h
   rw [if_pos rfl]
   constructor
   ·intro e;cases e;simp
   intro e
   rcases QaP.1 e with e | e
   ·cases e;rfl
   exact absurd rfl (h1 (a,v) e)
  rw [if_neg h,ih h2]
  constructor
  ·intro e;exact QaC _ e
  intro e
  rcases QaP.1 e with e | e
  ·cases e;exact absurd rfl h
  exact e
theorem QBF {l m:List (Int×Int)}(hl:QnO l)(h:l.Perm m)(k:Int):Qv l k=Qv m k:=by
 have hm:QnO m:=(h.pairwise_iff (fun hab=>Ne.symm hab)).1 hl
 apply Option.ext
 intro v
 rw [Qd5 hl,Qd5 hm]
 exact h.mem_iff
theorem QzM {l m:List (Int×Int)}(hl:Asc l)(hm:Asc m)(h:∀k,Qv l k=Qv m k):l=m:=by
 induction l generalizing m with
 | nil=>
  cases m with
  | nil=>rfl
  | cons p m=>have:=h p.1;rw [Qat (κ:=Int)]at this;simp [Qv]at this
 | cons p l ih=>
  obtain⟨a,x⟩:=p
  cases m with
  | nil=>have:=h a;rw [Qat]at this;simp [Qv]at this
  | cons q m=>
   obtain⟨b,y⟩:=q
   obtain⟨l1,l2⟩:=Qge.1 hl
   obtain⟨m1,m2⟩:=Qge.1 hm
   have hab:a=b:=by
    rcases Int.lt_trichotomy a b with hc | hc | hc
    ·have e:=h a
     rw [Qat,Qat,if_pos rfl,if_neg (by omega),QwI.2 (fun p hp=>by have:=m1 p hp;simp at this;omega)]at e
     cases e
    ·exact hc
    have e:=h b
    rw [Qat,Qat,if_neg (by omega),if_pos rfl,QwI.2 (fun p hp=>by have:=l1 p hp;simp at this;omega)]at e
    cases e
   subst hab
   have e:=h a
   rw [Qat,Qat,if_pos rfl,if_pos rfl]at e
   cases e
   rw [ih l2 m2 fun k=>?_]
   by_cases hk:a=k
   ·subst hk
    rw [QwI.2 (fun p hp=>by have:=l1 p hp;simp at this;omega),QwI.2 (fun p hp=>by have:=m1 p hp;simp at this;omega)]
   have:=h k
   rwa [Qat,Qat,if_neg hk,if_neg hk]at this
theorem QEr {l:List (Int×Int)}{k v:Int}{p:Int×Int}(h:p∈QhF l k v):∃q∈l,q.1=p.1:=by
 induction l with
 | nil=>cases h
 | cons q l ih=>
  obtain⟨a,x⟩:=q
  rw [QhF]at h
  split at h
  ·rename_i e
   rcases QaP.1 h with rfl | h
   ·exact⟨_,Qaz,e⟩
   exact⟨p,QaC _ h,rfl⟩
  rcases QaP.1 h with rfl | h
  ·exact⟨_,Qaz,rfl⟩
  obtain⟨q,h1,h2⟩:=ih h
  exact⟨q,QaC _ h1,h2⟩
theorem QCJ {lt:Int→Int→Bool}{l:List (Int×Int)}{k v:Int}{p:Int×Int}(h:p∈Qg1 lt l k v):p=(k,v)∨p∈l:=by
 induction l with
 | nil=>simp [Qg1]at h;exact .inl h
 | cons q l ih=>
  obtain⟨a,x⟩:=q
  rw [Qg1]at h
  split at h
  ·rcases QaP.1 h with h | h
   ·exact .inl h
   exact .inr h
  rcases QaP.1 h with h | h
  ·exact .inr (h▸Qaz)
  rcases ih h with h | h
  ·exact .inl h
  exact .inr (QaC _ h)
theorem Qy5 {l:List (Int×Int)}(h:Asc l)(k v:Int):Asc (Qag ltI l k v):=by
 unfold Qag
 split
 ·rename_i x hx
  clear hx
  induction l with
  | nil=>exact h
  | cons p l ih=>
   obtain⟨a,x⟩:=p
   obtain⟨h1,h2⟩:=Qge.1 h
   rw [QhF]
   split
   ·rename_i e;subst e;exact Qge.2 ⟨h1,h2⟩
   refine Qge.2 ⟨fun q hq=>?_,ih h2⟩
   obtain⟨q',hq',e⟩:=QEr hq
   rw [←e];exact h1 _ hq'
 rename_i hn
 induction l with
 | nil=>exact Qqk _ _
 | cons p l ih=>
  obtain⟨a,x⟩:=p
  obtain⟨h1,h2⟩:=Qge.1 h
  rw [Qat]at hn
  split at hn
  ·cases hn
  rename_i hne
  rw [Qg1]
  split
  ·rename_i e
   have e:k<a:=Q9 e
   refine Qge.2 ⟨fun q hq=>?_,h⟩
   rcases QaP.1 hq with rfl | hq
   ·exact e
   have:=h1 q hq;simp at this ⊢;omega
  rename_i e
  have e:¬k<a:=fun c=>e (QbW c)
  refine Qge.2 ⟨fun q hq=>?_,ih h2 hn⟩
  rcases QCJ hq with rfl | hq
  ·show a<k;omega
  exact h1 q hq
theorem QCK {l:List (Int×Int)}{k v:Int}:(QhF l k v).length=l.length:=by
 induction l with
 | nil=>rfl
 | cons p l ih=>
  obtain⟨a,x⟩:=p
  rw [QhF]
  split
  ·rfl
  simp [ih]
theorem QCL {lt:Int→Int→Bool}{l:List (Int×Int)}{k v:Int}:(Qg1 lt l k v).length=l.length+1:=by
 induction l with
 | nil=>rfl
 | cons p l ih=>
  obtain⟨a,x⟩:=p
  rw [Qg1]
  split
  ·rfl
  simp [ih]
theorem QCM {l:List (Int×Int)}{k v:Int}:(Qag ltI l k v).length≤l.length+1:=by
 unfold Qag
 split
 ·rw [QCK];omega
 rw [QCL];exact QbT _
theorem QCN {l:List (Int×Int)}{k v:Int}(h:Asc (l++[(k,v)])):Qag ltI l k v=l++[(k,v)]:=by
 have hl:Asc l:=(Qwc.1 h).1
 refine QzM (Qy5 hl k v) h fun j=>?_
 rw [Qc0]
 have hk:∀p∈l,p.1<k:=fun p hp=>(Qwc.1 h).2.2 p hp (k,v) (by simp)
 clear h
 induction l with
 | nil=>
  show(if j=k then some v else none)=(if k=j then some v else none)
  by_cases c:j=k
  ·rw [if_pos c,if_pos c.symm]
  rw [if_neg c,if_neg (fun e=>c e.symm)]
 | cons p l ih=>
  obtain⟨a,x⟩:=p
  have h1:=hk (a,x) Qaz
  simp only at h1
  rw [List.cons_append,Qat,Qat]
  rw [←ih (Qge.1 hl).2 fun p hp=>hk p (QaC _ hp)]
  by_cases c:j=k
  ·subst c;rw [if_pos rfl,if_pos rfl,if_neg (by omega)]
  rw [if_neg c,if_neg c]
section
variable {ρ:Type}{g:Int→Int→Int}{stop:Int→Bool}{q:Option ρ}{body:List (Int×Int)→Int×Int→Option (List (Int×Int)⊕ρ)}
def QO (s:List (Int×Int))(k:Int):Int:=(Qv s k).getD 0
def QuF (g:Int→Int→Int)(s l:List (Int×Int))(k:Int):Option Int:=match Qv l k with
 | some v=>some (g (QO s k) v)
 | none=>Qv s k
theorem QsJ (hb:∀s p,body s p=bif stop (g (QO s p.1) p.2)then q.map Sum.inr else some (.inl (Qag ltI s p.1 (g (QO s p.1) p.2)))):
  ∀l s,Asc s→QnO l→((∃p∈l,stop (g (QO s p.1) p.2)=true)∧Qdg body s l=q.map Sum.inr)∨
   ((∀p∈l,stop (g (QO s p.1) p.2)=false)∧∃s',Qdg body s l=some (.inl s')∧Asc s'∧s'.length≤s.length+l.length∧∀k,Qv s' k=QuF g s l k):=by
 intro l
 induction l with
 | nil=>intro s hs _;exact .inr ⟨fun p h=>(by cases h),s,rfl,hs,by simp,fun k=>rfl⟩
 | cons p l ih=>
  intro s hs hl
  obtain⟨h1,h2⟩:=QzL.1 hl
  simp only [Qdg,hb]
  cases hst:stop (g (QO s p.1) p.2)with
  | true=>exact .inl ⟨⟨p,Qaz,hst⟩,by cases q<;>rfl⟩
  | false=>
   simp only [cond_false,Ql,Sum.elim_inl]
   have hc:∀r∈l,QO (Qag ltI s p.1 (g (QO s p.1) p.2)) r.1=QO s r.1:=fun r hr=>by
    unfold QO
    rw [Qc0,if_neg (fun e=>h1 r hr e.symm)]
   rcases ih _ (Qy5 hs p.1 (g (QO s p.1) p.2)) h2 with⟨⟨r,hr,h3⟩,h4⟩|⟨h3,s',h4,h5,h6,h7⟩
   ·exact .inl ⟨⟨r,QaC _ hr,by rw [hc r hr]at h3;exact h3⟩,h4⟩
   refine .inr ⟨fun r hr=>?_,s',h4,h5,?_,fun k=>?_⟩
   ·rcases QaP.1 hr with rfl | hr
    ·exact hst
    have:=h3 r hr;rwa [hc r hr]at this
   ·have:=QCM (l:=s) (k:=p.1) (v:=g (QO s p.1) p.2)
    simp;omega
   rw [h7]
   obtain⟨a,x⟩:=p
   unfold QuF
   rw [Qat]
   by_cases e:a=k
   ·subst e
    rw [if_pos rfl,QwI.2 (fun r hr=>Ne.symm (h1 r hr)),Qc0,if_pos rfl]
   rw [if_neg e]
   simp only [QO,Qc0,if_neg (fun e'=>e (Eq.symm e'):¬k=a)]
theorem QwJ (hb:∀s p,body s p=bif stop (g (QO s p.1) p.2)then q.map Sum.inr else some (.inl (Qag ltI s p.1 (g (QO s p.1) p.2)))){l s:List (Int×Int)}(hs:Asc s)(hl:QnO l):
  ((∃p∈l,stop (g (QO s p.1) p.2)=true)∧∀r,q=some r→QiR body s l=some (.inr r))∨
   ((∀p∈l,stop (g (QO s p.1) p.2)=false)∧∃s',QiR body s l=some (.inl s')∧Asc s'∧s'.length≤s.length+l.length∧∀k,Qv s' k=QuF g s l k):=by
 have key:∀l':List (Int×Int),l'.Perm l→Qdg body s l'=Qdg body s l:=fun l' hp=>by
  have hl':QnO l':=(hp.pairwise_iff (fun hab=>Ne.symm hab)).2 hl
  rcases QsJ hb l' s hs hl' with⟨⟨p,h1,h2⟩,h3⟩|⟨h1,s1,h3,h4,_,h5⟩
  ·rcases QsJ hb l s hs hl with⟨_,g3⟩|⟨g1,_⟩
   ·rw [h3,g3]
   rw [g1 p (hp.mem_iff.1 h1)]at h2;cases h2
  rcases QsJ hb l s hs hl with⟨⟨p,g1,g2⟩,g3⟩|⟨g1,s2,g3,g4,_,g5⟩
  ·rw [h1 p (hp.mem_iff.2 g1)]at g2;cases g2
  rw [h3,g3,QzM h4 g4 fun k=>?_]
  rw [h5,g5]
  unfold QuF
  rw [QBF hl' hp k]
 rcases QsJ hb l s hs hl with⟨h1,h3⟩|⟨h1,s1,h3,h4,h6,h5⟩
 ·exact .inl ⟨h1,fun r hr=>Qkt.2 ⟨key,by rw [h3,hr];rfl⟩⟩
 exact .inr ⟨h1,s1,Qkt.2 ⟨key,h3⟩,h4,h6,h5⟩
end
theorem QAA {ρ:Type}{bad:Int×Int→Bool}{q:ρ}{body:Unit→Int×Int→Option (Unit⊕ρ)}(hb:∀p,body () p=some (bif bad p then .inr q else .inl ()))(l:List (Int×Int)):
  QiR body () l=some (bif l.any bad then .inr q else .inl ()):=by
 have h1:∀l:List (Int×Int),Qdg body () l=some (bif l.any bad then .inr q else .inl ()):=by
  intro l
  induction l with
  | nil=>rfl
  | cons p l ih=>
   simp only [Qdg,hb,Ql,List.any_cons]
   cases bad p with
   | true=>rfl
   | false=>exact ih
 refine Qkt.2 ⟨fun l' hp=>?_,h1 l⟩
 rw [h1,h1]
 congr 2
 rw [Bool.eq_iff_iff,Qkq,Qkq]
 exact⟨fun ⟨x,a,b⟩=>⟨x,hp.mem_iff.1 a,b⟩,fun ⟨x,a,b⟩=>⟨x,hp.mem_iff.2 a,b⟩⟩
def rtF (a:Int):List (Int×Int)→Bool
 | []=>true
 | p::r=>!(decide (p.1≤a)||(decide (p.2<1)||decide (1048576<p.2)))&&rtF p.1 r
theorem QDG {a:Int}{l:List (Int×Int)}:rtF a l=true↔Asc l∧∀p∈l,a<p.1∧1≤p.2∧p.2≤1048576:=by
 induction l generalizing a with
 | nil=>simp [rtF,Asc]
 | cons p l ih=>
  rw [rtF,QE,ih,Qge]
  simp only [Qfr,Qc8,Q1]
  constructor
  ·rintro ⟨⟨h1,h2,h3⟩,h4,h5⟩
   refine⟨⟨fun q hq=>(h5 q hq).1,h4⟩,fun q hq=>?_⟩
   rcases QaP.1 hq with rfl | hq
   ·omega
   have:=h5 q hq;omega
  rintro ⟨⟨h1,h2⟩,h3⟩
  have:=h3 p Qaz
  exact⟨by omega,h2,fun q hq=>⟨h1 q hq,(h3 q (QaC _ hq)).2⟩⟩
def Rt (l:List (Int×Int)):Prop:=Asc l∧∀p∈l,0≤p.1∧1≤p.2∧p.2≤1048576
theorem QeT {l:List (Int×Int)}:rtF (-1) l=true↔Rt l:=by
 rw [QDG]
 constructor
 ·rintro ⟨h1,h2⟩;exact⟨h1,fun p hp=>by have:=h2 p hp;omega⟩
 rintro ⟨h1,h2⟩;exact⟨h1,fun p hp=>by have:=h2 p hp;omega⟩
theorem Rt.nil : Rt []:=⟨List.Pairwise.nil,fun p h=>by cases h⟩
theorem Qi6 {l:List (Int×Int)}(h:QnO l){p:Int×Int}(hp:p∈l):QO l p.1=p.2:=by
 unfold QO;rw [(Qd5 h).2 (show(p.1,p.2)∈l from hp)];rfl
theorem Rt.cnt {l:List (Int×Int)}(h:Rt l)(k:Int):0≤QO l k∧QO l k≤1048576:=by
 unfold QO
 cases e:Qv l k with
 | none=>simp
 | some v=>have:=h.2 _ ((Qd5 h.1.nd).1 e);simp at this ⊢;omega
theorem Rt.cnt_pos {l:List (Int×Int)}(h:Rt l){k:Int}(hk:0<QO l k):0≤k:=by
 unfold QO at hk
 cases e:Qv l k with
 | none=>rw [e]at hk;simp at hk
 | some v=>exact(h.2 _ ((Qd5 h.1.nd).1 e)).1
def Qki (l:List (Int×Int)):List (Int×Int):=l.filter fun p=>decide (0<p.2)
theorem Qy6 {l:List (Int×Int)}(h:Asc l)(k:Int):QO (Qki l) k=if 0<QO l k then QO l k else 0:=by
 have hp:Asc (Qki l):=h.sublist List.filter_sublist
 by_cases c:0<QO l k
 ·rw [if_pos c]
  unfold QO at c
  cases e:Qv l k with
  | none=>rw [e]at c;simp at c
  | some v=>
   rw [e]at c
   have h1:(k,v)∈Qki l:=Qjk.2 ⟨(Qd5 h.nd).1 e,by simpa using c⟩
   unfold QO
   rw [(Qd5 hp.nd).2 h1,e]
 rw [if_neg c]
 unfold QO
 cases e:Qv (Qki l) k with
 | none=>rfl
 | some v=>
  have h1:=Qjk.1 ((Qd5 hp.nd).1 e)
  have h2:=(Qd5 h.nd).2 h1.1
  unfold QO at c
  rw [h2]at c
  simp at h1 c;omega
theorem QBG {l:List (Int×Int)}(h:Asc l)(hb:∀k,0<QO l k→0≤k∧QO l k≤1048576):Rt (Qki l):=by
 refine⟨h.sublist List.filter_sublist,fun p hp=>?_⟩
 obtain⟨h1,h2⟩:=Qjk.1 hp
 have h3:=Qi6 h.nd h1
 have h4:0<p.2:=Q9 h2
 have:=hb p.1 (by omega)
 omega
theorem QBH {l:List (Int×Int)}(h:Asc l):QeC (l.map Prod.fst)=l.map Prod.fst:=by
 rw [Qsw]
 refine List.mergeSort_of_pairwise ?_
 rw [QoJ]
 exact h.imp fun h=>by simp;omega
end Go.Vm
namespace Go.Vm
open Go Go.RowKit
def upL : Int→Nat→List Int
 | _,0=>[]
 | x,k+1=>x::upL (x+1) k
def binds : List Int→List (List Int)
 | []=>[[]]
 | s::r=>(0::upL 1 (s-1).toNat).flatMap fun x=>(binds r).map (x::·)
def QdX : List Int→List Int→List (List Int)
 | s::r,x::d=>(QdX r d).map (x::·)++(upL (x+1) (s-(x+1)).toNat).flatMap fun y=>(binds r).map (y::·)
 | _,_=>[]
def Qkj (l:List Int):List Int:=List.replicate l.length 0
theorem Qvt (l:List Int):binds l=Qkj l::QdX l (Qkj l):=by
 induction l with
 | nil=>rfl
 | cons s r ih=>
  show(0::upL 1 (s-1).toNat).flatMap (fun x=>(binds r).map (x::·))=(0::Qkj r)::((QdX r (Qkj r)).map (0::·)++(upL (0+1) (s-(0+1)).toNat).flatMap fun y=>(binds r).map (y::·))
  rw [QlD,Int.zero_add]
  have:(binds r).map (fun x=>(0:Int)::x)=(0::Qkj r)::(QdX r (Qkj r)).map (0::·):=by rw [ih];rfl
  rw [this];rfl
def QoZ : List Int→List Int→Option (List Int)
 | s::r,x::d=>match QoZ r d with
  | some e=>some (x::e)
  | none=>if x+1<s then some ((x+1)::Qkj r)else none
 | _,_=>none
theorem QAB : ∀l d:List Int,QdX l d=match QoZ l d with
  | none=>[]
  | some e=>e::QdX l e:=by
 intro l
 induction l with
 | nil=>intro d;rfl
 | cons s r ih=>
  intro d
  cases d with
  | nil=>rfl
  | cons x d=>
   have h:=ih d
   rw [QoZ]
   cases e:QoZ r d with
   | some e'=>
    rw [e]at h
    simp only [QdX,h];rfl
   | none=>
    rw [e]at h
    simp only at h
    simp only [QdX,h,List.map_nil,Qqj]
    by_cases c:x+1<s
    ·rw [if_pos c]
     rw [show(s-(x+1)).toNat=(s-(x+1+1)).toNat+1 by omega,upL,QlD]
     have:(binds r).map (fun z=>(x+1)::z)=((x+1)::Qkj r)::(QdX r (Qkj r)).map ((x+1)::·):=by rw [Qvt r];rfl
     rw [this];rfl
    rw [if_neg c,show(s-(x+1)).toNat=0 by omega];rfl
theorem Qx0 : ∀l d:List Int,(∀(j:Nat) x s,d[j]? = some x→l[j]? = some s→¬x+1<s)→QoZ l d=none:=by
 intro l
 induction l with
 | nil=>intro d _;cases d<;>rfl
 | cons s r ih=>
  intro d h
  cases d with
  | nil=>rfl
  | cons x d=>
   rw [QoZ,ih d fun j y z h1 h2=>h (j+1) y z (by simpa using h1) (by simpa using h2)]
   simp only
   rw [if_neg (h 0 x s rfl rfl)]
theorem QDH : ∀(k:Nat) (l d:List Int) (x s:Int),l.length=d.length→d[k]? = some x→l[k]? = some s→x+1<s→(∀(j:Nat) y z,k<j→d[j]? = some y→l[j]? = some z→¬y+1<z)→
  QoZ l d=some (d.take k++(x+1)::List.replicate (d.length-(k+1)) 0):=by
 intro k
 induction k with
 | zero=>
  intro l d x s hl hd hs hlt ha
  cases l with
  | nil=>cases hs
  | cons s' r=>
   cases d with
   | nil=>cases hd
   | cons x' d=>
    simp only [List.getElem?_cons_zero,Option.some.injEq]at hd hs
    subst hd;subst hs
    rw [QoZ,Qx0 r d fun j y z h1 h2=>ha (j+1) y z (by omega) (by simpa using h1) (by simpa using h2)]
    simp only
    rw [if_pos hlt]
    simp only [Qez]at hl
    simp [Qkj];omega
 | succ k ih=>
  intro l d x s hl hd hs hlt ha
  cases l with
  | nil=>cases hs
  | cons s' r=>
   cases d with
   | nil=>cases hd
   | cons x' d=>
    simp only [Qr2]at hd hs
    simp only [Qez,Nat.add_right_cancel_iff]at hl
    rw [QoZ,ih r d x s hl hd hs hlt fun j y z h0 h1 h2=>ha (j+1) y z (by omega) (by simpa using h1) (by simpa using h2)]
    simp
def inB : List Int→List Int→Prop
 | [],[]=>True
 | s::r,x::d=>0≤x∧(x=0∨x<s)∧inB r d
 | _,_=>False
theorem QDI {y x:Int}{k:Nat}:y∈upL x k↔x≤y∧y<x+k:=by
 induction k generalizing x with
 | zero=>
  simp only [upL,List.not_mem_nil,false_iff];omega
 | succ k ih=>simp only [upL,QaP,ih];omega
theorem QBI {l d:List Int}:d∈binds l↔inB l d:=by
 induction l generalizing d with
 | nil=>cases d<;>simp [binds,inB]
 | cons s r ih=>
  cases d with
  | nil=>simp [binds,inB]
  | cons x d=>
   simp only [binds,List.mem_flatMap,QaP,QDI,QaQ,List.cons.injEq,inB,←ih]
   constructor
   ·rintro ⟨y,h1,e,h2,rfl,rfl⟩
    exact⟨by omega,by omega,h2⟩
   rintro ⟨h1,h2,h3⟩
   exact⟨x,by omega,d,h3,rfl,rfl⟩
theorem QDJ {l d:List Int}(h:inB l d):d.length=l.length:=by
 induction l generalizing d with
 | nil=>cases d with
  | nil=>rfl
  | cons x d=>exact h.elim
 | cons s r ih=>cases d with
  | nil=>exact h.elim
  | cons x d=>simp [ih h.2.2]
section
variable {α:Type}
def adv (most:Nat)(acc X:List α):List α⊕List α:=if (acc++X).length<most then .inr (acc++X)else .inl ((acc++X).take most)
theorem QrP {most:Nat}{acc:List α}(h:acc.length<most):adv most acc []=.inr acc:=by
 unfold adv
 rw [Qqg,if_pos h]
theorem QCO {most:Nat}{acc X:List α}(h:acc.length=most):adv most acc X=.inl acc:=by
 unfold adv
 rw [if_neg (by simp;omega)]
 subst h
 rw [List.take_left]
theorem QCP {most:Nat}{acc X:List α}{x:α}:adv most acc (x::X)=adv most (acc++[x]) X:=by
 unfold adv
 rw [Qdu];rfl
theorem QzN {most:Nat}{acc X Y:List α}:adv most acc (X++Y)=match adv most acc X with
  | .inl a=>.inl a
  | .inr a=>adv most a Y:=by
 unfold adv
 by_cases c:(acc++X).length<most
 ·rw [if_pos c]
  simp only [Qdu]
 rw [if_neg c,if_neg (by simp at c ⊢;omega),←Qdu,Qux (by omega)]
theorem QBJ {most:Nat}{acc X a:List α}(h:adv most acc X=.inr a):a.length<most:=by
 unfold adv at h
 split at h
 ·cases h;assumption
 cases h
theorem QzO {most:Nat}{acc X a:List α}(h:adv most acc X=.inr a):a=acc++X:=by
 unfold adv at h
 split at h
 ·cases h;rfl
 cases h
theorem QCQ {most:Nat}{X:List α}(h:0<most):(match adv most [] X with | .inl a=>a | .inr a=>a)=X.take most:=by
 unfold adv
 rw [Qqj]
 by_cases c:X.length<most
 ·rw [if_pos c];simp only;rw [QdH (by omega)]
 rw [if_neg c]
end
end Go.Vm
namespace Go.Vm
open Go Go.RowKit
section
variable {M K:Type}[DecidableEq K](key:M→K)(succ:M→List M)
def Qxx (out:List M)(x:M):Bool:=out.any fun y=>decide (key y=key x)
def QcI (most:Nat):List M→List M→List M⊕List M
 | out,[]=>.inr out
 | out,x::xs=>if Qxx key out x then QcI most out xs else if out.length=most then .inl out else QcI most (out++[x]) xs
def Qh5 (most:Nat):Nat→List M→Nat→List M×Bool
 | 0,out,_=>(out,true)
 | f+1,out,a=>match out[a]? with
  | none=>(out,true)
  | some x=>match QcI key most out (succ x)with
   | .inl o=>(o,false)
   | .inr o=>Qh5 most f o (a+1)
variable {key}{succ}
theorem QAC {most:Nat}:∀{xs out o:List M},QcI key most out xs=.inr o→out.length≤most→(∃r,o=out++r)∧o.length≤most:=by
 intro xs
 induction xs with
 | nil=>intro out o h hl;cases h;exact⟨⟨[],by simp⟩,hl⟩
 | cons x xs ih=>
  intro out o h hl
  rw [QcI]at h
  split at h
  ·exact ih h hl
  split at h
  ·cases h
  obtain⟨⟨r,hr⟩,h2⟩:=ih h (by simp;omega)
  exact⟨⟨x::r,by rw [hr];simp⟩,h2⟩
theorem QAD {most:Nat}:∀{xs out o:List M},QcI key most out xs=.inl o→out.length≤most→(∃r,o=out++r)∧o.length=most:=by
 intro xs
 induction xs with
 | nil=>intro out o h hl;cases h
 | cons x xs ih=>
  intro out o h hl
  rw [QcI]at h
  split at h
  ·exact ih h hl
  split at h
  ·cases h;exact⟨⟨[],by simp⟩,by assumption⟩
  obtain⟨⟨r,hr⟩,h2⟩:=ih h (by simp;omega)
  exact⟨⟨x::r,by rw [hr];simp⟩,h2⟩
def QjW (key:M→K)(l:List M):Prop:=l.Pairwise fun a b=>key a≠key b
theorem QjW.add {l:List M}{x:M}(h:QjW key l)(hx:Qxx key l x=false):QjW key (l++[x]):=by
 unfold QjW
 rw [Qwc]
 refine⟨h,Qqk _ _,fun a ha b hb=>?_⟩
 rw [QnC]at hb
 subst hb
 intro e
 have:Qxx key l b=true:=Qkq.2 ⟨a,ha,QbW e⟩
 rw [this]at hx;cases hx
theorem QwK {P:M→Prop}{most:Nat}:∀{xs out o:List M},(QcI key most out xs=.inl o∨QcI key most out xs=.inr o)→QjW key out→(∀x∈out,P x)→(∀x∈xs,P x)→QjW key o∧∀x∈o,P x:=by
 intro xs
 induction xs with
 | nil=>intro out o h ha hp _;rcases h with h | h<;>cases h;exact⟨ha,hp⟩
 | cons x xs ih=>
  intro out o h ha hp hx
  rw [QcI]at h
  split at h
  ·exact ih h ha hp fun y hy=>hx y (QaC _ hy)
  rename_i c
  split at h
  ·rcases h with h | h<;>cases h;exact⟨ha,hp⟩
  refine ih h (ha.add (by simpa using c)) (fun y hy=>?_) fun y hy=>hx y (QaC _ hy)
  rcases QbG.1 hy with hy | hy
  ·exact hp y hy
  simp at hy;subst hy;exact hx _ Qaz
theorem QBK {P:M→Prop}(hs:∀x,P x→∀y∈succ x,P y){most:Nat}:∀(f:Nat) {out:List M} {a:Nat},out.length≤most→QjW key out→(∀x∈out,P x)→
  (∃r,(Qh5 key succ most f out a).1=out++r)∧(Qh5 key succ most f out a).1.length≤most∧QjW key (Qh5 key succ most f out a).1∧∀x∈(Qh5 key succ most f out a).1,P x:=by
 intro f
 induction f with
 | zero=>intro out a hl ha hp;exact⟨⟨[],by simp [Qh5]⟩,hl,ha,hp⟩
 | succ f ih=>
  intro out a hl ha hp
  rw [Qh5]
  cases ho:out[a]? with
  | none=>exact⟨⟨[],by simp⟩,hl,ha,hp⟩
  | some x=>
   simp only
   have hx:=hp x (Qan ho)
   cases e:QcI key most out (succ x)with
   | inl o=>
    obtain⟨h1,h2⟩:=QAD e hl
    obtain⟨h3,h4⟩:=QwK (.inl e) ha hp (hs x hx)
    exact⟨h1,by simp only;omega,h3,h4⟩
   | inr o=>
    obtain⟨⟨r,hr⟩,h2⟩:=QAC e hl
    obtain⟨h3,h4⟩:=QwK (.inr e) ha hp (hs x hx)
    simp only
    obtain⟨⟨r2,hr2⟩,k2⟩:=ih (a:=a+1) h2 h3 h4
    exact⟨⟨r++r2,by rw [hr2,hr,Qdu]⟩,k2⟩
end
end Go.Vm
noncomputable section
namespace Go.Proofs
open Go Go.RowKit Go.Vm
inductive Qds : Qo→Prop where
 | mk (e:Qo):e.Kids.length≤maxLen→(∀k∈e.Kids,Qds k)→Qds e
theorem QeU {e:Qo}(h:Qds e):QP Qds e.Kids:=by
 cases h with
 | mk _ h1 h2=>exact⟨h1,h2⟩
theorem Quc {e k:Qo}(h:k∈e.Kids):SizeOf.sizeOf k<SizeOf.sizeOf e:=by
 obtain⟨a,b,l⟩:=e
 have:=List.sizeOf_lt_of_mem h
 simp only [Qo.mk.sizeOf_spec]at *
 omega
theorem Qo.pos (e:Qo):0<SizeOf.sizeOf e:=by
 obtain⟨a,b,l⟩:=e
 simp only [Qo.mk.sizeOf_spec];omega
inductive POk (v:Int):Qo→Prop where
 | mk (e:Qo):(e.Kind=1∨e.Kind=2∨e.Kind=3∨e.Kind=4∨e.Kind=5∨e.Kind=6)→(e.Kind=2→0≤e.Num∧e.Num<v)→(e.Kind=3∨e.Kind=4→e.Kids.length=1)→(e.Kind=5→e.Kids.length=2)→(e.Kind=6→e.Kids.length=3)→(∀k∈e.Kids,POk v k)→POk v e
def Qci (x:QH):Prop:=Qgo x.Name∧True∧True∧True∧(QP Qgo) x.Names∧True∧True
def QcT (x:QM):Prop:=Qgo x.Name∧True∧(QP (fun _=>True)) x.First
def Qem (x:QaN):Prop:=Qgo x.Name∧True
def Qkk (x:Qaw):Prop:=True∧Qds x.Expr
def QaJ (x:QC):Prop:=Qgo x.Name∧(QP Qem) x.Vars∧Qds x.Guard∧True∧True∧(QP Qkk) x.Ins∧(QP Qkk) x.Outs∧(QP (fun _=>True)) x.Cancel∧True∧True
def QW (x:Qj):Prop:=(QP Qci) x.Colours∧(QP QcT) x.Places∧(QP QaJ) x.Tasks∧True∧True
def Qyg (x:QaX):Prop:=(QP Qci) x.all∧(QP (fun _=>True)) x.sizes∧True
theorem QwL (v1:Qj)(h_v1:QW v1):Qg (QlI v1) fun r=>True:=by
 unfold QlI
 exact T3
theorem Qcs (l1:(List QM))(k2:Int)(h_l1:(QP QcT) l1):Qg (QaO l1 k2) fun r=>r=true→0≤k2∧k2<l1.length:=by
 unfold QaO
 exact T2 (by first | (intro hr;first | (cases hr;done) | omega | ((try simp only [QE,Qdt,Qc8,Qfr,Qji,QD,Q1,beq_iff_eq,bne_iff_ne,ne_eq,Qnv,Qqf,QcL,Qjj,QnA,Qny,Qfs,Qez,Qmd,Qme,Qk5]at *);omega)) | ((try simp only [QE,Qdt,Qc8,Qfr,Qji,QD,Q1,beq_iff_eq,bne_iff_ne,ne_eq,Qnv,Qqf,QcL,Qjj,QnA,Qny,Qfs,Qez,Qmd,Qme,Qk5]at *);omega) | simp_all)
theorem QwM (v1:Qj)(h_v1:QW v1):Qg (QlJ v1) fun r=>True:=by
 unfold QlJ
 refine T0 (P:=fun _=>True) ?_ (fun x_1 hv2=>?_)
 ·unfold QpM
  refine T0 (Qcs v1.Places v1.From (h_v1.2.1)) (fun x_3 hv4=>?_)
  refine T1 (fun hc5=>?_) (fun hc5=>?_)
  ·refine T0 (Qcs v1.Places v1.To (h_v1.2.1)) (fun x_6 hv7=>?_)
   exact T3
  exact T3
 unfold Qiv
 exact T3
theorem QwN (v1:Qj)(h_v1:QW v1):Qg (QlK v1) fun r=>True:=by
 unfold QlK
 exact T3
theorem QwO (v1:Qj)(v2:Int)(v3:Int)(v4:Int)(h_v1:QW v1):Qg (QlL v1 v2 v3 v4) fun r=>True:=by
 unfold QlL
 refine T0 (QwL v1 (h_v1)) (fun x_1 hv2=>?_)
 refine T1 (fun hc3=>?_) (fun hc3=>?_)
 ·exact T3
 refine T0 (QwM v1 (h_v1)) (fun x_4 hv5=>?_)
 refine T1 (fun hc6=>?_) (fun hc6=>?_)
 ·exact T3
 refine T0 (QwN v1 (h_v1)) (fun x_7 hv8=>?_)
 refine T1 (fun hc9=>?_) (fun hc9=>?_)
 ·exact T3
 exact T3
theorem QwP (lo1:Int)(hi2:Int)  : Qg (QlF lo1 hi2) fun r=>True:=by
 unfold QlF
 refine T1 (fun hc1=>?_) (fun hc1=>?_)
 ·exact T3
 exact T3
theorem QoC (c1:Int)  : Qg (Qe1 c1) fun r=>True:=by
 unfold Qe1
 exact T3
theorem QmY (s1:ByteArray)(h_s1:Qgo s1):Qg (QgB s1) fun r=>True:=by
 unfold QgB
 refine T0 (P:=fun _=>True) ?_ (fun x_1 hv2=>?_)
 ·unfold Qpv
  refine T1 (fun hc3=>?_) (fun hc3=>?_)
  ·exact T3
  have hshc3:=QBE hc3
  refine T1 (fun hc4=>?_) (fun hc4=>?_)
  ·exact T3
  refine T0 (Qg.sidx (by omega) (by omega)) (fun c_5 hv6=>?_)
  refine T0 (QoC c_5 ) (fun x_7 hv8=>?_)
  exact T3
 unfold Qir
 refine T1 (fun hc9=>?_) (fun hc9=>?_)
 ·exact T3
 refine T0 (Qg.up (s1.size) (fun st=>st) (fun _=>True) (Q:=fun q=>True) rfl trivial (fun i11 st hi12 hn13 hj14=>?_)) (fun q15 hq16=>?_)
 ·obtain⟨x_10,hst⟩:∃y,y=st:=⟨_,rfl⟩
  subst hst
  replace hi12:x_10=(i11:Int):=hi12
  show Qg (Qio s1 x_10) _
  unfold Qio
  refine T1 (fun hc17=>?_) (fun hc17=>?_)
  ·refine T0 (Qg.sidx (by omega) (by simp_all)) (fun c_18 hv19=>?_)
   refine T0 (P:=fun _=>True) ?_ (fun x_20 hv21=>?_)
   ·unfold Qpw
    refine T0 (QoC c_18 ) (fun x_22 hv23=>?_)
    refine T1 (fun hc24=>?_) (fun hc24=>?_)
    ·refine T1 (fun hc25=>?_) (fun hc25=>?_)
     ·exact T3
     refine T1 (fun hc26=>?_) (fun hc26=>?_)
     ·exact T3
     exact T3
    exact T3
   unfold Qin
   refine T1 (fun hc27=>?_) (fun hc27=>?_)
   ·exact T2 (Qn trivial)
   exact T2 (QF ⟨(by simp_all),by subst hi12;exact Qz (by simp_all) h_s1,trivial⟩)
  exact T2 (Qn trivial)
 rcases q15 with q15 | q15
 ·show Qg (Qip) _
  unfold Qip
  exact T3
 show Qg (Qiq) _
 unfold Qiq
 exact T3
theorem QvV (l1:(List ByteArray))(h_l1:(QP Qgo) l1):Qg (QkE l1) fun r=>True:=by
 unfold QkE
 refine T0 (Qg.up (l1.length) (fun st=>st.1) (fun _=>True) (Q:=fun q=>True) rfl trivial (fun i3 st hi4 hn5 hj6=>?_)) (fun q7 hq8=>?_)
 ·obtain⟨x_1,m_2⟩:=st
  replace hi4:x_1=(i3:Int):=hi4
  show Qg (Qhg l1 x_1 m_2) _
  unfold Qhg
  refine T1 (fun hc9=>?_) (fun hc9=>?_)
  ·refine T0 (T4 (by omega) (by simp_all)) (fun e_10 hv11=>?_)
   refine T0 (P:=fun _=>True) ?_ (fun x_12 hv13=>?_)
   ·unfold Qoo
    refine T0 (QmY e_10 (((h_l1).2 e_10 hv11))) (fun x_14 hv15=>?_)
    refine T1 (fun hc16=>?_) (fun hc16=>?_)
    ·exact T3
    exact T3
   unfold Qhf
   refine T1 (fun hc17=>?_) (fun hc17=>?_)
   ·exact T2 (Qn trivial)
   exact T2 (QF ⟨(by simp_all),by subst hi4;exact Qz (by simp_all) (h_l1).1,trivial⟩)
  exact T2 (Qn trivial)
 rcases q7 with q7 | q7
 ·show Qg (Qhh) _
  unfold Qhh
  exact T3
 show Qg (Qhi) _
 unfold Qhi
 exact T3
theorem QwQ (c1:QH)(ahead2:(List Int))(h_c1:Qci c1)(h_ahead2:(QP (fun _=>True)) ahead2):Qg (QlG c1 ahead2) fun r=>True:=by
 unfold QlG
 refine T1 (fun hc1=>?_) (fun hc1=>?_)
 ·refine T0 (QwP c1.Lo c1.Hi ) (fun x_2 hv3=>?_)
  exact T3
 refine T1 (fun hc4=>?_) (fun hc4=>?_)
 ·refine T0 (QvV c1.Names (h_c1.2.2.2.2.1)) (fun x_5 hv6=>?_)
  refine T1 (fun hc7=>?_) (fun hc7=>?_)
  ·exact T3
  unfold Qdi
  exact T3
 refine T1 (fun hc8=>?_) (fun hc8=>?_)
 ·refine T1 (fun hc9=>?_) (fun hc9=>?_)
  ·refine T0 (T4 (by(try simp only [QE,Qdt,Qc8,Qfr,Qji,QD,Q1,beq_iff_eq,bne_iff_ne,ne_eq,Qnv,Qqf,QcL,Qjj,QnA,Qny,Qfs,Qez,Qmd,Qme,Qk5]at *);omega) (by(try simp only [QE,Qdt,Qc8,Qfr,Qji,QD,Q1,beq_iff_eq,bne_iff_ne,ne_eq,Qnv,Qqf,QcL,Qjj,QnA,Qny,Qfs,Qez,Qmd,Qme,Qk5]at *);omega)) (fun e_10 hv11=>?_)
   refine T0 (T4 (by(try simp only [QE,Qdt,Qc8,Qfr,Qji,QD,Q1,beq_iff_eq,bne_iff_ne,ne_eq,Qnv,Qqf,QcL,Qjj,QnA,Qny,Qfs,Qez,Qmd,Qme,Qk5]at *);omega) (by(try simp only [QE,Qdt,Qc8,Qfr,Qji,QD,Q1,beq_iff_eq,bne_iff_ne,ne_eq,Qnv,Qqf,QcL,Qjj,QnA,Qny,Qfs,Qez,Qmd,Qme,Qk5]at *);omega)) (fun e_12 hv13=>?_)
   exact T3
  unfold Qdi
  exact T3
 unfold Qdi
 exact T3
theorem QpW (l1:(List QH))(h_l1:(QP Qci) l1):Qg (QhL l1) fun r=>((QP (fun _=>True)) r.1∧True)∧(r.2=true→r.1.length=l1.length∧∀x∈r.1,1≤x∧x≤1024):=by
 unfold QhL
 refine T1 (fun hc=>T2 ⟨⟨QP.nil,trivial⟩,fun h=>by cases h⟩) (fun hc=>?_)
 have hl:l1.length≤32:=by simp only [Q1]at hc;omega
 refine T0 (Qg.up l1.length (fun st=>st.1) (fun st=>(st.2.2.length:Int)=st.1∧∀x∈st.2.2,1≤x∧x≤1024) (Q:=fun q=>∀l,q=.inr l→l.length=l1.length∧∀x∈l,1≤x∧x≤1024) rfl ⟨rfl,fun x h=>(by cases h)⟩ (fun i st hi hn hj=>?_)) (fun q hq=>?_)
 ·obtain⟨x,m,l⟩:=st
  replace hi:x=(i:Int):=hi
  replace hj:(l.length:Int)=x∧∀x∈l,1≤x∧x≤1024:=hj
  obtain⟨hj,hj2⟩:=hj
  show Qg (Qhk l1 x m l) _
  unfold Qhk
  refine T1 (fun hc2=>?_) (fun hc2=>?_)
  ·simp only [QD]at hc2
   refine T0 (T4 (by omega) (by omega)) fun e he=>?_
   refine T0 (QwQ e l (h_l1.2 e he) ⟨by unfold maxLen;omega,fun _ _=>trivial⟩) fun y _=>?_
   refine T0 (P:=fun z=>z=false→1≤y∧y≤1024) ?_ fun z hz=>?_
   ·unfold Qop
    refine T0 (QmY e.Name (h_l1.2 e he).1) fun z _=>?_
    refine T1 (fun _=>T2 (fun h=>by cases h)) fun _=>T1 (fun _=>T2 (fun h=>by cases h)) fun _=>T1 (fun _=>T2 (fun h=>by cases h)) fun h1=>T2 fun h2=>?_
    simp only [Q1]at h1 h2
    omega
   unfold Qhj
   refine T1 (fun _=>T2 (Qn fun l h=>by cases h)) fun hz0=>?_
   refine T0 (T5 (by simp;omega)) fun _ _=>?_
   exact T2 (QF ⟨by omega,by subst hi;exact Qz (by omega) (by unfold maxLen;omega:l1.length≤maxLen),by simp only [QcL,Qjj];subst hi;rw [Qz (show i<l1.length by omega) (by unfold maxLen;omega)];omega,fun u hu=>by
    rcases QbG.1 hu with hu | hu
    ·exact hj2 u hu
    simp at hu;subst hu;exact hz hz0⟩)
  simp only [Q1]at hc2
  exact T2 (Qn fun l' h=>by cases h;exact⟨by omega,hj2⟩)
 rcases q with q | q
 ·exact T2 ⟨⟨QP.nil,trivial⟩,fun h=>by cases h⟩
 have:=hq q rfl
 exact T2 ⟨⟨⟨by show q.length≤maxLen;unfold maxLen;omega,fun _ _=>trivial⟩,trivial⟩,fun _=>this⟩
theorem QvW (l1:(List QH))(h_l1:(QP Qci) l1):Qg (QkT l1) fun r=>True:=by
 unfold QkT
 refine T0 (QpW l1 (h_l1)) (fun x_1 hv2=>?_)
 exact T3
theorem QrQ (v1:Qj)(v2:Int)(h_v1:QW v1)(hp0:0≤v2)(hp1:v2<v1.Colours.length):Qg (Qgg v1 v2) fun r=>True:=by
 have hl:=h_v1.1.1
 unfold maxLen at hl
 unfold Qgg
 rw [QbY (show -9223372036854775808≤v2+1∧v2+1≤9223372036854775807 by omega)]
 refine T0 (T5 (by simp only [QE,QD];omega)) fun _ _=>?_
 exact T0 (QvW _ ((h_v1.1.drop _).take _)) fun x _=>T3
def QwR : List ByteArray:=(QiU).getD []
set_option maxRecDepth 100000 in
theorem QCR : QiU=some QwR:=by kernel_rfl
set_option maxRecDepth 100000 in
theorem QzD : (decide (QwR.length≤1000)&&QwR.all fun s=>decide (s.size≤1000))=true:=by kernel_rfl
theorem QwS : Qg (QiU) fun r=>QP Qgo r:=by
 have h:=QzD
 rw [QE,decide_eq_true_iff,Qah]at h
 refine⟨QwR,QCR,by unfold maxLen;omega,fun x hx=>?_⟩
 have:=h.2 x hx
 rw [decide_eq_true_iff]at this
 unfold Qgo maxLen;omega
theorem QmZ (s1:(List ByteArray))(v2:ByteArray)(h_s1:(QP Qgo) s1)(h_v2:Qgo v2):Qg (QcR s1 v2) fun r=>True:=by
 unfold QcR
 refine T0 (Qg.up (s1.length) (fun st=>st) (fun _=>True) (Q:=fun q=>True) rfl trivial (fun i2 st hi3 hn4 hj5=>?_)) (fun q6 hq7=>?_)
 ·obtain⟨x_1,hst⟩:∃y,y=st:=⟨_,rfl⟩
  subst hst
  replace hi3:x_1=(i2:Int):=hi3
  show Qg (Qcc s1 v2 x_1) _
  unfold Qcc
  refine T1 (fun hc8=>?_) (fun hc8=>?_)
  ·refine T0 (T4 (by omega) (by simp_all)) (fun e_9 hv10=>?_)
   refine T1 (fun hc11=>?_) (fun hc11=>?_)
   ·exact T2 (Qn trivial)
   exact T2 (QF ⟨(by simp_all),by subst hi3;exact Qz (by simp_all) (h_s1).1,trivial⟩)
  exact T2 (Qn trivial)
 rcases q6 with q6 | q6
 ·show Qg (Qcd q6) _
  unfold Qcd
  exact T3
 show Qg (Qce) _
 unfold Qce
 exact T3
theorem QlB (s1:(List ByteArray))(v2:ByteArray)(h_s1:(QP Qgo) s1)(h_v2:Qgo v2):Qg (Qcf s1 v2) fun r=>True:=by
 unfold Qcf
 refine T0 (QmZ s1 v2 (h_s1) (h_v2)) (fun x_1 hv2=>?_)
 exact T3
theorem Qxy (s1:ByteArray)(h_s1:Qgo s1):Qg (QmR s1) fun r=>True:=by
 unfold QmR
 refine T0 (QwS  ) (fun x_1 hv2=>?_)
 refine T0 (QlB x_1 s1 (hv2) (h_s1)) (fun x_3 hv4=>?_)
 exact T3
theorem Qh6 (s1:ByteArray)(h_s1:Qgo s1):Qg (QeR s1) fun r=>True:=by
 unfold QeR
 refine T0 (P:=fun _=>True) ?_ (fun x_1 hv2=>?_)
 ·unfold QqP
  refine T0 (QmY s1 (h_s1)) (fun x_3 hv4=>?_)
  refine T1 (fun hc5=>?_) (fun hc5=>?_)
  ·refine T0 (Qxy s1 (h_s1)) (fun x_6 hv7=>?_)
   exact T3
  exact T3
 unfold QjH
 exact T3
theorem Qp8 (s1:ByteArray)(h_s1:Qgo s1):Qg (Qe7 s1) fun r=>True:=by
 unfold Qe7
 refine T0 (Qh6 s1 (h_s1)) (fun x_1 hv2=>?_)
 exact T3
theorem Qlh (s1:(List ByteArray))(h_s1:(QP Qgo) s1):Qg (Qb5 s1) fun r=>True:=by
 unfold Qb5
 refine T0 (Qg.up (s1.length) (fun st=>st) (fun _=>True) (Q:=fun q=>True) rfl trivial (fun i2 st hi3 hn4 hj5=>?_)) (fun q6 hq7=>?_)
 ·obtain⟨x_1,hst⟩:∃y,y=st:=⟨_,rfl⟩
  subst hst
  replace hi3:x_1=(i2:Int):=hi3
  show Qg (Qbx s1 x_1) _
  unfold Qbx
  refine T1 (fun hc8=>?_) (fun hc8=>?_)
  ·refine T0 (T4 (by omega) (by simp_all)) (fun e_9 hv10=>?_)
   refine T0 (Qp8 e_9 (((h_s1).2 e_9 hv10))) (fun x_11 hv12=>?_)
   refine T1 (fun hc13=>?_) (fun hc13=>?_)
   ·exact T2 (Qn trivial)
   exact T2 (QF ⟨(by simp_all),by subst hi3;exact Qz (by simp_all) (h_s1).1,trivial⟩)
  exact T2 (Qn trivial)
 rcases q6 with q6 | q6
 ·show Qg (Qby q6) _
  unfold Qby
  exact T3
 show Qg (Qbz) _
 unfold Qbz
 exact T3
theorem QjZ (s1:(List ByteArray))(h_s1:(QP Qgo) s1):Qg (QbA s1) fun r=>True:=by
 unfold QbA
 refine T0 (Qlh s1 (h_s1)) (fun x_1 hv2=>?_)
 exact T3
theorem QrR (v1:QH)(h_v1:Qci v1):Qg (Qgh v1) fun r=>True:=by
 unfold Qgh
 refine T0 (P:=fun _=>True) ?_ (fun x_1 hv2=>?_)
 ·unfold QlA
  refine T0 (Qh6 v1.Name (h_v1.1)) (fun x_3 hv4=>?_)
  refine T1 (fun hc5=>?_) (fun hc5=>?_)
  ·refine T1 (fun hc6=>?_) (fun hc6=>?_)
   ·exact T3
   refine T0 (QjZ v1.Names (h_v1.2.2.2.2.1)) (fun x_7 hv8=>?_)
   exact T3
  exact T3
 unfold QeJ
 exact T3
theorem Qud (v1:Qj)(v2:Int)(v3:Int)(v4:QH)(v5:Int)(h_v1:QW v1)(h_v4:Qci v4)(hp0:0≤v2)(hp1:v2<v1.Colours.length):Qg (Qiw v1 v2 v3 v4 v5) fun r=>True:=by
 unfold Qiw
 refine T0 (QrQ v1 v2 (h_v1) (by omega) (by omega)) (fun x_1 hv2=>?_)
 refine T1 (fun hc3=>?_) (fun hc3=>?_)
 ·exact T3
 refine T0 (QrR v4 (h_v4)) (fun x_4 hv5=>?_)
 refine T1 (fun hc6=>?_) (fun hc6=>?_)
 ·exact T3
 exact T3
theorem Qtq (k1:Int)(c2:QH)(v3:Qj)(h_c2:Qci c2)(h_v3:QW v3)(hp0:0≤k1)(hp1:k1<v3.Colours.length):Qg (Qhw k1 c2 v3) fun r=>True:=by
 unfold Qhw
 refine T0 (Qud v3 k1 8 c2 8 (h_v3) (h_c2) (by omega) (by omega)) (fun x_1 hv2=>?_)
 exact T3
theorem Qo0 (l1:(List QH))(v2:Qj)(h_l1:(QP Qci) l1)(h_v2:QW v2)(hp0:l1.length≤v2.Colours.length):Qg (Qeb l1 v2) fun r=>True:=by
 unfold Qeb
 refine T0 (Qg.up (l1.length) (fun st=>st) (fun _=>True) (Q:=fun q=>True) rfl trivial (fun i2 st hi3 hn4 hj5=>?_)) (fun q6 hq7=>?_)
 ·obtain⟨x_1,hst⟩:∃y,y=st:=⟨_,rfl⟩
  subst hst
  replace hi3:x_1=(i2:Int):=hi3
  show Qg (Qdb l1 v2 x_1) _
  unfold Qdb
  refine T1 (fun hc8=>?_) (fun hc8=>?_)
  ·refine T0 (T4 (by omega) (by simp_all)) (fun e_9 hv10=>?_)
   refine T0 (Qtq x_1 e_9 v2 (((h_l1).2 e_9 hv10)) (h_v2) (by omega) (by simp_all;omega)) (fun x_11 hv12=>?_)
   refine T1 (fun hc13=>?_) (fun hc13=>?_)
   ·exact T2 (Qn trivial)
   exact T2 (QF ⟨(by simp_all),by subst hi3;exact Qz (by simp_all) (h_l1).1,trivial⟩)
  exact T2 (Qn trivial)
 rcases q6 with q6 | q6
 ·show Qg (Qdc q6.1 q6.2) _
  unfold Qdc
  exact T3
 show Qg (Qdd) _
 unfold Qdd
 exact T3
theorem QoD (n1:Qj)(h_n1:QW n1):Qg (QgU n1) fun r=>True:=by
 unfold QgU
 refine T0 (Qo0 n1.Colours n1 (h_n1.1) (h_n1) (by omega)) (fun x_1 hv2=>?_)
 exact T3
theorem Qu8 (v1:QM)(h_v1:QcT v1):Qg (QjI v1) fun r=>True:=by
 unfold QjI
 refine T0 (Qh6 v1.Name (h_v1.1)) (fun x_1 hv2=>?_)
 exact T3
theorem Qu9 (p1:QM)(v2:QM)(h_p1:QcT p1)(h_v2:QcT v2):Qg (QjJ p1 v2) fun r=>True:=by
 unfold QjJ
 exact T3
theorem QiL (s1:(List QM))(v2:QM)(h_s1:(QP QcT) s1)(h_v2:QcT v2):Qg (Qbb s1 v2) fun r=>True:=by
 unfold Qbb
 refine T0 (Qg.up (s1.length) (fun st=>st) (fun _=>True) (Q:=fun q=>True) rfl trivial (fun i2 st hi3 hn4 hj5=>?_)) (fun q6 hq7=>?_)
 ·obtain⟨x_1,hst⟩:∃y,y=st:=⟨_,rfl⟩
  subst hst
  replace hi3:x_1=(i2:Int):=hi3
  show Qg (QaR s1 v2 x_1) _
  unfold QaR
  refine T1 (fun hc8=>?_) (fun hc8=>?_)
  ·refine T0 (T4 (by omega) (by simp_all)) (fun e_9 hv10=>?_)
   refine T0 (Qu9 e_9 v2 (((h_s1).2 e_9 hv10)) (h_v2)) (fun x_11 hv12=>?_)
   refine T1 (fun hc13=>?_) (fun hc13=>?_)
   ·exact T2 (Qn trivial)
   exact T2 (QF ⟨(by simp_all),by subst hi3;exact Qz (by simp_all) (h_s1).1,trivial⟩)
  exact T2 (Qn trivial)
 rcases q6 with q6 | q6
 ·show Qg (QaS q6) _
  unfold QaS
  exact T3
 show Qg (QaT) _
 unfold QaT
 exact T3
theorem Qha (s1:(List QM))(v2:QM)(h_s1:(QP QcT) s1)(h_v2:QcT v2):Qg (QaU s1 v2) fun r=>True:=by
 unfold QaU
 refine T0 (QiL s1 v2 (h_s1) (h_v2)) (fun x_1 hv2=>?_)
 exact T3
theorem Qva (v1:Qj)(v2:Int)(v3:QM)(h_v1:QW v1)(h_v3:QcT v3)(hp0:0≤v2)(hp1:v2<v1.Places.length):Qg (QjK v1 v2 v3) fun r=>True:=by
 unfold QjK
 refine T0 (T5 (by simp_all;omega)) (fun _ _=>?_)
 refine T0 (Qha ((v1.Places.drop 0).take (v2.toNat-0)) v3 (((h_v1.2.1).drop _).take _) (h_v3)) (fun x_1 hv2=>?_)
 exact T3
theorem QiY (l1:(List QH))(k2:Int)(h_l1:(QP Qci) l1):Qg (QcH l1 k2) fun r=>True:=by
 unfold QcH
 exact T3
theorem Qvb (v1:Qj)(v2:QM)(h_v1:QW v1)(h_v2:QcT v2):Qg (QjL v1 v2) fun r=>True:=by
 unfold QjL
 refine T0 (QiY v1.Colours v2.Colour (h_v1.1)) (fun x_1 hv2=>?_)
 exact T3
theorem Qyh (b1:(List (Int×Int)))(h_b1:(QP (fun _=>True)) b1):Qg (Qc4 b1) fun r=>True:=by
 unfold Qc4
 refine T0 (Qg.up (b1.length) (fun st=>st.2) (fun _=>True) (Q:=fun q=>True) rfl trivial (fun i3 st hi4 hn5 hj6=>?_)) (fun q7 hq8=>?_)
 ·obtain⟨last_1,x_2⟩:=st
  replace hi4:x_2=(i3:Int):=hi4
  show Qg (QcP b1 last_1 x_2) _
  unfold QcP
  refine T1 (fun hc9=>?_) (fun hc9=>?_)
  ·refine T0 (T4 (by omega) (by simp_all)) (fun e_10 hv11=>?_)
   refine T1 (fun hc12=>?_) (fun hc12=>?_)
   ·exact T2 (Qn trivial)
   exact T2 (QF ⟨(by simp_all),by subst hi4;exact Qz (by simp_all) (h_b1).1,trivial⟩)
  exact T2 (Qn trivial)
 rcases q7 with q7 | q7
 ·show Qg (Qkz) _
  unfold Qkz
  exact T3
 show Qg (QkA) _
 unfold QkA
 exact T3
theorem Qvc (v1:QM)(h_v1:QcT v1):Qg (QjM v1) fun r=>True:=by
 unfold QjM
 refine T0 (Qyh v1.First (h_v1.2.2)) (fun x_1 hv2=>?_)
 exact T3
theorem QiZ (l1:(List QH))(k2:Int)(h_l1:(QP Qci) l1):Qg (QfN l1 k2) fun r=>(True∧Qyg r.2)∧(r.1=true→(0≤k2∧k2<r.2.sizes.length)∧r.2.k=k2∧r.2.all.length=r.2.sizes.length∧∀x∈r.2.sizes,1≤x∧x≤1024):=by
 unfold QfN
 refine T0 (QpW l1 h_l1) fun x hx=>?_
 refine T1 (fun _=>T2 ⟨⟨trivial,QP.nil,QP.nil,trivial⟩,fun h=>by cases h⟩) fun hc=>?_
 simp only [Qc8,Qji,Q1]at hc
 have:=hx.2 hc.1
 exact T2 ⟨⟨trivial,h_l1,hx.1.1,trivial⟩,fun _=>⟨⟨by omega,by show k2<(x.1.length:Int);omega⟩,rfl,this.1.symm,this.2⟩⟩
theorem Qc1 (l1:(List QH))(k2:Int)(h_l1:(QP Qci) l1):Qg (Qa3 l1 k2) fun r=>0≤r∧r≤1024:=by
 unfold Qa3
 refine T0 (QiZ l1 k2 h_l1) (fun x hx=>?_)
 refine T1 (fun hc=>T2 (by omega)) (fun hc=>?_)
 have h:=hx.2 (by simpa using hc)
 exact T0 (T4 (by omega) (by omega)) fun e he=>T2 (by have:=h.2.2.2 e he;omega)
theorem Qtr (row1:(Int×Int))(v2:Int)  : Qg (Qhx row1 v2) fun r=>True:=by
 unfold Qhx
 exact T3
theorem Qli (s1:(List (Int×Int)))(v2:Int)(h_s1:(QP (fun _=>True)) s1):Qg (Qb6 s1 v2) fun r=>True:=by
 unfold Qb6
 refine T0 (Qg.up (s1.length) (fun st=>st) (fun _=>True) (Q:=fun q=>True) rfl trivial (fun i2 st hi3 hn4 hj5=>?_)) (fun q6 hq7=>?_)
 ·obtain⟨x_1,hst⟩:∃y,y=st:=⟨_,rfl⟩
  subst hst
  replace hi3:x_1=(i2:Int):=hi3
  show Qg (QbB s1 v2 x_1) _
  unfold QbB
  refine T1 (fun hc8=>?_) (fun hc8=>?_)
  ·refine T0 (T4 (by omega) (by simp_all)) (fun e_9 hv10=>?_)
   refine T0 (Qtr e_9 v2 ) (fun x_11 hv12=>?_)
   refine T1 (fun hc13=>?_) (fun hc13=>?_)
   ·exact T2 (Qn trivial)
   exact T2 (QF ⟨(by simp_all),by subst hi3;exact Qz (by simp_all) (h_s1).1,trivial⟩)
  exact T2 (Qn trivial)
 rcases q6 with q6 | q6
 ·show Qg (QbC q6) _
  unfold QbC
  exact T3
 show Qg (QbD) _
 unfold QbD
 exact T3
theorem Qj0 (s1:(List (Int×Int)))(v2:Int)(h_s1:(QP (fun _=>True)) s1):Qg (QbE s1 v2) fun r=>True:=by
 unfold QbE
 refine T0 (Qli s1 v2 (h_s1)) (fun x_1 hv2=>?_)
 exact T3
theorem Qvd (v1:Qj)(v2:QM)(h_v1:QW v1)(h_v2:QcT v2):Qg (QjN v1 v2) fun r=>True:=by
 unfold QjN
 refine T0 (Qc1 v1.Colours v2.Colour (h_v1.1)) (fun x_1 hv2=>?_)
 refine T0 (Qj0 v2.First x_1 (h_v2.2.2)) (fun x_3 hv4=>?_)
 exact T3
theorem Que (v1:QM)(v2:Int)(v3:Qj)(v4:Int)(v5:Int)(v6:Int)(v7:Int)(v8:Int)(h_v1:QcT v1)(h_v3:QW v3)(hp0:0≤v4)(hp1:v4<v3.Places.length):Qg (Qix v1 v2 v3 v4 v5 v6 v7 v8) fun r=>True:=by
 unfold Qix
 refine T0 (Qu8 v1 (h_v1)) (fun x_1 hv2=>?_)
 refine T1 (fun hc3=>?_) (fun hc3=>?_)
 ·exact T3
 refine T0 (Qva v3 v4 v1 (h_v3) (h_v1) (by omega) (by omega)) (fun x_4 hv5=>?_)
 refine T1 (fun hc6=>?_) (fun hc6=>?_)
 ·exact T3
 refine T0 (Qvb v3 v1 (h_v3) (h_v1)) (fun x_7 hv8=>?_)
 refine T1 (fun hc9=>?_) (fun hc9=>?_)
 ·exact T3
 refine T0 (Qvc v1 (h_v1)) (fun x_10 hv11=>?_)
 refine T1 (fun hc12=>?_) (fun hc12=>?_)
 ·exact T3
 refine T0 (Qvd v3 v1 (h_v3) (h_v1)) (fun x_13 hv14=>?_)
 refine T1 (fun hc15=>?_) (fun hc15=>?_)
 ·exact T3
 exact T3
theorem QwT (n1:Qj)(k2:Int)(h_n1:QW n1):Qg (QlM n1 k2) fun r=>True:=by
 unfold QlM
 refine T0 (Qcs n1.Places k2 (h_n1.2.1)) (fun x_1 hv2=>?_)
 refine T1 (fun hc3=>?_) (fun hc3=>?_)
 ·exact T3
 refine T0 (T4 (by simp_all) (by simp_all)) (fun e_4 hv5=>?_)
 refine T0 (Que e_4 1 n1 k2 5 3 1 8 (((h_n1.2.1).2 e_4 hv5)) (h_n1) (by simp_all) (by simp_all)) (fun x_6 hv7=>?_)
 exact T3
theorem QwU (k1:Int)(p2:QM)(v3:Qj)(h_p2:QcT p2)(h_v3:QW v3):Qg (QlN k1 p2 v3) fun r=>True:=by
 unfold QlN
 refine T0 (QwT v3 k1 (h_v3)) (fun x_1 hv2=>?_)
 exact T3
theorem QpX (l1:(List QM))(v2:Qj)(h_l1:(QP QcT) l1)(h_v2:QW v2):Qg (QeK l1 v2) fun r=>True:=by
 unfold QeK
 refine T0 (Qg.up (l1.length) (fun st=>st) (fun _=>True) (Q:=fun q=>True) rfl trivial (fun i2 st hi3 hn4 hj5=>?_)) (fun q6 hq7=>?_)
 ·obtain⟨x_1,hst⟩:∃y,y=st:=⟨_,rfl⟩
  subst hst
  replace hi3:x_1=(i2:Int):=hi3
  show Qg (QdC l1 v2 x_1) _
  unfold QdC
  refine T1 (fun hc8=>?_) (fun hc8=>?_)
  ·refine T0 (T4 (by omega) (by simp_all)) (fun e_9 hv10=>?_)
   refine T0 (QwU x_1 e_9 v2 (((h_l1).2 e_9 hv10)) (h_v2)) (fun x_11 hv12=>?_)
   refine T1 (fun hc13=>?_) (fun hc13=>?_)
   ·exact T2 (Qn trivial)
   exact T2 (QF ⟨(by simp_all),by subst hi3;exact Qz (by simp_all) (h_l1).1,trivial⟩)
  exact T2 (Qn trivial)
 rcases q6 with q6 | q6
 ·show Qg (QdD q6.1 q6.2) _
  unfold QdD
  exact T3
 show Qg (QdE) _
 unfold QdE
 exact T3
theorem Qkl (l1:(List QC))(k2:Int)(h_l1:(QP QaJ) l1):Qg (Qbt l1 k2) fun r=>r=true→0≤k2∧k2<l1.length:=by
 unfold Qbt
 exact T2 (by first | (intro hr;first | (cases hr;done) | omega | ((try simp only [QE,Qdt,Qc8,Qfr,Qji,QD,Q1,beq_iff_eq,bne_iff_ne,ne_eq,Qnv,Qqf,QcL,Qjj,QnA,Qny,Qfs,Qez,Qmd,Qme,Qk5]at *);omega)) | ((try simp only [QE,Qdt,Qc8,Qfr,Qji,QD,Q1,beq_iff_eq,bne_iff_ne,ne_eq,Qnv,Qqf,QcL,Qjj,QnA,Qny,Qfs,Qez,Qmd,Qme,Qk5]at *);omega) | simp_all)
theorem QwV (v1:Int)(v2:Qj)(v3:QC)(h_v2:QW v2)(h_v3:QaJ v3):Qg (QlO v1 v2 v3) fun r=>True:=by
 unfold QlO
 exact T3
theorem Quf (v1:Int)(v2:Qj)(v3:QC)(v4:Int)(h_v2:QW v2)(h_v3:QaJ v3):Qg (Qiy v1 v2 v3 v4) fun r=>True:=by
 unfold Qiy
 exact T3
theorem Qug (v1:Int)(v2:Qj)(v3:QC)(v4:Int)(h_v2:QW v2)(h_v3:QaJ v3):Qg (Qiz v1 v2 v3 v4) fun r=>True:=by
 unfold Qiz
 exact T3
theorem Quh (v1:Int)(v2:Qj)(v3:QC)(h_v2:QW v2)(h_v3:QaJ v3):Qg (QiA v1 v2 v3) fun r=>True:=by
 unfold QiA
 exact T3
theorem QvX (v1:QC)(h_v1:QaJ v1):Qg (QkW v1) fun r=>True:=by
 unfold QkW
 refine T0 (Qh6 v1.Name (h_v1.1)) (fun x_1 hv2=>?_)
 exact T3
theorem QvY (p1:QC)(v2:QC)(h_p1:QaJ p1)(h_v2:QaJ v2):Qg (QkX p1 v2) fun r=>True:=by
 unfold QkX
 exact T3
theorem Qjh (s1:(List QC))(v2:QC)(h_s1:(QP QaJ) s1)(h_v2:QaJ v2):Qg (Qbp s1 v2) fun r=>True:=by
 unfold Qbp
 refine T0 (Qg.up (s1.length) (fun st=>st) (fun _=>True) (Q:=fun q=>True) rfl trivial (fun i2 st hi3 hn4 hj5=>?_)) (fun q6 hq7=>?_)
 ·obtain⟨x_1,hst⟩:∃y,y=st:=⟨_,rfl⟩
  subst hst
  replace hi3:x_1=(i2:Int):=hi3
  show Qg (Qa4 s1 v2 x_1) _
  unfold Qa4
  refine T1 (fun hc8=>?_) (fun hc8=>?_)
  ·refine T0 (T4 (by omega) (by simp_all)) (fun e_9 hv10=>?_)
   refine T0 (QvY e_9 v2 (((h_s1).2 e_9 hv10)) (h_v2)) (fun x_11 hv12=>?_)
   refine T1 (fun hc13=>?_) (fun hc13=>?_)
   ·exact T2 (Qn trivial)
   exact T2 (QF ⟨(by simp_all),by subst hi3;exact Qz (by simp_all) (h_s1).1,trivial⟩)
  exact T2 (Qn trivial)
 rcases q6 with q6 | q6
 ·show Qg (Qa5 q6) _
  unfold Qa5
  exact T3
 show Qg (Qa6) _
 unfold Qa6
 exact T3
theorem Qib (s1:(List QC))(v2:QC)(h_s1:(QP QaJ) s1)(h_v2:QaJ v2):Qg (Qa7 s1 v2) fun r=>True:=by
 unfold Qa7
 refine T0 (Qjh s1 v2 (h_s1) (h_v2)) (fun x_1 hv2=>?_)
 exact T3
theorem QvZ (v1:Qj)(v2:Int)(v3:QC)(h_v1:QW v1)(h_v3:QaJ v3)(hp0:0≤v2)(hp1:v2<v1.Tasks.length):Qg (QkY v1 v2 v3) fun r=>True:=by
 unfold QkY
 refine T0 (T5 (by simp_all;omega)) (fun _ _=>?_)
 refine T0 (Qib ((v1.Tasks.drop 0).take (v2.toNat-0)) v3 (((h_v1.2.2.1).drop _).take _) (h_v3)) (fun x_1 hv2=>?_)
 exact T3
theorem Qv0 (v1:Int)(v2:QC)(h_v2:QaJ v2):Qg (Qh0 v1 v2) fun r=>True:=by
 unfold Qh0
 exact T3
theorem Qp9 (v1:QaN)(h_v1:Qem v1):Qg (Qe8 v1) fun r=>True:=by
 unfold Qe8
 refine T0 (Qh6 v1.Name (h_v1.1)) (fun x_1 hv2=>?_)
 exact T3
theorem Qqa (p1:QaN)(v2:QaN)(h_p1:Qem p1)(h_v2:Qem v2):Qg (Qe9 p1 v2) fun r=>True:=by
 unfold Qe9
 exact T3
theorem Qkm (s1:(List QaN))(v2:QaN)(h_s1:(QP Qem) s1)(h_v2:Qem v2):Qg (QbJ s1 v2) fun r=>True:=by
 unfold QbJ
 refine T0 (Qg.up (s1.length) (fun st=>st) (fun _=>True) (Q:=fun q=>True) rfl trivial (fun i2 st hi3 hn4 hj5=>?_)) (fun q6 hq7=>?_)
 ·obtain⟨x_1,hst⟩:∃y,y=st:=⟨_,rfl⟩
  subst hst
  replace hi3:x_1=(i2:Int):=hi3
  show Qg (Qbg s1 v2 x_1) _
  unfold Qbg
  refine T1 (fun hc8=>?_) (fun hc8=>?_)
  ·refine T0 (T4 (by omega) (by simp_all)) (fun e_9 hv10=>?_)
   refine T0 (Qqa e_9 v2 (((h_s1).2 e_9 hv10)) (h_v2)) (fun x_11 hv12=>?_)
   refine T1 (fun hc13=>?_) (fun hc13=>?_)
   ·exact T2 (Qn trivial)
   exact T2 (QF ⟨(by simp_all),by subst hi3;exact Qz (by simp_all) (h_s1).1,trivial⟩)
  exact T2 (Qn trivial)
 rcases q6 with q6 | q6
 ·show Qg (Qbh q6) _
  unfold Qbh
  exact T3
 show Qg (Qbi) _
 unfold Qbi
 exact T3
theorem Qi0 (s1:(List QaN))(v2:QaN)(h_s1:(QP Qem) s1)(h_v2:Qem v2):Qg (Qbj s1 v2) fun r=>True:=by
 unfold Qbj
 refine T0 (Qkm s1 v2 (h_s1) (h_v2)) (fun x_1 hv2=>?_)
 exact T3
theorem Qqb (v1:(List QaN))(v2:Int)(v3:QaN)(h_v1:(QP Qem) v1)(h_v3:Qem v3)(hp0:0≤v2)(hp1:v2<v1.length):Qg (Qfa v1 v2 v3) fun r=>True:=by
 unfold Qfa
 refine T0 (T5 (by simp_all;omega)) (fun _ _=>?_)
 refine T0 (Qi0 ((v1.drop 0).take (v2.toNat-0)) v3 (((h_v1).drop _).take _) (h_v3)) (fun x_1 hv2=>?_)
 exact T3
theorem Qqc (v1:Qj)(v2:QaN)(h_v1:QW v1)(h_v2:Qem v2):Qg (Qfb v1 v2) fun r=>True:=by
 unfold Qfb
 refine T0 (QiY v1.Colours v2.Colour (h_v1.1)) (fun x_1 hv2=>?_)
 exact T3
theorem Qui (v1:QaN)(v2:Int)(v3:(List QaN))(v4:Int)(v5:Int)(v6:Qj)(v7:Int)(h_v1:Qem v1)(h_v3:(QP Qem) v3)(h_v6:QW v6)(hp0:0≤v4)(hp1:v4<v3.length):Qg (QiC v1 v2 v3 v4 v5 v6 v7) fun r=>True:=by
 unfold QiC
 refine T0 (Qp9 v1 (h_v1)) (fun x_1 hv2=>?_)
 refine T1 (fun hc3=>?_) (fun hc3=>?_)
 ·exact T3
 refine T0 (Qqb v3 v4 v1 (h_v3) (h_v1) (by omega) (by omega)) (fun x_4 hv5=>?_)
 refine T1 (fun hc6=>?_) (fun hc6=>?_)
 ·exact T3
 refine T0 (Qqc v6 v1 (h_v6) (h_v1)) (fun x_7 hv8=>?_)
 refine T1 (fun hc9=>?_) (fun hc9=>?_)
 ·exact T3
 exact T3
theorem QrS (k1:Int)(v2:QaN)(v3:(List QaN))(v4:Qj)(h_v2:Qem v2)(h_v3:(QP Qem) v3)(h_v4:QW v4)(hp0:0≤k1)(hp1:k1<v3.length):Qg (Qgi k1 v2 v3 v4) fun r=>True:=by
 unfold Qgi
 refine T0 (Qui v2 1 v3 k1 5 v4 3 (h_v2) (h_v3) (h_v4) (by omega) (by omega)) (fun x_1 hv2=>?_)
 exact T3
theorem Qri (l1:(List QaN))(v2:(List QaN))(v3:Qj)(h_l1:(QP Qem) l1)(h_v2:(QP Qem) v2)(h_v3:QW v3)(hp0:l1.length≤v2.length):Qg (QfE l1 v2 v3) fun r=>True:=by
 unfold QfE
 refine T0 (Qg.up (l1.length) (fun st=>st) (fun _=>True) (Q:=fun q=>True) rfl trivial (fun i2 st hi3 hn4 hj5=>?_)) (fun q6 hq7=>?_)
 ·obtain⟨x_1,hst⟩:∃y,y=st:=⟨_,rfl⟩
  subst hst
  replace hi3:x_1=(i2:Int):=hi3
  show Qg (Qec l1 v2 v3 x_1) _
  unfold Qec
  refine T1 (fun hc8=>?_) (fun hc8=>?_)
  ·refine T0 (T4 (by omega) (by simp_all)) (fun e_9 hv10=>?_)
   refine T0 (QrS x_1 e_9 v2 v3 (((h_l1).2 e_9 hv10)) (h_v2) (h_v3) (by omega) (by simp_all;omega)) (fun x_11 hv12=>?_)
   refine T1 (fun hc13=>?_) (fun hc13=>?_)
   ·exact T2 (Qn trivial)
   exact T2 (QF ⟨(by simp_all),by subst hi3;exact Qz (by simp_all) (h_l1).1,trivial⟩)
  exact T2 (Qn trivial)
 rcases q6 with q6 | q6
 ·show Qg (Qed q6.1 q6.2) _
  unfold Qed
  exact T3
 show Qg (Qee) _
 unfold Qee
 exact T3
theorem Qts (n1:Qj)(l2:(List QaN))(h_n1:QW n1)(h_l2:(QP Qem) l2):Qg (Qhy n1 l2) fun r=>True:=by
 unfold Qhy
 refine T0 (Qri l2 l2 n1 (h_l2) (h_l2) (h_n1) (by omega)) (fun x_1 hv2=>?_)
 exact T3
theorem Qv1 (v1:Qj)(v2:QC)(h_v1:QW v1)(h_v2:QaJ v2):Qg (QkZ v1 v2) fun r=>True:=by
 unfold QkZ
 refine T0 (Qts v1 v2.Vars (h_v1) (h_v2.2.1)) (fun x_1 hv2=>?_)
 exact T3
theorem Qve (v1:Qj)(v2:QC)(v3:Int)(h_v1:QW v1)(h_v2:QaJ v2):Qg (QgV v1 v2 v3) fun r=>True:=by
 unfold QgV
 refine T0 (Qv1 v1 v2 (h_v1) (h_v2)) (fun x_1 hv2=>?_)
 exact T3
theorem QqW (n1:Qj)(k2:Int)(h_n1:QW n1):Qg (Qde n1 k2) fun r=>True:=by
 unfold Qde
 refine T0 (Qkl n1.Tasks k2 (h_n1.2.2.1)) (fun x_1 hv2=>?_)
 refine T1 (fun hc3=>?_) (fun hc3=>?_)
 ·exact T3
 refine T0 (T4 (by simp_all) (by simp_all)) (fun e_4 hv5=>?_)
 refine T0 (Qg.up (e_4.Vars.length) (fun st=>st.2) (fun _=>True) (Q:=fun q=>True) rfl trivial (fun i8 st hi9 hn10 hj11=>?_)) (fun q12 hq13=>?_)
 ·obtain⟨out_6,x_7⟩:=st
  replace hi9:x_7=(i8:Int):=hi9
  show Qg (Qex e_4 n1 out_6 x_7) _
  unfold Qex
  refine T1 (fun hc14=>?_) (fun hc14=>?_)
  ·refine T0 (T4 (by omega) (by simp_all)) (fun e_15 hv16=>?_)
   refine T0 (Qc1 n1.Colours e_15.Colour (h_n1.1)) (fun x_17 hv18=>?_)
   refine T1 (fun hc19=>?_) (fun hc19=>?_)
   ·exact T2 (Qn trivial)
   exact T2 (QF ⟨(by simp_all),by subst hi9;exact Qz (by simp_all) (((h_n1.2.2.1).2 e_4 hv5).2.1).1,trivial⟩)
  exact T2 (Qn trivial)
 rcases q12 with q12 | q12
 ·show Qg (QiD) _
  unfold QiD
  exact T3
 show Qg (QiE q12) _
 unfold QiE
 exact T3
theorem Qv2 (v1:Qj)(v2:Int)(h_v1:QW v1):Qg (Qh1 v1 v2) fun r=>True:=by
 unfold Qh1
 refine T0 (QqW v1 v2 (h_v1)) (fun x_1 hv2=>?_)
 exact T3
theorem Qyi (kind1:Int):Qg (QnL kind1) fun r=>0≤r→(kind1=1∨kind1=2∨kind1=3∨kind1=4∨kind1=5∨kind1=6)∧(kind1=3∨kind1=4→r=1)∧(kind1=5→r=2)∧(kind1=6→r=3):=by
 unfold QnL
 refine T1 (fun hc=>?_) (fun hc=>?_)
 ·unfold QhN;rw [hc]
  simp only [beq_iff_eq]at hc
  exact T2 (by omega)
 simp only [beq_eq_false_iff_ne]at hc
 unfold QhN
 refine T1 (fun hc=>T2 (by simp only [beq_iff_eq]at hc;omega)) (fun hc2=>?_)
 simp only [beq_eq_false_iff_ne]at hc2
 refine T1 (fun hc3=>?_) (fun hc3=>?_)
 ·unfold QhM;rw [hc3]
  simp only [beq_iff_eq]at hc3
  exact T2 (by omega)
 simp only [beq_eq_false_iff_ne]at hc3
 unfold QhM
 refine T1 (fun hc=>T2 (by simp only [beq_iff_eq]at hc;omega)) (fun hc4=>?_)
 simp only [beq_eq_false_iff_ne]at hc4
 refine T1 (fun hc=>T2 (by simp only [beq_iff_eq]at hc;omega)) (fun hc5=>?_)
 simp only [beq_eq_false_iff_ne]at hc5
 exact T1 (fun hc=>T2 (by simp only [beq_iff_eq]at hc;omega)) (fun hc6=>T2 (by omega))
theorem Qxz (op1:Int)  : Qg (Qmz op1) fun r=>True:=by
 unfold Qmz
 exact T3
theorem Qns (rec_:Qo→Int→Option Bool)(s1:List Qo)(v2:Int)(h1:s1.length≤maxLen)(h:∀k∈s1,Qg (rec_ k v2) fun r=>r=true→POk v2 k):Qg (Qa2 rec_ s1 v2) fun r=>r=false→∀k∈s1,POk v2 k:=by
 unfold Qa2 QcC
 refine T0 (P:=fun x=>x<0→∀k∈s1,POk v2 k) ?_ fun x hx=>T2 fun h=>hx (by simp only [Q1]at h;omega)
 refine T0 (Qg.up s1.length (fun st=>st) (fun st=>∀(j:Nat) k,(j:Int)<st→s1[j]? = some k→POk v2 k) (Q:=fun q=>(∀x,q=.inl x→0≤x)∧(q=.inr ()→∀k∈s1,POk v2 k)) rfl (fun j k hj=>by omega) (fun i st hi hn hj=>?_)) (fun q hq=>?_)
 ·show Qg (Qa1 s1 rec_ v2 st) _
  unfold Qa1 Qni
  refine T1 (fun hc=>?_) (fun hc=>T2 (Qn ⟨fun x h=>(by cases h),fun _ k hk=>by
   obtain⟨j,hj1,hj2⟩:=Qmk.1 hk
   simp only [Q1]at hc
   exact hj j k (by omega) (by rw [QB hj1,hj2])⟩))
  simp only [QD]at hc
  rw [Qk4 (by omega)]
  have hlt:st.toNat<s1.length:=by omega
  rw [QB hlt]
  refine T0 (P:=fun k=>k=s1[st.toNat]) (T2 rfl) fun k hk=>?_
  subst hk
  refine T0 (P:=fun r=>r=false→POk v2 s1[st.toNat]) (T0 (h _ (Qay hlt)) fun x hx=>T2 fun h=>hx (by simpa using h)) fun x hx=>?_
  refine T1 (fun _=>T2 (Qn ⟨fun x h=>(by cases h;omega),fun h=>(by cases h)⟩)) fun hxf=>T2 (QF ⟨by omega,by rw [hi];exact Qz (by omega) h1,?_⟩)
  rw [hi,Qz (show i<s1.length by omega) h1]
  intro j k hj' hk
  by_cases c:j=i
  ·subst c
   have e:st.toNat=j:=by omega
   have:=hx hxf
   rw [QB (by omega)]at hk
   cases hk
   simpa only [e] using this
  exact hj j k (by omega) hk
 rcases q with q | q
 ·exact T2 fun h=>absurd (hq.1 q rfl) (by omega)
 exact T2 fun _=>hq.2 rfl
theorem QpY : ∀(n:Nat) (e:Qo) (v:Int),Qds e→SizeOf.sizeOf e≤n→Qg (Qer n e v) fun r=>r=true→POk v e
 | 0,e,_,_,h=>absurd e.pos (by omega)
 | n+1,e,v,he,h=>by
  unfold Qer Qnj
  refine T0 (Qyi e.Kind) fun x hx=>?_
  refine T1 (fun _=>T2 fun h=>by cases h) fun h1=>T1 (fun _=>T2 fun h=>by cases h) fun h2=>?_
  refine T0 (P:=fun _=>True) ?_ fun y _=>?_
  ·unfold Qqx
   exact T1 (fun _=>T0 (Qxz e.Num) fun x _=>T3) fun _=>T3
  unfold Qjs
  refine T1 (fun _=>T2 fun h=>by cases h) fun _=>?_
  refine T0 (Qns (Qer n) e.Kids v (QeU he).1 fun k hk=>QpY n k v ((QeU he).2 k hk) (by have:=Quc hk;omega)) fun x hx2=>T2 fun hx3=>?_
  simp only [bne_eq_false_iff_eq]at h1
  have h3:=hx (by omega)
  simp only [Bool.and_eq_false_iff,Qc8,Q1,beq_eq_false_iff_ne]at h2
  exact .mk e h3.1 (fun hk=>by omega) (fun hk=>by have:=h3.2.1 hk;omega) (fun hk=>by have:=h3.2.2.1 hk;omega) (fun hk=>by have:=h3.2.2.2 hk;omega) (hx2 (by simpa using hx3))
theorem QxA (e1:Qo)(vars2:Int)(h_e1:Qds e1):Qg (Qpz e1 vars2) fun r=>r=true→POk vars2 e1:=QpY _ e1 vars2 h_e1 (QbT _)
theorem QpZ : ∀(n:Nat) (e:Qo),Qds e→SizeOf.sizeOf e≤n→Qg (Qeq n e) fun _=>True
 | 0,e,_,h=>absurd e.pos (by omega)
 | n+1,e,he,h=>by
  unfold Qeq Qng
  refine T0 (Qg.up e.Kids.length (fun st=>st.2) (fun _=>True) (Q:=fun _=>True) rfl trivial (fun i st hi hn _=>?_)) (fun q _=>?_)
  ·obtain⟨a,x⟩:=st
   replace hi:x=(i:Int):=hi
   show Qg (Qjr e (Qeq n) a x) _
   unfold Qjr
   refine T1 (fun hc=>?_) (fun hc=>?_)
   ·simp only [QD]at hc
    refine T0 (T4 (by omega) (by omega)) fun k hk=>?_
    have:=Quc hk
    refine T0 (QpZ n k ((QeU he).2 k hk) (by omega)) fun d _=>?_
    exact T2 (QF ⟨by omega,by subst hi;exact Qz (by omega) (QeU he).1,trivial⟩)
   exact T2 (Qn trivial)
  unfold Qmy
  exact T3
theorem QxB (e1:Qo)(h_e1:Qds e1):Qg (Qpx e1) fun _=>True:=QpZ _ e1 h_e1 (QbT _)
theorem QqX : ∀(n:Nat) (e:Qo),Qds e→SizeOf.sizeOf e≤n→Qg (Qfg n e) fun _=>True
 | 0,e,_,h=>absurd e.pos (by omega)
 | n+1,e,he,h=>by
  unfold Qfg Qn9
  refine T0 (Qg.up e.Kids.length (fun st=>st.2) (fun _=>True) (Q:=fun _=>True) rfl trivial (fun i st hi hn _=>?_)) (fun q _=>?_)
  ·obtain⟨a,x⟩:=st
   replace hi:x=(i:Int):=hi
   show Qg (QkF e (Qfg n) a x) _
   unfold QkF
   refine T1 (fun hc=>?_) (fun hc=>?_)
   ·simp only [QD]at hc
    refine T0 (T4 (by omega) (by omega)) fun k hk=>?_
    have:=Quc hk
    refine T0 (QqX n k ((QeU he).2 k hk) (by omega)) fun d _=>?_
    exact T2 (QF ⟨by omega,by subst hi;exact Qz (by omega) (QeU he).1,trivial⟩)
   exact T2 (Qn trivial)
  unfold Qnh
  exact T3
theorem Qyj (e1:Qo)(h_e1:Qds e1):Qg (Qra e1) fun _=>True:=QqX _ e1 h_e1 (QbT _)
theorem Qnt (e1:Qo)(vars2:Int)(h_e1:Qds e1):Qg (QhP e1 vars2) fun r=>r=true→POk vars2 e1:=by
 unfold QhP
 refine T0 (P:=fun r=>r=true→POk vars2 e1) ?_ (fun x hx=>T2 hx)
 unfold Qqy
 refine T0 (QxB e1 h_e1) (fun x _=>?_)
 refine T1 (fun _=>?_) (fun _=>T2 fun h=>by cases h)
 refine T0 (Qyj e1 h_e1) (fun x _=>?_)
 refine T1 (fun _=>?_) (fun _=>T2 fun h=>by cases h)
 exact T0 (QxA e1 vars2 h_e1) (fun x hx=>T2 hx)
theorem Qv3 (v1:QC)(v2:Int)(h_v1:QaJ v1):Qg (Qk0 v1 v2) fun r=>True:=by
 unfold Qk0
 refine T0 (P:=fun _=>True) ?_ (fun x_1 hv2=>?_)
 ·unfold QoB
  refine T0 (Qnt v1.Guard v2 (h_v1.2.2.1)) (fun x_3 hv4=>?_)
  refine T1 (fun hc5=>?_) (fun hc5=>?_)
  ·refine T1 (fun hc6=>?_) (fun hc6=>?_)
   ·exact T3
   exact T3
  exact T3
 unfold Qhz
 exact T3
theorem Quj (v1:Qj)(v2:Qaw)(h_v1:QW v1)(h_v2:Qkk v2):Qg (QiF v1 v2) fun r=>True:=by
 unfold QiF
 refine T0 (Qcs v1.Places v2.Place (h_v1.2.1)) (fun x_1 hv2=>?_)
 exact T3
theorem Quk (v1:Qaw)(v2:Int)(h_v1:Qkk v1):Qg (QiG v1 v2) fun r=>True:=by
 unfold QiG
 refine T0 (Qnt v1.Expr v2 (h_v1.2)) (fun x_1 hv2=>?_)
 exact T3
theorem Qul (v1:Qj)(v2:Qaw)(v3:Int)(v4:Int)(v5:Int)(h_v1:QW v1)(h_v2:Qkk v2):Qg (QiH v1 v2 v3 v4 v5) fun r=>True:=by
 unfold QiH
 refine T0 (Quj v1 v2 (h_v1) (h_v2)) (fun x_1 hv2=>?_)
 refine T1 (fun hc3=>?_) (fun hc3=>?_)
 ·exact T3
 refine T0 (Quk v2 v4 (h_v2)) (fun x_4 hv5=>?_)
 refine T1 (fun hc6=>?_) (fun hc6=>?_)
 ·exact T3
 exact T3
theorem Qv4 (p1:Int)(a2:Qaw)(v3:Qj)(v4:Int)(h_a2:Qkk a2)(h_v3:QW v3):Qg (Qk1 p1 a2 v3 v4) fun r=>True:=by
 unfold Qk1
 refine T0 (Qul v3 a2 3 v4 1 (h_v3) (h_a2)) (fun x_1 hv2=>?_)
 exact T3
theorem Qrj (l1:(List Qaw))(v2:Qj)(v3:Int)(h_l1:(QP Qkk) l1)(h_v2:QW v2):Qg (QfF l1 v2 v3) fun r=>True:=by
 unfold QfF
 refine T0 (Qg.up (l1.length) (fun st=>st) (fun _=>True) (Q:=fun q=>True) rfl trivial (fun i2 st hi3 hn4 hj5=>?_)) (fun q6 hq7=>?_)
 ·obtain⟨x_1,hst⟩:∃y,y=st:=⟨_,rfl⟩
  subst hst
  replace hi3:x_1=(i2:Int):=hi3
  show Qg (Qef l1 v2 v3 x_1) _
  unfold Qef
  refine T1 (fun hc8=>?_) (fun hc8=>?_)
  ·refine T0 (T4 (by omega) (by simp_all)) (fun e_9 hv10=>?_)
   refine T0 (Qv4 x_1 e_9 v2 v3 (((h_l1).2 e_9 hv10)) (h_v2)) (fun x_11 hv12=>?_)
   refine T1 (fun hc13=>?_) (fun hc13=>?_)
   ·exact T2 (Qn trivial)
   exact T2 (QF ⟨(by simp_all),by subst hi3;exact Qz (by simp_all) (h_l1).1,trivial⟩)
  exact T2 (Qn trivial)
 rcases q6 with q6 | q6
 ·show Qg (Qeg q6.1 q6.2) _
  unfold Qeg
  exact T3
 show Qg (Qeh) _
 unfold Qeh
 exact T3
theorem QrT (n1:Qj)(l2:(List Qaw))(vars3:Int)(h_n1:QW n1)(h_l2:(QP Qkk) l2):Qg (Qkh n1 l2 vars3) fun r=>True:=by
 unfold Qkh
 refine T0 (Qrj l2 n1 vars3 (h_l2) (h_n1)) (fun x_1 hv2=>?_)
 exact T3
theorem Qv5 (v1:Qj)(v2:QC)(v3:Int)(h_v1:QW v1)(h_v2:QaJ v2):Qg (Qk2 v1 v2 v3) fun r=>True:=by
 unfold Qk2
 refine T0 (QrT v1 v2.Ins v3 (h_v1) (h_v2.2.2.2.2.2.1)) (fun x_1 hv2=>?_)
 exact T3
theorem QsK (v1:Qj)(v2:QC)(v3:Int)(v4:Int)(h_v1:QW v1)(h_v2:QaJ v2):Qg (QgW v1 v2 v3 v4) fun r=>True:=by
 unfold QgW
 refine T0 (Qv5 v1 v2 v3 (h_v1) (h_v2)) (fun x_1 hv2=>?_)
 exact T3
theorem Qv6 (v1:Qj)(v2:QC)(v3:Int)(h_v1:QW v1)(h_v2:QaJ v2):Qg (Qk3 v1 v2 v3) fun r=>True:=by
 unfold Qk3
 refine T0 (QrT v1 v2.Outs v3 (h_v1) (h_v2.2.2.2.2.2.2.1)) (fun x_1 hv2=>?_)
 exact T3
theorem QsL (v1:Qj)(v2:QC)(v3:Int)(v4:Int)(h_v1:QW v1)(h_v2:QaJ v2):Qg (QgX v1 v2 v3 v4) fun r=>True:=by
 unfold QgX
 refine T0 (Qv6 v1 v2 v3 (h_v1) (h_v2)) (fun x_1 hv2=>?_)
 exact T3
theorem QrU (v1:Qj)(v2:Int)(h_v1:QW v1):Qg (Qgj v1 v2) fun r=>True:=by
 unfold Qgj
 refine T0 (Qcs v1.Places v2 (h_v1.2.1)) (fun x_1 hv2=>?_)
 exact T3
theorem Qp0 (s1:(List Int))(v2:Int)(h_s1:(QP (fun _=>True)) s1):Qg (QeE s1 v2) fun r=>True:=by
 unfold QeE
 refine T0 (Qg.up (s1.length) (fun st=>st) (fun _=>True) (Q:=fun q=>True) rfl trivial (fun i2 st hi3 hn4 hj5=>?_)) (fun q6 hq7=>?_)
 ·obtain⟨x_1,hst⟩:∃y,y=st:=⟨_,rfl⟩
  subst hst
  replace hi3:x_1=(i2:Int):=hi3
  show Qg (Qdy s1 v2 x_1) _
  unfold Qdy
  refine T1 (fun hc8=>?_) (fun hc8=>?_)
  ·refine T0 (T4 (by omega) (by simp_all)) (fun e_9 hv10=>?_)
   refine T1 (fun hc11=>?_) (fun hc11=>?_)
   ·exact T2 (Qn trivial)
   exact T2 (QF ⟨(by simp_all),by subst hi3;exact Qz (by simp_all) (h_s1).1,trivial⟩)
  exact T2 (Qn trivial)
 rcases q6 with q6 | q6
 ·show Qg (Qdz q6) _
  unfold Qdz
  exact T3
 show Qg (QdA) _
 unfold QdA
 exact T3
theorem Qif (s1:(List Int))(v2:Int)(h_s1:(QP (fun _=>True)) s1):Qg (Qbv s1 v2) fun r=>True:=by
 unfold Qbv
 refine T0 (Qp0 s1 v2 (h_s1)) (fun x_1 hv2=>?_)
 exact T3
theorem QrV (v1:(List Int))(v2:Int)(v3:Int)(h_v1:(QP (fun _=>True)) v1)(hp0:0≤v2)(hp1:v2<v1.length):Qg (Qgk v1 v2 v3) fun r=>True:=by
 unfold Qgk
 refine T0 (T5 (by simp_all;omega)) (fun _ _=>?_)
 refine T0 (Qif ((v1.drop 0).take (v2.toNat-0)) v3 (((h_v1).drop _).take _)) (fun x_1 hv2=>?_)
 exact T3
theorem Qum (v1:Qj)(v2:Int)(v3:Int)(v4:(List Int))(v5:Int)(v6:Int)(h_v1:QW v1)(h_v4:(QP (fun _=>True)) v4)(hp0:0≤v5)(hp1:v5<v4.length):Qg (QiI v1 v2 v3 v4 v5 v6) fun r=>True:=by
 unfold QiI
 refine T0 (QrU v1 v2 (h_v1)) (fun x_1 hv2=>?_)
 refine T1 (fun hc3=>?_) (fun hc3=>?_)
 ·exact T3
 refine T0 (QrV v4 v5 v2 (h_v4) (by omega) (by omega)) (fun x_4 hv5=>?_)
 refine T1 (fun hc6=>?_) (fun hc6=>?_)
 ·exact T3
 exact T3
theorem Qtt (k1:Int)(place2:Int)(v3:Qj)(v4:(List Int))(h_v3:QW v3)(h_v4:(QP (fun _=>True)) v4)(hp0:0≤k1)(hp1:k1<v4.length):Qg (QhA k1 place2 v3 v4) fun r=>True:=by
 unfold QhA
 refine T0 (Qum v3 place2 3 v4 k1 5 (h_v3) (h_v4) (by omega) (by omega)) (fun x_1 hv2=>?_)
 exact T3
theorem Qun (l1:(List Int))(v2:Qj)(v3:(List Int))(h_l1:(QP (fun _=>True)) l1)(h_v2:QW v2)(h_v3:(QP (fun _=>True)) v3)(hp0:l1.length≤v3.length):Qg (QiJ l1 v2 v3) fun r=>True:=by
 unfold QiJ
 refine T0 (Qg.up (l1.length) (fun st=>st) (fun _=>True) (Q:=fun q=>True) rfl trivial (fun i2 st hi3 hn4 hj5=>?_)) (fun q6 hq7=>?_)
 ·obtain⟨x_1,hst⟩:∃y,y=st:=⟨_,rfl⟩
  subst hst
  replace hi3:x_1=(i2:Int):=hi3
  show Qg (Qgl l1 v2 v3 x_1) _
  unfold Qgl
  refine T1 (fun hc8=>?_) (fun hc8=>?_)
  ·refine T0 (T4 (by omega) (by simp_all)) (fun e_9 hv10=>?_)
   refine T0 (Qtt x_1 e_9 v2 v3 (h_v2) (h_v3) (by omega) (by simp_all;omega)) (fun x_11 hv12=>?_)
   refine T1 (fun hc13=>?_) (fun hc13=>?_)
   ·exact T2 (Qn trivial)
   exact T2 (QF ⟨(by simp_all),by subst hi3;exact Qz (by simp_all) (h_l1).1,trivial⟩)
  exact T2 (Qn trivial)
 rcases q6 with q6 | q6
 ·show Qg (Qgm q6.1 q6.2) _
  unfold Qgm
  exact T3
 show Qg (Qgn) _
 unfold Qgn
 exact T3
theorem Qvf (n1:Qj)(l2:(List Int))(h_n1:QW n1)(h_l2:(QP (fun _=>True)) l2):Qg (QjP n1 l2) fun r=>True:=by
 unfold QjP
 refine T0 (Qun l2 n1 l2 (h_l2) (h_n1) (h_l2) (by omega)) (fun x_1 hv2=>?_)
 exact T3
theorem Qvg (v1:Qj)(v2:QC)(h_v1:QW v1)(h_v2:QaJ v2):Qg (QjQ v1 v2) fun r=>True:=by
 unfold QjQ
 refine T0 (Qvf v1 v2.Cancel (h_v1) (h_v2.2.2.2.2.2.2.2.1)) (fun x_1 hv2=>?_)
 exact T3
theorem QsM (v1:Qj)(v2:QC)(v3:Int)(h_v1:QW v1)(h_v2:QaJ v2):Qg (QgY v1 v2 v3) fun r=>True:=by
 unfold QgY
 refine T0 (Qvg v1 v2 (h_v1) (h_v2)) (fun x_1 hv2=>?_)
 exact T3
theorem QoE (k1:Int)(l2:(List Qaw))(h_l2:(QP Qkk) l2):Qg (Qfc k1 l2) fun r=>True:=by
 unfold Qfc
 exact T3
theorem QwW (t1:QC)(h_t1:QaJ t1):Qg (QiW t1) fun r=>True:=by
 unfold QiW
 refine T0 (P:=fun _=>True) ?_ (fun x_1 hv2=>?_)
 ·unfold QpU
  refine T0 (QoE t1.Join t1.Ins (h_t1.2.2.2.2.2.1)) (fun x_3 hv4=>?_)
  refine T1 (fun hc5=>?_) (fun hc5=>?_)
  ·refine T0 (QoE t1.Split t1.Outs (h_t1.2.2.2.2.2.2.1)) (fun x_6 hv7=>?_)
   refine T1 (fun hc8=>?_) (fun hc8=>?_)
   ·refine T1 (fun hc9=>?_) (fun hc9=>?_)
    ·refine T1 (fun hc10=>?_) (fun hc10=>?_)
     ·exact T3
     exact T3
    exact T3
   exact T3
  exact T3
 unfold QiK
 exact T3
theorem Qvh (v1:QC)(h_v1:QaJ v1):Qg (QjR v1) fun r=>True:=by
 unfold QjR
 refine T0 (QwW v1 (h_v1)) (fun x_1 hv2=>?_)
 exact T3
theorem Quo (v1:QC)(v2:Int)(v3:Qj)(v4:Int)(v5:Int)(v6:Int)(v7:Int)(v8:Int)(v9:Int)(v10:Int)(v11:Int)(v12:Int)(v13:Int)(v14:Int)(v15:Int)(h_v1:QaJ v1)(h_v3:QW v3)(hp0:0≤v4)(hp1:v4<v3.Tasks.length):Qg (Qey v1 v2 v3 v4 v5 v6 v7 v8 v9 v10 v11 v12 v13 v14 v15) fun r=>True:=by
 unfold Qey
 refine T0 (QvX v1 (h_v1)) (fun x_1 hv2=>?_)
 refine T1 (fun hc3=>?_) (fun hc3=>?_)
 ·exact T3
 refine T0 (QvZ v3 v4 v1 (h_v3) (h_v1) (by omega) (by omega)) (fun x_4 hv5=>?_)
 refine T1 (fun hc6=>?_) (fun hc6=>?_)
 ·exact T3
 refine T0 (Qv0 v6 v1 (h_v1)) (fun x_7 hv8=>?_)
 refine T1 (fun hc9=>?_) (fun hc9=>?_)
 ·exact T3
 refine T0 (Qve v3 v1 v8 (h_v3) (h_v1)) (fun x_10 hv11=>?_)
 refine T1 (fun hc12=>?_) (fun hc12=>?_)
 ·exact T3
 refine T0 (Qv2 v3 v4 (h_v3)) (fun x_13 hv14=>?_)
 refine T1 (fun hc15=>?_) (fun hc15=>?_)
 ·exact T3
 refine T0 (Qv3 v1 v6 (h_v1)) (fun x_16 hv17=>?_)
 refine T1 (fun hc18=>?_) (fun hc18=>?_)
 ·exact T3
 refine T0 (QsK v3 v1 v6 x_10.2 (h_v3) (h_v1)) (fun x_19 hv20=>?_)
 refine T1 (fun hc21=>?_) (fun hc21=>?_)
 ·exact T3
 refine T0 (QsL v3 v1 v6 x_19.2 (h_v3) (h_v1)) (fun x_22 hv23=>?_)
 refine T1 (fun hc24=>?_) (fun hc24=>?_)
 ·exact T3
 refine T0 (QsM v3 v1 x_22.2 (h_v3) (h_v1)) (fun x_25 hv26=>?_)
 refine T1 (fun hc27=>?_) (fun hc27=>?_)
 ·exact T3
 refine T0 (Qvh v1 (h_v1)) (fun x_28 hv29=>?_)
 refine T1 (fun hc30=>?_) (fun hc30=>?_)
 ·exact T3
 exact T3
theorem QrW (n1:Qj)(k2:Int)(h_n1:QW n1):Qg (Qca n1 k2) fun r=>True:=by
 unfold Qca
 refine T0 (Qkl n1.Tasks k2 (h_n1.2.2.1)) (fun x_1 hv2=>?_)
 refine T1 (fun hc3=>?_) (fun hc3=>?_)
 ·exact T3
 refine T0 (QoD n1 (h_n1)) (fun x_4 hv5=>?_)
 refine T1 (fun hc6=>?_) (fun hc6=>?_)
 ·exact T3
 refine T0 (T4 (by simp_all) (by simp_all)) (fun e_7 hv8=>?_)
 refine T0 (T4 (by simp_all) (by simp_all)) (fun e_9 hv10=>?_)
 refine T0 (QwV 0 n1 e_7 (h_n1) (((h_n1.2.2.1).2 e_7 hv8))) (fun x_11 hv12=>?_)
 refine T0 (Quf 0 n1 e_7 (e_9.Vars.length:Int) (h_n1) (((h_n1.2.2.1).2 e_7 hv8))) (fun x_13 hv14=>?_)
 refine T0 (Qug 0 n1 e_7 (e_9.Vars.length:Int) (h_n1) (((h_n1.2.2.1).2 e_7 hv8))) (fun x_15 hv16=>?_)
 refine T0 (Quh 0 n1 e_7 (h_n1) (((h_n1.2.2.1).2 e_7 hv8))) (fun x_17 hv18=>?_)
 refine T0 (Quo e_7 1 n1 k2 5 (e_9.Vars.length:Int) 2 0 (-1) 2 1 (-1) (-1) (-1) 11 (((h_n1.2.2.1).2 e_7 hv8)) (h_n1) (by simp_all) (by simp_all)) (fun x_19 hv20=>?_)
 refine T1 (fun hc21=>?_) (fun hc21=>?_)
 ·exact T3
 exact T3
theorem QwX (k1:Int)(p2:QC)(v3:Qj)(h_p2:QaJ p2)(h_v3:QW v3):Qg (QiX k1 p2 v3) fun r=>True:=by
 unfold QiX
 refine T0 (QrW v3 k1 (h_v3)) (fun x_1 hv2=>?_)
 exact T3
theorem Qqd (l1:(List QC))(v2:Qj)(h_l1:(QP QaJ) l1)(h_v2:QW v2):Qg (Qcv l1 v2) fun r=>True:=by
 unfold Qcv
 refine T0 (Qg.up (l1.length) (fun st=>st) (fun _=>True) (Q:=fun q=>True) rfl trivial (fun i2 st hi3 hn4 hj5=>?_)) (fun q6 hq7=>?_)
 ·obtain⟨x_1,hst⟩:∃y,y=st:=⟨_,rfl⟩
  subst hst
  replace hi3:x_1=(i2:Int):=hi3
  show Qg (QbS l1 v2 x_1) _
  unfold QbS
  refine T1 (fun hc8=>?_) (fun hc8=>?_)
  ·refine T0 (T4 (by omega) (by simp_all)) (fun e_9 hv10=>?_)
   refine T0 (QwX x_1 e_9 v2 (((h_l1).2 e_9 hv10)) (h_v2)) (fun x_11 hv12=>?_)
   refine T1 (fun hc13=>?_) (fun hc13=>?_)
   ·exact T2 (Qn trivial)
   exact T2 (QF ⟨(by simp_all),by subst hi3;exact Qz (by simp_all) (h_l1).1,trivial⟩)
  exact T2 (Qn trivial)
 rcases q6 with q6 | q6
 ·show Qg (QdV q6.1 q6.2) _
  unfold QdV
  exact T3
 show Qg (QdW) _
 unfold QdW
 exact T3
theorem Qyk (n1:Qj)(h_n1:QW n1):Qg (QfP n1) fun r=>True:=by
 unfold QfP
 refine T0 (QwO n1 2 3 1 (h_n1)) (fun x_1 hv2=>?_)
 refine T1 (fun hc3=>?_) (fun hc3=>?_)
 ·exact T3
 refine T0 (QoD n1 (h_n1)) (fun x_4 hv5=>?_)
 refine T1 (fun hc6=>?_) (fun hc6=>?_)
 ·exact T3
 refine T0 (QpX n1.Places n1 (h_n1.2.1) (h_n1)) (fun x_7 hv8=>?_)
 refine T1 (fun hc9=>?_) (fun hc9=>?_)
 ·exact T3
 refine T0 (Qqd n1.Tasks n1 (h_n1.2.2.1) (h_n1)) (fun x_10 hv11=>?_)
 refine T1 (fun hc12=>?_) (fun hc12=>?_)
 ·exact T3
 exact T3
theorem Qy7 (a1:Int)(b2:Int)  : Qg (QoR a1 b2) fun r=>True:=by
 unfold QoR
 refine T1 (fun hc1=>?_) (fun hc1=>?_)
 ·exact T3
 exact T3
theorem Qtu (a1:Int)(b2:Int)  : Qg (Qhl a1 b2) fun r=>True:=by
 unfold Qhl
 refine T1 (fun hc1=>?_) (fun hc1=>?_)
 ·exact T3
 exact T3
theorem Qs9 (a1:Int)  : Qg (Qlp a1) fun r=>True:=by
 unfold Qlp
 refine T1 (fun hc1=>?_) (fun hc1=>?_)
 ·exact T3
 exact T3
theorem Qtv (p1:Int)(y2:Int)  : Qg (Qhm p1 y2) fun r=>True:=by
 unfold Qhm
 exact T3
theorem Qv7 (a1:Int)(b2:Int)  : Qg (QkG a1 b2) fun r=>True:=by
 unfold QkG
 refine T0 (Qs9 a1 ) (fun x_1 hv2=>?_)
 refine T0 (Qs9 b2 ) (fun x_3 hv4=>?_)
 refine T0 (Qtv x_1 x_3 ) (fun x_5 hv6=>?_)
 refine T1 (fun hc7=>?_) (fun hc7=>?_)
 ·unfold Qfl
  refine T1 (fun hc8=>?_) (fun hc8=>?_)
  ·exact T3
  exact T3
 unfold Qfl
 refine T1 (fun hc9=>?_) (fun hc9=>?_)
 ·exact T3
 exact T3
theorem QoF (a1:Int)(b2:Int)  : Qg (QgL a1 b2) fun r=>True:=by
 unfold QgL
 refine T1 (fun hc1=>?_) (fun hc1=>?_)
 ·exact T3
 refine T1 (fun hc2=>?_) (fun hc2=>?_)
 ·exact T3
 refine T0 (T5 (by simp_all)) (fun _ _=>?_)
 refine T0 (T5 (by simp_all)) (fun _ _=>?_)
 exact T3
theorem QeV (is1:Bool)  : Qg (QdO is1) fun r=>True:=by
 unfold QdO
 refine T1 (fun hc1=>?_) (fun hc1=>?_)
 ·exact T3
 exact T3
theorem QlC (op1:Int)(a2:Int)(b3:Int)  : Qg (Qj8 op1 a2 b3) fun r=>True:=by
 unfold Qj8
 refine T1 (fun hc1=>?_) (fun hc1=>?_)
 ·refine T0 (Qy7 a2 b3 ) (fun x_2 hv3=>?_)
  exact T3
 refine T1 (fun hc4=>?_) (fun hc4=>?_)
 ·refine T0 (Qtu a2 b3 ) (fun x_5 hv6=>?_)
  exact T3
 refine T1 (fun hc7=>?_) (fun hc7=>?_)
 ·refine T0 (Qv7 a2 b3 ) (fun x_8 hv9=>?_)
  exact T3
 refine T1 (fun hc10=>?_) (fun hc10=>?_)
 ·refine T0 (QoF a2 b3 ) (fun x_11 hv12=>?_)
  exact T3
 refine T1 (fun hc13=>?_) (fun hc13=>?_)
 ·refine T0 (QoF a2 b3 ) (fun x_14 hv15=>?_)
  exact T3
 refine T1 (fun hc16=>?_) (fun hc16=>?_)
 ·refine T0 (QeV (a2==b3) ) (fun x_17 hv18=>?_)
  exact T3
 refine T1 (fun hc19=>?_) (fun hc19=>?_)
 ·refine T0 (QeV (a2 != b3) ) (fun x_20 hv21=>?_)
  exact T3
 refine T1 (fun hc22=>?_) (fun hc22=>?_)
 ·refine T0 (QeV (decide (a2<b3)) ) (fun x_23 hv24=>?_)
  exact T3
 refine T1 (fun hc25=>?_) (fun hc25=>?_)
 ·refine T0 (QeV (decide (a2≤b3)) ) (fun x_26 hv27=>?_)
  exact T3
 refine T1 (fun hc28=>?_) (fun hc28=>?_)
 ·refine T0 (P:=fun _=>True) ?_ (fun v_29 hv30=>?_)
  ·unfold QtV
   refine T1 (fun hc31=>?_) (fun hc31=>?_)
   ·refine T0 (QeV (b3 != 0) ) (fun x_32 hv33=>?_)
    exact T3
   refine T0 (QeV false ) (fun x_34 hv35=>?_)
   exact T3
  unfold QmC
  exact T3
 refine T1 (fun hc36=>?_) (fun hc36=>?_)
 ·refine T0 (P:=fun _=>True) ?_ (fun v_37 hv38=>?_)
  ·unfold QtW
   refine T1 (fun hc39=>?_) (fun hc39=>?_)
   ·refine T0 (QeV true ) (fun x_40 hv41=>?_)
    exact T3
   refine T0 (QeV (b3 != 0) ) (fun x_42 hv43=>?_)
   exact T3
  unfold QmD
  exact T3
 exact T3
theorem Qup (a1:Int)  : Qg (QoS a1) fun r=>True:=by
 unfold QoS
 refine T0 (QlC 2 0 a1 ) (fun x_1 hv2=>?_)
 exact T3
end Go.Proofs
noncomputable section
namespace Go.Proofs
open Go Go.RowKit Go.Vm
theorem Qm0 (b:List (Int×Int))(h:b.length≤maxLen):Qc4 b=some (rtF (-1) b):=by
 unfold Qc4
 have h1:=QxZ (body:=fun st=>QcP b st.1 st.2) (l:=b) (ρ:=Unit⊕Unit) (fun i (t:Int)=>(t,(i:Int)))
  (fun i t x=>bif ((decide (x.1≤t))||((decide (x.2<1))||(decide (1048576<x.2))))then .inr (.inl ())else .inl x.1) (fun _=>.inr ())
  (fun i t x hi hx=>by
   show QcP b t i=_
   unfold QcP
   rw [QbW (by omega:(i:Int)<b.length),cond_true,Q4,hx,Ql]
   cases ((decide (x.1≤t))||((decide (x.2<1))||(decide (1048576<x.2))))with
   | true=>rfl
   | false=>simp only [cond_false,Sum.elim_inl];rw [Qz hi h])
  (fun t=>by
   show QcP b t b.length=_
   unfold QcP
   rw [Qei (by omega)];rfl) (-1) (s0:=(-1,0)) rfl
 rw [h1]
 have:∀(l:List (Int×Int)) (k:Nat) (t:Int),QlP (fun i t (x:Int×Int)=>(bif ((decide (x.1≤t))||((decide (x.2<1))||(decide (1048576<x.2))))then .inr (.inl ())else .inl x.1:Int⊕(Unit⊕Unit))) (fun _=>.inr ()) k t l=bif rtF t l then .inr ()else .inl ():=by
  intro l
  induction l with
  | nil=>intro k t;rfl
  | cons x l ih=>
   intro k t
   rw [QlP,rtF]
   cases ((decide (x.1≤t))||((decide (x.2<1))||(decide (1048576<x.2))))with
   | true=>rfl
   | false=>simp only [cond_false,Sum.elim_inl,Bool.not_false,Bool.true_and];exact ih _ _
 rw [this]
 cases rtF (-1) b<;>rfl
theorem QqY (b:List (Int×Int))(h:b.length≤maxLen):QlT b=some (bif rtF (-1) b then .inr b else .inl ()):=by
 unfold QlT
 rw [Qm0 b h,Ql]
 cases hr:rtF (-1) b with
 | false=>rfl
 | true=>
  simp only [Qhb,cond_false,cond_true]
  have ha:=(QeT.1 hr).1
  obtain⟨r,h1,h2⟩:=QrO (body:=fun st=>Qg4 b st.1 st.2) b.length (fun i s=>s=((i:Int),b.take i)) (fun r=>r=b)
   (fun i s hi hs=>by
    subst hs
    refine .inl ⟨(((i+1:Nat):Int),b.take (i+1)),?_,rfl⟩
    show Qg4 b i (b.take i)=_
    unfold Qg4
    rw [QbW (by omega:(i:Int)<b.length),cond_true,Q4,QB hi,Ql,Qz hi h]
    have e:b.take (i+1)=b.take i++[b[i]]:=by rw [QgH,QB hi];rfl
    rw [e,←QCN (by have:=(ha.sublist (List.take_sublist (i+1) b));rw [e]at this;exact this)])
   (fun s hs=>by
    subst hs
    refine⟨_,?_,rfl⟩
    show Qg4 b b.length (b.take b.length)=_
    unfold Qg4
    rw [Qei (by omega),QnD];rfl) (0,[]) rfl
  rw [h1,h2];rfl
theorem Qrk (a b:List (Int×Int))(ha:a.length≤maxLen)(hb:b.length≤maxLen):QkB a b=some (bif rtF (-1) a then(bif rtF (-1) b then .inr (.inr (.inr (a,b)))else .inr (.inr (.inl a)))else(bif rtF (-1) b then .inr (.inl b)else .inl ())):=by
 unfold QkB
 rw [QqY a ha]
 cases rtF (-1) a with
 | true=>
  simp only [cond_true,Ql,Sum.elim_inr]
  unfold Qn6
  rw [QqY b hb]
  cases rtF (-1) b<;>rfl
 | false=>
  simp only [cond_false,Ql,Sum.elim_inl]
  unfold Qn5
  rw [QqY b hb]
  cases rtF (-1) b<;>rfl
theorem QlQ (m:List (Int×Int))(ha:Asc m)(h':m.length≤4294967296):Qen m=some (Qki m):=by
 have h:m.length≤maxLen:=by unfold maxLen;omega
 unfold Qen QdM Qjb
 simp only [QbW h',QwG rfl,Ql,QBH ha]
 obtain⟨r,h1,h2⟩:=QrO (body:=fun st=>Qcj (m.map Prod.fst) m st.1 st.2) m.length (fun i s=>s=((i:Int),Qki (m.take i))) (fun r=>r=Qki m)
  (fun i s hi hs=>by
   subst hs
   refine .inl ⟨(((i+1:Nat):Int),Qki (m.take (i+1))),?_,rfl⟩
   show Qcj (m.map Prod.fst) m i (Qki (m.take i))=_
   unfold Qcj
   have e:m.take (i+1)=m.take i++[m[i]]:=by rw [QgH,QB hi];rfl
   have ec:(Qv m m[i].1).getD 0=m[i].2:=Qi6 ha.nd (Qay hi)
   rw [QbW (by simp;omega),cond_true,Q4,Qau,QB hi,QcB,Ql,ec]
   have hl:(Qki (m.take i)).length≤i:=Qbm (Qnz _ _) (by simp;omega)
   cases hc:decide (0<m[i].2)with
   | true=>
    simp only [cond_true]
    rw [QmW (by simp;omega),Ql]
    unfold Qek
    rw [Qz hi h,e]
    unfold Qki
    rw [QoG,Qig,if_pos hc];rfl
   | false=>
    simp only [cond_false]
    unfold Qek
    rw [Qz hi h,e]
    unfold Qki
    rw [QoG,Qig,if_neg (by rw [hc];decide),List.filter_nil,Qqg])
  (fun s hs=>by
   subst hs
   refine⟨_,?_,rfl⟩
   show Qcj (m.map Prod.fst) m m.length (Qki (m.take m.length))=_
   unfold Qcj
   rw [Qei (by simp),QnD];rfl) (0,[]) rfl
 rw [h1,h2];rfl
theorem Qy8 (m:List (Int×Int)):(Qki m).length≤m.length:=Qnz _ _
theorem Qkn (a b:List (Int×Int))(h:a.length+b.length≤4294967296):(¬(Rt a∧Rt b)∧QbF a b=some ([],1))∨(Rt a∧Rt b∧(∃k,1048576<QO a k+QO b k)∧QbF a b=some ([],2))∨
  (Rt a∧Rt b∧∃r,QbF a b=some (r,0)∧Rt r∧(∀k,QO r k=QO a k+QO b k)∧r.length≤a.length+b.length):=by
 unfold QbF
 rw [Qrk a b (by unfold maxLen;omega) (by unfold maxLen;omega),Ql]
 cases ra:rtF (-1) a with
 | false=>exact .inl ⟨fun hh=>(by rw [QeT.2 hh.1]at ra;cases ra),by cases rtF (-1) b<;>rfl⟩
 | true=>
  cases rb:rtF (-1) b with
  | false=>exact .inl ⟨fun hh=>(by rw [QeT.2 hh.2]at rb;cases rb),rfl⟩
  | true=>
   have hra:=QeT.1 ra
   have hrb:=QeT.1 rb
   simp only [cond_true,Sum.elim_inr]
   unfold Qpk
   have hw:∀p∈b,QO a p.1+p.2=QO a p.1+QO b p.1:=fun p hp=>by rw [Qi6 hrb.1.nd hp]
   rcases QwJ (g:=fun x v=>w64 (x+v)) (stop:=fun x=>decide (1048576<x)) (q:=some ()) (body:=fun st p=>QhJ st p.1 p.2) (fun s p=>by
     show QhJ s p.1 p.2=_
     unfold QhJ
     rw [Qc0,if_pos rfl]
     unfold QO
     simp only [QhC]
     cases decide (1048576<w64 ((Qv s p.1).getD 0+p.2))<;>rfl) hra.1 hrb.1.nd with⟨⟨p,h1,h2⟩,h3⟩|⟨h1,s',h3,h4,h5,h6⟩
   ·refine .inr (.inl ⟨hra,hrb,⟨p.1,?_⟩,?_⟩)
    ·have:=hra.cnt p.1
     have:=hrb.cnt p.1
     have h2:=Q9 h2
     rw [Qi6 hrb.1.nd h1]
     rw [Qi6 hrb.1.nd h1]at this
     rwa [QbY (by omega)]at h2
    simp only [h3 () rfl];rfl
   have hk:∀k,QO s' k=QO a k+QO b k∧QO s' k≤1048576:=fun k=>by
    have ca:=hra.cnt k
    have cb:=hrb.cnt k
    have e:=h6 k
    unfold QuF at e
    cases hm:Qv b k with
    | none=>
     rw [hm]at e
     simp only at e
     have:QO b k=0:=by unfold QO;rw [hm];rfl
     have e2:QO s' k=QO a k:=by unfold QO;rw [e]
     omega
    | some v=>
     rw [hm]at e
     simp only at e
     have e1:QO b k=v:=by unfold QO;rw [hm];rfl
     have e2:QO s' k=w64 (QO a k+v):=by unfold QO;rw [e];rfl
     have h7:=h1 (k,v) ((Qd5 hrb.1.nd).1 hm)
     simp only [Q1]at h7
     rw [QbY (by omega)]at e2 h7
     omega
   refine .inr (.inr ⟨hra,hrb,Qki s',?_,QBG h4 (fun k hk0=>⟨?_,(hk k).2⟩),fun k=>?_,Qbm (Qy8 s') h5⟩)
   ·simp only [h3,Ql,Sum.elim_inl]
    unfold Qpj
    rw [QlQ s' h4 (by omega)];rfl
   ·have:=(hk k).1
    have ca:=hra.cnt k
    have cb:=hrb.cnt k
    by_cases c:0<QO a k
    ·exact hra.cnt_pos c
    exact hrb.cnt_pos (by omega)
   rw [Qy6 h4,(hk k).1]
   have ca:=hra.cnt k
   have cb:=hrb.cnt k
   split<;>omega
theorem Qp1 (m m':List (Int×Int)):Qel m m'=some (!(m.any fun p=>decide (QO m' p.1<p.2))):=by
 unfold Qel
 rw [QAA (bad:=fun p=>decide (QO m' p.1<p.2)) (q:=()) (fun p=>by
  show Qc7 m' p.1 p.2=_
  unfold Qc7 QO
  cases decide ((Qv m' p.1).getD 0<p.2)<;>rfl)]
 cases m.any fun p=>decide (QO m' p.1<p.2)<;>rfl
theorem QwY {a b:List (Int×Int)}(ha:Rt a)(hb:Rt b):(a.any fun p=>decide (QO b p.1<p.2))=false↔∀k,QO a k≤QO b k:=by
 rw [←Qnv,Qkq]
 simp only [QD,not_exists,not_and]
 constructor
 ·intro h k
  have cb:=hb.cnt k
  cases e:Qv a k with
  | none=>
   have:QO a k=0:=by unfold QO;rw [e];rfl
   omega
  | some v=>
   have h1:=h _ ((Qd5 ha.1.nd).1 e)
   have:QO a k=v:=by unfold QO;rw [e];rfl
   simp only at h1
   omega
 intro h p hp hlt
 have:=h p.1
 rw [Qi6 ha.1.nd hp]at this
 omega
theorem QwZ (a b:List (Int×Int))(ha:a.length≤maxLen)(hb:b.length≤maxLen):∃r,QmI a b=some r∧(r=true↔Rt a∧Rt b∧∀k,QO a k≤QO b k):=by
 unfold QmI
 rw [Qrk a b ha hb,Ql]
 cases ra:rtF (-1) a with
 | false=>exact⟨false,by cases rtF (-1) b<;>rfl,by simp;intro hh;rw [QeT.2 hh]at ra;cases ra⟩
 | true=>
  cases rb:rtF (-1) b with
  | false=>exact⟨false,rfl,by simp;intro _ hh;rw [QeT.2 hh]at rb;cases rb⟩
  | true=>
   have hra:=QeT.1 ra
   have hrb:=QeT.1 rb
   refine⟨!(a.any fun p=>decide (QO b p.1<p.2)),?_,?_⟩
   ·simp only [cond_true,Sum.elim_inr]
    unfold QmH
    rw [Qp1];rfl
   rw [Qfr,QwY hra hrb]
   exact⟨fun h=>⟨hra,hrb,h⟩,fun h=>h.2.2⟩
theorem Qog (a b:List (Int×Int))(h:a.length+b.length≤4294967296):(¬(Rt a∧Rt b)∧Qb2 a b=some ([],1))∨(Rt a∧Rt b∧(∃k,QO a k<QO b k)∧Qb2 a b=some ([],10))∨
  (Rt a∧Rt b∧(∀k,QO b k≤QO a k)∧∃r,Qb2 a b=some (r,0)∧Rt r∧(∀k,QO r k=QO a k-QO b k)∧r.length≤a.length+b.length):=by
 unfold Qb2
 rw [Qrk a b (by unfold maxLen;omega) (by unfold maxLen;omega),Ql]
 cases ra:rtF (-1) a with
 | false=>exact .inl ⟨fun hh=>(by rw [QeT.2 hh.1]at ra;cases ra),by cases rtF (-1) b<;>rfl⟩
 | true=>
  cases rb:rtF (-1) b with
  | false=>exact .inl ⟨fun hh=>(by rw [QeT.2 hh.2]at rb;cases rb),rfl⟩
  | true=>
   have hra:=QeT.1 ra
   have hrb:=QeT.1 rb
   simp only [cond_true,Sum.elim_inr]
   unfold Qob
   rw [Qp1,Ql]
   cases hw:b.any fun p=>decide (QO a p.1<p.2)with
   | true=>
    refine .inr (.inl ⟨hra,hrb,?_,rfl⟩)
    obtain⟨p,h1,h2⟩:=Qkq.1 hw
    exact⟨p.1,by rw [Qi6 hrb.1.nd h1];exact Q9 h2⟩
   | false=>
    have hle:=(QwY hrb hra).1 hw
    simp only [Bool.not_false,Qhb,cond_false]
    rcases QwJ (g:=fun x v=>w64 (x-v)) (stop:=fun _=>false) (q:=none) (body:=fun st p=>QgD st p.1 p.2) (fun s p=>by
      show QgD s p.1 p.2=_
      unfold QgD QO
      rfl) hra.1 hrb.1.nd with⟨⟨p,h1,h2⟩,h3⟩|⟨h1,s',h3,h4,h5,h6⟩
    ·cases h2
    have hk:∀k,QO s' k=QO a k-QO b k:=fun k=>by
     have ca:=hra.cnt k
     have cb:=hrb.cnt k
     have e:=h6 k
     unfold QuF at e
     cases hm:Qv b k with
     | none=>
      rw [hm]at e
      simp only at e
      have:QO b k=0:=by unfold QO;rw [hm];rfl
      have e2:QO s' k=QO a k:=by unfold QO;rw [e]
      omega
     | some v=>
      rw [hm]at e
      simp only at e
      have e1:QO b k=v:=by unfold QO;rw [hm];rfl
      have e2:QO s' k=w64 (QO a k-v):=by unfold QO;rw [e];rfl
      rw [QbY (by omega)]at e2
      omega
    refine .inr (.inr ⟨hra,hrb,hle,Qki s',?_,QBG h4 (fun k hk0=>?_),fun k=>?_,Qbm (Qy8 s') h5⟩)
    ·simp only [h3,Ql,Sum.elim_inl]
     unfold Qoa
     rw [QlQ s' h4 (by omega)];rfl
    ·have:=hk k
     have ca:=hra.cnt k
     have cb:=hrb.cnt k
     exact⟨hra.cnt_pos (by omega),by omega⟩
    rw [Qy6 h4,hk k]
    have:=hle k
    split<;>omega
theorem Qw0 (t:Int):Qne [t]=some (bif decide (0≤t)then [(t,1)]else []):=by
 unfold Qne
 rw [Qdf]
 show((QfL [t] 0 []).bind _).bind _=_
 unfold QfL
 rw [QbW (by simp),cond_true,show idx [t] 0=some t from rfl,Ql]
 unfold QnH
 rw [show w64 (0+1)=1 from by decide]
 cases h:decide (0≤t)with
 | false=>
  simp only [cond_false,Ql,Sum.elim_inl]
  rw [Qdf]
  show((QfL [t] 1 []).bind _).bind _=_
  unfold QfL
  rw [Qei (by simp)]
  simp only [cond_false,Ql,Sum.elim_inr]
  unfold QnI
  rw [QlQ [] List.Pairwise.nil (by simp)];rfl
 | true=>
  simp only [cond_true,Ql,Sum.elim_inl]
  rw [Qdf]
  show((QfL [t] 1 [(t,min2 (w64 (0+1)) 1048576)]).bind _).bind _=_
  unfold QfL
  rw [Qei (by simp)]
  simp only [cond_false,Ql,Sum.elim_inr]
  unfold QnI
  rw [QlQ _ (Qqk _ _) (by simp [maxLen]),show min2 (w64 (0+1)) 1048576=1 from by decide];rfl
end Go.Proofs
noncomputable section
namespace Go.Proofs
open Go Go.RowKit Go.Vm
theorem QzP : ∀(n:Nat) (e:Qo) (d:Int),Qds e→SizeOf.sizeOf e≤n→Qg (Qfi n e d) fun _=>True
 | 0,e,_,_,h=>absurd e.pos (by omega)
 | n+1,e,d,he,h=>by
  unfold Qfi Qoe
  refine T1 (fun _=>T3) fun _=>?_
  refine T0 (Qg.up e.Kids.length (fun st=>st.2) (fun _=>True) (Q:=fun _=>True) rfl trivial (fun i st hi hn _=>?_)) (fun q _=>?_)
  ·obtain⟨a,x⟩:=st
   replace hi:x=(i:Int):=hi
   show Qg (QkR e (Qfi n) d a x) _
   unfold QkR
   refine T1 (fun hc=>?_) (fun hc=>T2 (Qn trivial))
   simp only [QD]at hc
   refine T0 (T4 (by omega) (by omega)) fun k hk=>?_
   have:=Quc hk
   refine T0 (QzP n k _ ((QeU he).2 k hk) (by omega)) fun y _=>?_
   refine T1 (fun _=>T2 (Qn trivial)) fun _=>T1 (fun _=>T2 (Qn trivial)) fun _=>?_
   exact T2 (QF ⟨by omega,by subst hi;exact Qz (by omega) (QeU he).1,trivial⟩)
  rcases q with q | q
  ·exact T3
  exact T3
theorem QxC (e:Qo)(he:Qds e):Qg (Qi5 e) fun _=>True:=by
 unfold Qi5 Qrc
 exact T0 (QzP _ e 60 he (QbT _)) fun _ _=>T3
theorem QzQ (n1:Qj)(h:QW n1)(q0:Int):Qg (QjG n1 q0) fun r=>r=true→q0≤400:=by
 unfold QjG
 refine T0 (Qg.up n1.Tasks.length (fun st=>st.2) (fun _=>True) (Q:=fun _=>True) rfl trivial (fun i st hi hn _=>?_)) (fun q _=>?_)
 ·obtain⟨a,x⟩:=st
  replace hi:x=(i:Int):=hi
  show Qg (QjF n1 a x) _
  unfold QjF
  refine T1 (fun hc=>?_) (fun _=>T2 (Qn trivial))
  simp only [QD]at hc
  refine T0 (T4 (by omega) (by omega)) fun e he=>?_
  have ke:=h.2.2.1.2 e he
  refine T1 (fun _=>T2 (Qn trivial)) fun _=>?_
  refine T0 (Qg.up e.Vars.length (fun st=>st) (fun _=>True) (Q:=fun _=>True) rfl trivial (fun i2 st hi2 hn2 _=>?_)) (fun q _=>?_)
  ·show Qg (Qjz e st) _
   unfold Qjz
   refine T1 (fun hc=>?_) (fun _=>T2 (Qn trivial))
   simp only [QD]at hc
   refine T0 (T4 (by omega) (by omega)) fun s _=>?_
   exact T1 (fun _=>T2 (Qn trivial)) fun _=>T2 (QF ⟨by omega,by rw [hi2];exact Qz (by omega) ke.2.1.1,trivial⟩)
  rcases q with q | q
  ·exact T2 (Qn trivial)
  show Qg (QjE e a x) _
  unfold QjE
  refine T0 (QxC e.Guard ke.2.2.1) fun g _=>?_
  refine T0 (Qg.up e.Ins.length (fun st=>st.2) (fun _=>True) (Q:=fun _=>True) rfl trivial (fun i2 st hi2 hn2 _=>?_)) (fun q _=>?_)
  ·obtain⟨b,y⟩:=st
   replace hi2:y=(i2:Int):=hi2
   show Qg (QjA e b y) _
   unfold QjA
   refine T1 (fun hc=>?_) (fun _=>T2 (Qn trivial))
   simp only [QD]at hc
   refine T0 (T4 (by omega) (by omega)) fun s hs=>?_
   refine T0 (QxC s.Expr (ke.2.2.2.2.2.1.2 s hs).2) fun g _=>?_
   exact T2 (QF ⟨by omega,by subst hi2;exact Qz (by omega) ke.2.2.2.2.2.1.1,trivial⟩)
  show Qg (QjD e a x q) _
  unfold QjD
  refine T0 (Qg.up e.Outs.length (fun st=>st.2) (fun _=>True) (Q:=fun _=>True) rfl trivial (fun i2 st hi2 hn2 _=>?_)) (fun q _=>?_)
  ·obtain⟨b,y⟩:=st
   replace hi2:y=(i2:Int):=hi2
   show Qg (QjB e b y) _
   unfold QjB
   refine T1 (fun hc=>?_) (fun _=>T2 (Qn trivial))
   simp only [QD]at hc
   refine T0 (T4 (by omega) (by omega)) fun s hs=>?_
   refine T0 (QxC s.Expr (ke.2.2.2.2.2.2.1.2 s hs).2) fun g _=>?_
   exact T2 (QF ⟨by omega,by subst hi2;exact Qz (by omega) ke.2.2.2.2.2.2.1.1,trivial⟩)
  show Qg (QjC a e x q) _
  unfold QjC
  exact T1 (fun _=>T2 (Qn trivial)) fun _=>T2 (QF ⟨by omega,by subst hi;exact Qz (by omega) h.2.2.1.1,trivial⟩)
 rcases q with q | q
 ·exact T2 fun h=>by cases h
 exact T2 fun h=>by simpa using h
theorem QDK (n1:Qj)(h:QW n1):Qg (QfO n1) fun r=>r=true→n1.Colours.length≤40∧n1.Places.length≤70∧n1.Tasks.length≤70:=by
 unfold QfO
 refine T1 (fun _=>T2 fun h=>by cases h) fun hc=>?_
 simp only [Qc8,Q1]at hc
 refine T6 (P:=fun _=>True) ?_ fun _ _ _=>by omega
 refine T0 (Qg.up n1.Colours.length (fun st=>st.2) (fun _=>True) (Q:=fun _=>True) rfl trivial (fun i st hi hn _=>?_)) (fun q _=>?_)
 ·obtain⟨a,x⟩:=st
  replace hi:x=(i:Int):=hi
  show Qg (QfU n1 a x) _
  unfold QfU
  refine T1 (fun hc=>?_) (fun _=>T2 (Qn trivial))
  simp only [QD]at hc
  refine T0 (T4 (by omega) (by omega)).self fun e he=>?_
  obtain⟨he,hm⟩:=he
  refine T0 (P:=fun _=>True) ?_ fun y _=>?_
  ·unfold Qnr
   rw [he,Ql]
   exact T1 (fun _=>T3) fun _=>T3
  unfold QhY
  refine T1 (fun _=>T2 (Qn trivial)) fun _=>?_
  refine T0 (Qg.up e.Names.length (fun st=>st) (fun _=>True) (Q:=fun _=>True) rfl trivial (fun i2 st hi2 hn2 _=>?_)) (fun q _=>?_)
  ·show Qg (QfT n1 x st) _
   unfold QfT
   simp only [he,Ql]
   refine T1 (fun hc=>?_) (fun _=>T2 (Qn trivial))
   simp only [QD]at hc
   refine T0 (T4 (by omega) (by omega)) fun s _=>?_
   refine T1 (fun _=>T2 (Qn trivial)) fun _=>?_
   exact T2 (QF ⟨by omega,by rw [hi2];exact Qz (by omega) (h.1.2 e hm).2.2.2.2.1.1,trivial⟩)
  rcases q with q | q
  ·exact T2 (Qn trivial)
  exact T2 (QF ⟨by omega,by subst hi;exact Qz (by omega) h.1.1,trivial⟩)
 rcases q with q | q
 ·exact T3
 show Qg (Qe6 n1 q) _
 unfold Qe6
 refine T0 (Qg.up n1.Places.length (fun st=>st.2) (fun _=>True) (Q:=fun _=>True) rfl trivial (fun i st hi hn _=>?_)) (fun q _=>?_)
 ·obtain⟨a,x⟩:=st
  replace hi:x=(i:Int):=hi
  show Qg (QfV n1 a x) _
  unfold QfV
  refine T1 (fun hc=>?_) (fun _=>T2 (Qn trivial))
  simp only [QD]at hc
  refine T0 (T4 (by omega) (by omega)) fun e _=>?_
  refine T0 (T4 (by omega) (by omega)) fun e2 _=>?_
  exact T1 (fun _=>T2 (Qn trivial)) fun _=>T2 (QF ⟨by omega,by subst hi;exact Qz (by omega) h.2.1.1,trivial⟩)
 rcases q with q | q
 ·exact T3
 exact(QzQ n1 h q).mono fun _ _=>trivial
theorem QDL (m:List (List (Int×Int)))(h:m.length≤maxLen):Qg (QnN m) fun _=>True:=by
 unfold QnN
 refine T0 (Qg.up m.length (fun st=>st.2) (fun _=>True) (Q:=fun _=>True) rfl trivial (fun i st hi hn _=>?_)) (fun q _=>T3)
 obtain⟨a,x⟩:=st
 replace hi:x=(i:Int):=hi
 show Qg (QkS m a x) _
 unfold QkS
 refine T1 (fun hc=>?_) (fun _=>T2 (Qn trivial))
 simp only [QE,QD]at hc
 refine T0 (T4 (by omega) (by omega)) fun e _=>?_
 exact T2 (QF ⟨by omega,by subst hi;exact Qz (by omega) h,trivial⟩)
theorem QzR {l:List (Int×Int)}(h:Asc l):∀{a:Int},(∀p∈l,a≤p.1)→∀(i:Nat) (hi:i<l.length),a+i≤(l[i]).1:=by
 induction l with
 | nil=>intro a _ i hi;simp at hi
 | cons p l ih=>
  intro a ha i hi
  obtain⟨h1,h2⟩:=Qge.1 h
  cases i with
  | zero=>have:=ha p Qaz;simpa using this
  | succ i=>
   have h3:=ih h2 (a:=a+1) (fun q hq=>by have:=h1 q hq;have:=ha p Qaz;omega) i (by simpa using hi)
   simp only [List.getElem_cons_succ]
   omega
theorem QCS {l:List (Int×Int)}(h:Asc l)(h0:0<l.length){k:Int}(hk:0<QO l k):k≤(l[l.length-1]).1:=by
 unfold QO at hk
 cases e:Qv l k with
 | none=>rw [e]at hk;simp at hk
 | some v=>
  obtain⟨j,hj,hjk⟩:=Qmk.1 ((Qd5 h.nd).1 e)
  by_cases c:j=l.length-1
  ·subst c;rw [hjk];exact Int.le_refl _
  have:=List.pairwise_iff_getElem.1 h j (l.length-1) hj (by omega) (by omega)
  rw [hjk]at this
  simp only at this
  omega
def MOk (n:Qj)(c:Nat)(m:List (List (Int×Int))):Prop:=m.length=n.Places.length∧∀b∈m,Rt b∧b.length≤c
theorem MOk.mono {n:Qj}{c c':Nat}{m:List (List (Int×Int))}(h:MOk n c m)(hc:c≤c'):MOk n c' m:=⟨h.1,fun b hb=>⟨(h.2 b hb).1,Qbm (h.2 b hb).2 hc⟩⟩
def Low (n:Qj)(m:List (List (Int×Int))):Prop:=∀(j:Nat) b p,m[j]? = some b→n.Places[j]? = some p→∀k,0<QO b k→∃z,Qa3 n.Colours p.Colour=some z∧k<z
theorem Qy9 (n1:Qj)(m:List (List (Int×Int)))(h:QW n1)(hm:QP (QP fun _=>True) m):Qg (QmS n1 m) fun r=>r=true→MOk n1 1024 m∧Low n1 m:=by
 unfold QmS
 refine T1 (fun _=>T2 fun h=>by cases h) fun hc=>?_
 have hl:m.length=n1.Places.length:=by simp only [bne_eq_false_iff_eq]at hc;omega
 refine T0 (Qg.up m.length (fun st=>st) (fun st=>∀(j:Nat) (hj:j<m.length),(j:Int)<st→(Rt m[j]∧(m[j]).length≤1024)∧∀p,n1.Places[j]? = some p→∀k,0<QO m[j] k→∃z,Qa3 n1.Colours p.Colour=some z∧k<z) (Q:=fun q=>q=.inr ()→(∀b∈m,Rt b∧b.length≤1024)∧Low n1 m) rfl (fun j _ hj=>by omega) (fun i st hi hn hJ=>?_)) (fun q hq=>?_)
 ·show Qg (QjT m n1 st) _
  unfold QjT
  refine T1 (fun hc=>?_) (fun hc=>T2 (Qn fun _=>⟨fun b hb=>by
   obtain⟨j,hj,rfl⟩:=Qmk.1 hb
   simp only [Q1]at hc
   exact(hJ j hj (by omega)).1,fun j b p hb hp=>by
   obtain⟨hj,rfl⟩:=QU.1 hb
   simp only [Q1]at hc
   exact(hJ j hj (by omega)).2 p hp⟩))
  simp only [QD]at hc
  have hlt:i<m.length:=by omega
  have hlp:i<n1.Places.length:=by omega
  rw [hi,Q4,QB hlt,Ql,Q4,QB hlp,Ql]
  refine T0 (Qc1 n1.Colours (n1.Places[i]).Colour h.1).self fun sz hsz=>?_
  obtain⟨hze,hsz⟩:=hsz
  have hb:=hm.2 _ (Qay hlt)
  have hbl:=hb.1
  refine T0 (P:=fun r=>r=false→(Rt m[i]∧(m[i]).length≤1024)∧∀k,0<QO m[i] k→k<sz) ?_ fun x hx=>?_
  ·unfold QqR
   rw [Qm0 _ hb.1,Ql]
   refine T1 (fun _=>T2 fun h=>by cases h) fun hr=>?_
   have hrt:=QeT.1 (by simpa using hr:rtF (-1) m[i]=true)
   refine T1 (fun h0=>?_) (fun h0=>T2 fun _=>⟨⟨hrt,by simp only [Q1]at h0;omega⟩,fun k hk=>by
    simp only [Q1]at h0
    rw [show m[i]=[]from Qmj.1 (by omega)]at hk
    simp [QO,Qv]at hk⟩)
   simp only [QD]at h0
   unfold maxLen at hbl
   rw [QbY (by omega),show((m[i]).length:Int)-1=(((m[i]).length-1:Nat):Int) by omega,Q4,QB (by omega),Ql]
   refine T2 fun hf=>?_
   simp only [Q1]at hf
   have:=QzR hrt.1 (a:=0) (fun p hp=>(hrt.2 p hp).1) ((m[i]).length-1) (by omega)
   refine⟨⟨hrt,by omega⟩,fun k hk=>?_⟩
   have:=QCS hrt.1 (by omega) hk
   omega
  unfold QjS
  refine T1 (fun _=>T2 (Qn fun h=>by cases h)) fun hxf=>?_
  refine T2 (QF ⟨hlt,Qz hlt hm.1,fun j hj hjs=>?_⟩)
  rw [Qz hlt hm.1]at hjs
  by_cases c:j=i
  ·subst c
   refine⟨(hx hxf).1,fun p hp k hk=>⟨sz,?_,(hx hxf).2 k hk⟩⟩
   rw [QB hlp]at hp
   cases hp
   exact hze
  exact hJ j hj (by omega)
 rcases q with q | q
 ·exact T2 fun h=>by cases h
 exact T2 fun _=>⟨⟨hl,(hq rfl).1⟩,(hq rfl).2⟩
structure Q0 (n:Qj):Prop where
 k:QW n
 pl:n.Places.length≤70
 tl:n.Tasks.length≤12
 tk:∀t∈n.Tasks,t.Vars.length≤16∧t.Ins.length≤16∧t.Outs.length≤16∧t.Cancel.length≤16
theorem QBL (n1:Qj)(k2:Int)(h:Qca n1 k2=some 0):∃t,idx n1.Tasks k2=some t∧t.Vars.length≤16∧t.Ins.length≤16∧t.Outs.length≤16∧t.Cancel.length≤16:=by
 unfold Qca at h
 obtain⟨x5,_,h⟩:=Qb h
 rcases Qt h with⟨_,h⟩|⟨_,h⟩
 ·cases h
 obtain⟨x7,_,h⟩:=Qb h
 rcases Qt h with⟨c,h⟩|⟨_,h⟩
 ·simp only [Option.some.injEq]at h;rw [h]at c;cases c
 obtain⟨e9,he9,h⟩:=Qb h
 obtain⟨e10,he10,h⟩:=Qb h
 rw [he9]at he10;cases he10
 obtain⟨_,_,h⟩:=Qb h
 obtain⟨_,_,h⟩:=Qb h
 obtain⟨_,_,h⟩:=Qb h
 obtain⟨_,_,h⟩:=Qb h
 obtain⟨x15,hx,h⟩:=Qb h
 have bad:∀a b:Int,0<a→x15=(a,b)→False:=fun a b ha e=>by
  subst e
  simp only at h
  rcases Qt h with⟨c,h⟩|⟨_,h⟩
  ·simp only [beq_iff_eq]at c;omega
  simp only [Option.some.injEq]at h;omega
 unfold Qey at hx
 obtain⟨x20,_,hx⟩:=Qb hx
 rcases Qt hx with⟨_,hx⟩|⟨_,hx⟩
 ·exact(bad _ _ (by decide) (Option.some.inj hx).symm).elim
 obtain⟨x22,_,hx⟩:=Qb hx
 rcases Qt hx with⟨_,hx⟩|⟨_,hx⟩
 ·exact(bad _ _ (by decide) (Option.some.inj hx).symm).elim
 obtain⟨x24,h24,hx⟩:=Qb hx
 rcases Qt hx with⟨_,hx⟩|⟨c,hx⟩
 ·exact(bad _ _ (by decide) (Option.some.inj hx).symm).elim
 unfold Qh0 at h24
 simp only [Option.some.injEq]at h24
 rw [←h24]at c
 simp only [Qji,QE,QD,Qk5]at c
 exact⟨e9,he9,by omega,by omega,by omega,by omega⟩
theorem Qvu (l1:List QC)(n1:Qj)(h:QW n1)(hl:QP QaJ l1):Qg (Qcv l1 n1) fun r=>r.2=0→∀(j:Nat),j<l1.length→Qca n1 j=some 0:=by
 unfold Qcv
 refine T0 (Qg.up l1.length (fun st=>st) (fun st=>∀(j:Nat),(j:Int)<st→Qca n1 j=some 0) (Q:=fun q=>(∀a b,q=.inl (a,b)→b≠0)∧(q=.inr ()→∀(j:Nat),j<l1.length→Qca n1 j=some 0)) rfl (fun j hj=>by omega) (fun i st hi hn hJ=>?_)) (fun q hq=>?_)
 ·show Qg (QbS l1 n1 st) _
  unfold QbS
  refine T1 (fun hc=>?_) (fun hc=>T2 (Qn ⟨fun a b h=>(by cases h),fun _ j hj=>by
   simp only [Q1]at hc
   exact hJ j (by omega)⟩))
  simp only [QD]at hc
  refine T0 (T4 (by omega) (by omega)) fun e he=>?_
  refine T0 (P:=fun x=>Qca n1 st=some x) ?_ fun x hx=>?_
  ·unfold QiX
   exact T0 (QrW n1 st h).self fun x hx=>T2 hx.1
  refine T1 (fun hc=>T2 (Qn ⟨fun a b h=>(by cases h;simpa using hc),fun h=>(by cases h)⟩)) fun hc=>?_
  simp only [bne_eq_false_iff_eq]at hc
  refine T2 (QF ⟨by omega,by rw [hi];exact Qz (by omega) hl.1,fun j hj=>?_⟩)
  rw [hi,Qz (show i<l1.length by omega) hl.1]at hj
  by_cases c:j=i
  ·subst c;rw [←hi,hx,hc]
  exact hJ j (by omega)
 rcases q with q | q
 ·exact T2 fun h=>absurd h (hq.1 q.1 q.2 rfl)
 exact T2 fun _=>hq.2 rfl
theorem QBM (n1:Qj)(h:QW n1){p:QeZ}(hn:QfP n1=some (0,p)):∀t∈n1.Tasks,t.Vars.length≤16∧t.Ins.length≤16∧t.Outs.length≤16∧t.Cancel.length≤16:=by
 unfold QfP at hn
 obtain⟨x6,_,hn⟩:=Qb hn
 rcases Qt hn with⟨c,hn⟩|⟨_,hn⟩
 ·simp only [Option.some.injEq,Prod.mk.injEq]at hn;rw [hn.1]at c;cases c
 obtain⟨x8,_,hn⟩:=Qb hn
 rcases Qt hn with⟨c,hn⟩|⟨_,hn⟩
 ·simp only [Option.some.injEq,Prod.mk.injEq]at hn;rw [hn.1]at c;cases c
 obtain⟨x10,_,hn⟩:=Qb hn
 rcases Qt hn with⟨c,hn⟩|⟨_,hn⟩
 ·simp only [Option.some.injEq,Prod.mk.injEq]at hn;rw [hn.1]at c;cases c
 obtain⟨x12,h12,hn⟩:=Qb hn
 rcases Qt hn with⟨c,hn⟩|⟨c,hn⟩
 ·simp only [Option.some.injEq,Prod.mk.injEq]at hn;rw [hn.1]at c;cases c
 simp only [bne_eq_false_iff_eq]at c
 obtain⟨r,hr,hr2⟩:=Qvu n1.Tasks n1 h h.2.2.1
 rw [h12]at hr;cases hr
 intro t ht
 obtain⟨j,hj,rfl⟩:=Qmk.1 ht
 obtain⟨t,h1,h2⟩:=QBL n1 j (hr2 c j hj)
 rw [Q4,QB hj]at h1
 cases h1
 exact h2
theorem QEs (n1:Qj)(m:List (List (Int×Int)))(h:QW n1)(hm:QP (QP fun _=>True) m):Qg (Qh2 n1 m) fun r=>r=true→Q0 n1∧MOk n1 1024 m∧Low n1 m:=by
 unfold Qh2
 refine T0 (QDK n1 h) fun x5 h5=>?_
 refine T0 (QDL m hm.1) fun x6 _=>?_
 refine T1 (fun _=>T2 fun h=>by cases h) fun hc=>?_
 simp only [Qc8,Qji,Q1]at hc
 have h5:=h5 hc.1
 refine T0 (Qyk n1 h).self fun x11 h11=>?_
 refine T0 (P:=fun r=>r=false→Q0 n1∧MOk n1 1024 m∧Low n1 m) ?_ fun x12 h12=>?_
 ·unfold QmT
  refine T1 (fun _=>T2 fun h=>by cases h) fun hc1=>?_
  simp only [bne_eq_false_iff_eq]at hc1
  refine T0 (Qy9 n1 m h hm) fun r hr=>T2 fun hrf=>⟨⟨h,h5.2.1,by omega,?_⟩,hr (by simpa using hrf)⟩
  obtain⟨a,b⟩:=x11
  simp only at hc1
  subst hc1
  exact QBM n1 h h11.1
 unfold QgZ
 refine T1 (fun _=>T2 fun h=>by cases h) fun hx=>?_
 have hfin:=h12 hx
 refine T6 (P:=fun _=>True) ?_ fun _ _ _=>hfin
 refine T0 (Qg.up n1.Tasks.length (fun st=>st.2) (fun _=>True) (Q:=fun _=>True) rfl trivial (fun i st hi hn _=>?_)) (fun q _=>T3)
 obtain⟨a,x⟩:=st
 replace hi:x=(i:Int):=hi
 show Qg (QjU n1 a x) _
 unfold QjU
 refine T1 (fun hc=>?_) (fun _=>T2 (Qn trivial))
 simp only [QD]at hc
 refine T0 (T4 (by omega) (by omega)) fun e _=>?_
 refine T0 (QqW n1 x h) fun y _=>?_
 exact T2 (QF ⟨by omega,by subst hi;exact Qz (by omega) h.2.2.1.1,trivial⟩)
end Go.Proofs
noncomputable section
namespace Go.Proofs
open Go Go.RowKit Go.Vm
theorem Qx1 (s:QaX)(m:Int)(h:0≤s.k∧s.k<s.sizes.length):Qg (Qdj s m) fun r=>r=true→0≤m:=by
 unfold Qdj
 refine T0 (P:=fun r=>r=true→0≤m) ?_ fun x hx=>T2 hx
 unfold Qgf
 refine T1 (fun hc=>?_) fun _=>T2 fun h=>by cases h
 exact T0 (T4 h.1 h.2) fun _ _=>T2 fun _=>by simpa using hc
theorem Qh7 (s:QaX)(h:0≤s.k∧s.k<s.all.length):Qg (Qc2 s) fun _=>True:=by
 unfold Qc2
 exact T0 (T4 h.1 h.2) fun _ _=>T3
theorem QCT (l:List QH)(k m:Int)(hl:QP Qci l):Qg (Qe2 l k m) fun _=>True:=by
 unfold Qe2
 refine T0 (QiZ l k hl) fun x hx=>?_
 refine T0 (P:=fun r=>r=false→x.1=true) ?_ fun r hr=>?_
 ·unfold Qj7
  refine T1 (fun _=>T2 fun h=>by cases h) fun hc=>?_
  have hc:x.1=true:=by simpa using hc
  have h:=hx.2 hc
  exact T0 (Qx1 x.2 m (by omega)) fun _ _=>T2 fun _=>hc
 unfold QeP
 refine T1 (fun _=>T3) fun hc=>?_
 have h:=hx.2 (hr hc)
 refine T0 (Qh7 x.2 (by omega)) fun _ _=>?_
 refine T1 (fun _=>?_) fun _=>T3
 exact T0 (Qh7 x.2 (by omega)) fun _ _=>T3
theorem QCU (l:List QH)(k n:Int)(hl:QP Qci l):Qg (Qe3 l k n) fun r=>r.2=true→0≤r.1:=by
 unfold Qe3
 refine T0 (QiZ l k hl) fun x hx=>?_
 refine T1 (fun _=>T2 fun h=>by cases h) fun hc=>?_
 have h:=hx.2 (by simpa using hc)
 have k1:∀m,Qg (QcE x m) fun r=>r.2=true→0≤r.1:=fun m=>by
  unfold QcE
  refine T0 (Qx1 x.2 m (by omega)) fun y hy=>?_
  exact T1 (fun _=>T2 fun h=>by cases h) fun hc=>T2 fun _=>hy (by simpa using hc)
 refine T0 (Qh7 x.2 (by omega)) fun _ _=>?_
 refine T1 (fun _=>?_) fun _=>k1 _
 exact T1 (fun _=>T2 fun h=>by cases h) fun _=>k1 _
theorem QBN (l:List QH)(k n:Int)(hl:QP Qci l):Qg (Qe3 l k n) fun r=>r.2=true→∃z,Qa3 l k=some z∧r.1<z:=by
 unfold Qe3 Qa3
 refine T0 (QiZ l k hl).self fun x hx=>?_
 obtain⟨hxe,hx⟩:=hx
 refine T1 (fun _=>T2 fun h=>by cases h) fun hc=>?_
 have h:=hx.2 (by simpa using hc)
 have hk:k.toNat<x.2.sizes.length:=by omega
 have ei:idx x.2.sizes k=some x.2.sizes[k.toNat]:=Qub h.1.1 h.1.2
 have k1:∀m,Qg (QcE x m) fun r=>r.2=true→∃z,((QfN l k).bind fun x5=>bif (!x5.1)then some 0 else(idx x5.2.sizes k).bind fun e7=>some e7)=some z∧r.1<z:=fun m=>by
  unfold QcE
  refine T0 (P:=fun y=>y=true→m<x.2.sizes[k.toNat]) ?_ fun y hy=>?_
  ·unfold Qdj
   refine T0 (P:=fun y=>y=true→m<x.2.sizes[k.toNat]) ?_ fun y hy=>T2 hy
   unfold Qgf
   refine T1 (fun _=>?_) fun _=>T2 fun h=>by cases h
   rw [h.2.1,ei,Ql]
   exact T2 fun h=>by simpa using h
  refine T1 (fun _=>T2 fun h=>by cases h) fun hc2=>T2 fun _=>⟨x.2.sizes[k.toNat],?_,hy (by simpa using hc2)⟩
  rw [hxe,Ql,hc,cond_false,ei];rfl
 refine T0 (Qh7 x.2 (by omega)) fun _ _=>?_
 refine T1 (fun _=>?_) fun _=>k1 _
 exact T1 (fun _=>T2 fun h=>by cases h) fun _=>k1 _
theorem Qh8 {α:Type}{o:Option α}{P:α→Prop}(h:Qg o P){r:α}(e:o=some r):P r:=by
 obtain⟨r',h1,h2⟩:=h
 rw [e]at h1;cases h1;exact h2
theorem Qza : ∀(n:Nat) (v:List Int) (e:Qo),POk v.length e→SizeOf.sizeOf e≤n→Qg (QaE n v e) fun _=>True
 | 0,_,e,_,h=>absurd e.pos (by omega)
 | n+1,v,e,he,h=>by
  cases he with
  | mk _ hk h2 h3 h5 h6 hr=>
  unfold QaE Qle
  have sub:∀(j:Nat) (hj:j<e.Kids.length),Qg (QaE n v (e.Kids[j])) fun _=>True:=fun j hj=>
   Qza n v _ (hr _ (Qay hj)) (by have:=Quc (Qay hj);omega)
  have kid:∀(j:Nat) (hj:j<e.Kids.length),idx e.Kids (j:Int)=some e.Kids[j]:=fun j hj=>by rw [Q4,QB hj]
  rcases hk with hk | hk | hk | hk | hk | hk
  ·refine T0 (P:=fun x=>x=.inl v) (by unfold QcV;rw [hk];exact T2 rfl) fun x hx=>?_
   subst hx
   exact T3
  ·refine T0 (P:=fun x=>x=.inr (.inl v)) (by unfold QcV;rw [hk];exact T2 rfl) fun x hx=>?_
   subst hx
   show Qg (QgM e v) _
   unfold QgM Qje
   have:=h2 hk
   exact T0 (T0 (T4 (by omega) (by omega)) fun _ _=>T3) fun _ _=>T3
  ·refine T0 (P:=fun x=>x=.inr (.inr (.inl v))) (by unfold QcV QcD;rw [hk];exact T2 rfl) fun x hx=>?_
   subst hx
   show Qg (Qdp (QaE n) e v) _
   unfold Qdp Qhn
   have hl:=h3 (.inl hk)
   refine T0 (P:=fun _=>True) ?_ fun _ _=>T3
   rw [show idx e.Kids 0=some (e.Kids[0]'(by omega))from kid 0 (by omega),Ql]
   refine T0 (sub 0 (by omega)) fun x _=>?_
   refine T1 (fun _=>T3) fun _=>T1 (fun _=>T0 (Qup _) fun _ _=>T3) fun _=>T0 (QlC _ _ _) fun _ _=>T3
  ·refine T0 (P:=fun x=>x=.inr (.inr (.inl v))) (by unfold QcV QcD;rw [hk];exact T2 rfl) fun x hx=>?_
   subst hx
   show Qg (Qdp (QaE n) e v) _
   unfold Qdp Qhn
   have hl:=h3 (.inr hk)
   refine T0 (P:=fun _=>True) ?_ fun _ _=>T3
   rw [show idx e.Kids 0=some (e.Kids[0]'(by omega))from kid 0 (by omega),Ql]
   refine T0 (sub 0 (by omega)) fun x _=>?_
   refine T1 (fun _=>T3) fun _=>T1 (fun _=>T0 (Qup _) fun _ _=>T3) fun _=>T0 (QlC _ _ _) fun _ _=>T3
  ·refine T0 (P:=fun x=>x=.inr (.inr (.inr (.inl v)))) (by unfold QcV QcD;rw [hk];exact T2 rfl) fun x hx=>?_
   subst hx
   show Qg (QgN (QaE n) e v) _
   unfold QgN Qnk
   have hl:=h5 hk
   refine T0 (P:=fun _=>True) ?_ fun _ _=>T3
   rw [show idx e.Kids 0=some (e.Kids[0]'(by omega))from kid 0 (by omega),Ql]
   refine T0 (sub 0 (by omega)) fun x _=>?_
   have k1:∀b,Qg (QdY x e (QaE n) v b) fun _=>True:=fun b=>by
    unfold QdY
    refine T1 (fun _=>T0 (QlC _ _ _) fun _ _=>T3) fun _=>?_
    rw [show idx e.Kids 1=some (e.Kids[1]'(by omega))from kid 1 (by omega),Ql]
    refine T0 (sub 1 (by omega)) fun y _=>?_
    exact T1 (fun _=>T3) fun _=>T0 (QlC _ _ _) fun _ _=>T3
   exact T1 (fun _=>T3) fun _=>T1 (fun _=>k1 _) fun _=>T1 (fun _=>k1 _) fun _=>k1 _
  refine T0 (P:=fun x=>x=.inr (.inr (.inr (.inr v)))) (by unfold QcV QcD;rw [hk];exact T2 rfl) fun x hx=>?_
  subst hx
  show Qg (QgO (QaE n) e v) _
  unfold QgO Qld
  have hl:=h6 hk
  refine T0 (P:=fun _=>True) ?_ fun _ _=>T3
  rw [show idx e.Kids 0=some (e.Kids[0]'(by omega))from kid 0 (by omega),Ql]
  refine T0 (sub 0 (by omega)) fun x _=>?_
  refine T1 (fun _=>T3) fun _=>T1 (fun _=>?_) fun _=>?_
  ·rw [show idx e.Kids 1=some (e.Kids[1]'(by omega))from kid 1 (by omega),Ql]
   exact T0 (sub 1 (by omega)) fun y _=>T3
  rw [show idx e.Kids 2=some (e.Kids[2]'(by omega))from kid 2 (by omega),Ql]
  exact T0 (sub 2 (by omega)) fun y _=>T3
theorem QBO (e:Qo)(v:List Int)(h:Qds e):Qg (Qlq e v) fun _=>True:=by
 unfold Qlq
 refine T0 (Qnt e v.length h) fun x hx=>?_
 refine T1 (fun _=>T3) fun hc=>?_
 unfold QmF
 exact T0 (Qza _ v e (hx (by simpa using hc)) (QbT _)) fun _ _=>T3
theorem QAE (n:Qj)(task:Int)(vars:List Int)(h:Q0 n):Qg (Qfy n task vars) fun r=>r.2=0→0≤task∧task<n.Tasks.length:=by
 unfold Qfy
 refine T1 (fun _=>T2 fun h=>by cases h) fun hc=>?_
 simp only [Qc8,Q1]at hc
 refine T0 (T4 (by omega) (by omega)) fun e he=>?_
 have hv:=(h.tk e he).1
 have ke:=h.k.2.2.1.2 e he
 refine T1 (fun _=>T2 fun h=>by cases h) fun hl=>?_
 simp only [bne_eq_false_iff_eq]at hl
 refine T0 (T5 (by simp only [QE,QD];omega)) fun _ _=>?_
 refine T6 (P:=fun _=>True) ?_ fun _ _ _=>by omega
 refine T0 (Qg.up e.Vars.length (fun st=>st.1) (fun st=>st.2.length=e.Vars.length) (Q:=fun _=>True) rfl (by simp) (fun i st hi hn hJ=>?_)) (fun q _=>?_)
 ·obtain⟨x,l⟩:=st
  replace hi:x=(i:Int):=hi
  replace hJ:l.length=e.Vars.length:=hJ
  show Qg (QgC e vars n x l) _
  unfold QgC
  refine T1 (fun hc=>?_) (fun _=>T2 (Qn trivial))
  simp only [QD]at hc
  refine T0 (T4 (by omega) (by omega)) fun a _=>?_
  refine T0 (T4 (by omega) (by omega)) fun b _=>?_
  refine T0 (QCT _ _ _ h.k.1) fun c _=>?_
  refine T1 (fun _=>T2 (Qn trivial)) fun _=>?_
  refine T0 (T4 (by omega) (by omega)) fun d _=>?_
  exact T2 (QF ⟨by omega,by subst hi;exact Qz (by omega) (by unfold maxLen;omega:e.Vars.length≤maxLen),by simpa using hJ⟩)
 rcases q with q | q
 ·exact T3
 exact T3
theorem QrX {α:Type}{l:List α}{i:Nat}{x y:α}(h:y∈l.set i x):y=x∨y∈l:=by
 rcases List.mem_or_eq_of_mem_set h with h | h
 ·exact .inr h
 exact .inl h
theorem Qp2 (n:Qj)(l:List Qaw)(which env:List Int)(h:Q0 n)(hl:QP Qkk l)(hw:which.length≤1000):Qg (Qd3 n l which env) fun r=>r.2=0→MOk n which.length r.1∧Low n r.1:=by
 unfold Qd3
 have hpl:=h.pl
 refine T0 (T5 (by simp only [QE,QD];omega)) fun _ _=>?_
 refine T0 (Qg.up which.length (fun st=>st.1) (fun st=>(st.2.length=n.Places.length∧∀b∈st.2,Rt b∧(b.length:Int)≤st.1)∧Low n st.2) (Q:=fun q=>(∀x,q=.inl x→x≠0)∧∀m,q=.inr m→MOk n which.length m∧Low n m) rfl ⟨⟨by simp,fun b hb=>?_⟩,fun j b p hb hp k hk=>?_⟩ (fun i st hi hn hJ=>?_)) (fun q hq=>?_)
 ·have:=Qr1 hb
  subst this
  exact⟨Rt.nil,by simp⟩
 ·have:=Qr1 (Qan hb)
  subst this
  simp [QO,Qv]at hk
 ·obtain⟨x,m⟩:=st
  replace hi:x=(i:Int):=hi
  obtain⟨⟨hJ1,hJ2⟩,hJ3⟩:(m.length=n.Places.length∧∀b∈m,Rt b∧(b.length:Int)≤x)∧Low n m:=hJ
  have err:∀y:Int,y≠0→(∀s',(Sum.inr (Sum.inl y):(Int×List (List (Int×Int)))⊕(Int⊕List (List (Int×Int))))=.inl s'→i<which.length∧s'.1=((i+1:Nat):Int)∧(s'.2.length=n.Places.length∧∀b∈s'.2,Rt b∧(b.length:Int)≤s'.1)∧Low n s'.2)∧∀r,(Sum.inr (Sum.inl y):(Int×List (List (Int×Int)))⊕(Int⊕List (List (Int×Int))))=.inr r→(∀x,r=.inl x→x≠0)∧∀m,r=.inr m→MOk n which.length m∧Low n m:=
   fun y hy=>⟨fun s' e=>(by cases e),fun r e=>(by cases e;exact⟨fun x e=>(by cases e;exact hy),fun m e=>(by cases e)⟩)⟩
  show Qg (Qis which l env n x m) _
  unfold Qis
  refine T1 (fun hc=>?_) (fun hc=>T2 (Qn ⟨fun x e=>(by cases e),fun m' e=>?_⟩))
  ·simp only [QD]at hc
   refine T0 (T4 (by omega) (by omega)) fun e18 _=>?_
   refine T1 (fun _=>T2 (err _ (by decide))) fun hc1=>?_
   simp only [Qc8,Q1]at hc1
   refine T0 (T4 (by omega) (by omega)) fun e22 h22=>?_
   refine T0 (QBO e22.Expr env (hl.2 e22 h22).2) fun x23 _=>?_
   refine T1 (fun hc2=>T2 (err _ (by simpa using hc2))) fun _=>?_
   refine T0 (T4 (by omega) (by omega)) fun e25 _=>?_
   refine T1 (fun _=>T2 (err _ (by decide))) fun hc3=>?_
   simp only [Qc8,Q1]at hc3
   refine T0 (T4 (by omega) (by omega)).self fun e29 h29=>?_
   refine T0 (QCU _ _ _ h.k.1).self fun x30 h30=>?_
   refine T1 (fun _=>T2 (err _ (by decide))) fun hc4=>?_
   have hz:=Qh8 (QBN _ _ _ h.k.1) h30.1 (by simpa using hc4)
   have h30:=h30.2 (by simpa using hc4)
   refine T0 (T4 (by omega) (by omega)).self fun e32 h32e=>?_
   have h32:=h32e.2
   have h32e:=h32e.1
   have h29:=h29.1
   rw [Qw0,QbW h30]
   simp only [cond_true,Ql]
   have hb:=hJ2 e32 h32
   have key:∃s,QbF e32 [(x30.1,1)]=some s∧(s.2=0→(Rt s.1∧s.1.length≤e32.length+1)∧∀k,QO s.1 k=QO e32 k+QO [(x30.1,1)] k):=by
    rcases Qkn e32 [(x30.1,1)] (by simp;omega)with⟨_,e⟩|⟨_,_,_,e⟩|⟨_,_,r,e,h1,hcn,h2⟩
    ·exact⟨_,e,fun h=>by cases h⟩
    ·exact⟨_,e,fun h=>by cases h⟩
    exact⟨_,e,fun _=>⟨⟨h1,by simpa using h2⟩,hcn⟩⟩
   obtain⟨s,es,hs⟩:=key
   rw [es,Ql]
   refine T0 (T4 (by omega) (by omega)) fun _ _=>?_
   refine T1 (fun hc5=>T2 (err _ (by simpa using hc5))) fun hc5=>?_
   obtain⟨hs,hcn⟩:=hs (by simpa using hc5)
   refine T2 (QF ⟨by omega,by subst hi;exact Qz (by omega) (by unfold maxLen;omega:which.length≤maxLen),⟨by simpa using hJ1,fun b hb'=>?_⟩,fun j b p hb' hp k hk=>?_⟩)
   ·subst hi
    show Rt b∧(b.length:Int)≤w64 ((i:Int)+1)
    rw [Qz (by omega) (by unfold maxLen;omega:which.length≤maxLen)]
    rcases QrX hb' with rfl | hb'
    ·exact⟨hs.1,by omega⟩
    have:=hJ2 b hb'
    exact⟨this.1,by omega⟩
   have hb':(m.set e25.Place.toNat s.1)[j]? = some b:=hb'
   by_cases cj:e25.Place.toNat=j
   ·subst cj
    rw [Qqh (by omega)]at hb'
    cases hb'
    rw [Qk4 (by omega)]at h29 h32e
    rw [h29]at hp
    cases hp
    rw [hcn]at hk
    by_cases c0:0<QO e32 k
    ·exact hJ3 _ e32 e29 h32e h29 k c0
    have h9:0<QO [(x30.1,1)] k:=by omega
    have h8:x30.1=k:=by
     apply Decidable.byContradiction
     intro hne
     simp [QO,Qv,hne]at h9
    obtain⟨z,hz1,hz2⟩:=hz
    exact⟨z,hz1,by omega⟩
   rw [QoH cj]at hb'
   exact hJ3 j b p hb' hp k hk
  cases e
  exact⟨⟨hJ1,fun b hb=>⟨(hJ2 b hb).1,by have:=(hJ2 b hb).2;omega⟩⟩,hJ3⟩
 rcases q with q | q
 ·exact T2 fun h=>absurd h (hq.1 q rfl)
 exact T2 fun _=>hq.2 q rfl
theorem Qzb (a m:List (List (Int×Int)))(ha:QP (QP fun _=>True) a)(hm:QP (QP fun _=>True) m):Qg (QiT a m) fun _=>True:=by
 unfold QiT Qax
 refine T0 (P:=fun _=>True) ?_ fun _ _=>T3
 refine T1 (fun _=>T3) fun hc=>?_
 simp only [bne_eq_false_iff_eq]at hc
 refine T0 (Qg.up a.length (fun st=>st) (fun _=>True) (Q:=fun _=>True) rfl trivial (fun i st hi hn hJ=>?_)) (fun q _=>?_)
 ·show Qg (Qae a m st) _
  unfold Qae
  refine T1 (fun hc=>?_) (fun _=>T2 (Qn trivial))
  simp only [QD]at hc
  refine T0 (T4 (by omega) (by omega)) fun x hx=>?_
  refine T0 (T4 (by omega) (by omega)) fun y hy=>?_
  refine T0 (P:=fun _=>True) (by obtain⟨r,hr,_⟩:=QwZ x y (ha.2 x hx).1 (hm.2 y hy).1;exact⟨r,hr,trivial⟩) fun _ _=>?_
  exact T1 (fun _=>T2 (Qn trivial)) fun _=>T2 (QF ⟨by omega,by rw [hi];exact Qz (by omega) ha.1,trivial⟩)
 rcases q with q | q
 ·exact T3
 exact T3
theorem MOk.len {n:Qj}{c:Nat}{m:List (List (Int×Int))}(h:MOk n c m)(hn:Q0 n)(hc:c≤1000000):QP (QP fun _=>True) m:=
 ⟨by have:=h.1;have:=hn.pl;unfold maxLen;omega,fun b hb=>⟨by have:=(h.2 b hb).2;unfold maxLen;omega,fun _ _=>trivial⟩⟩
end Go.Proofs
