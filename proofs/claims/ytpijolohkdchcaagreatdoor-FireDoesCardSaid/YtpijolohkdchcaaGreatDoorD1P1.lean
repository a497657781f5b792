/- A part of the proof; what it holds is told at each theorem. -/
import Derived.Test.YtpijolohkdchcaaGreatDoorD1XPlA
import Derived.Test.YtpijolohkdchcaaGreatDoorD1V3
import Derived.Test.YtpijolohkdchcaaGreatDoorD1T3
import Derived.KernelRfl
set_option linter.unusedVariables false
set_option linter.unusedSimpArgs false
set_option linter.unusedSectionVars false
set_option linter.deprecated false
namespace Go.Vm
open Go Go.RowKit
def Qi {α:Type}(o:Option α)(Q:α->Prop):Prop:=∃r,o=some r/\Q r
section
variable {α β σ ρ:Type}
theorem Qi.ok {a:α}{Q:α->Prop}(h:Q a):Qi (some a) Q:=⟨a,rfl,h⟩
theorem Qi.okT {a:α}:Qi (some a) fun _=>True:=⟨a,rfl,trivial⟩
theorem Qi.bind {o:Option α}{f:α->Option β}{P:α->Prop}{Q:β->Prop}(h:Qi o P)(k:∀x,P x->Qi (f x) Q):Qi (o.bind f) Q:=by
 obtain⟨x,rfl,hx⟩:=h
 exact k x hx
theorem Qi.bif {c:Bool}{a b:Option α}{Q:α->Prop}(h1:c=true->Qi a Q)(h2:c=false->Qi b Q):Qi (bif c then a else b) Q:=by
 cases c with
 | true=>exact h1 rfl
 | false=>exact h2 rfl
theorem Qi.chk {c:Bool}(h:c=true):Qi (chk c) fun _=>True:=⟨(),QnM h,trivial⟩
theorem Qi.idx {l:List α}{j:Int}(h0:0<=j)(h1:j<l.length):Qi (idx l j) fun x=>x∈l:=by
 rw [Qm1 h0 h1]
 exact⟨_,rfl,Qbk _⟩
theorem Qi.get {l:List α}{j:Nat}(h1:j<l.length):Qi (l[j]?) fun x=>x∈l:=by
 rw [QM h1]
 exact⟨_,rfl,Qbk _⟩
theorem Qi.sidx {s:ByteArray}{j:Int}(h0:0<=j)(h1:j<s.size):Qi (sidx s j) fun _=>True:=by
 unfold Vm.sidx
 rw [if_pos h0]
 have:j.toNat<s.size:=by omega
 rw [getElem?_pos s j.toNat this]
 exact⟨_,rfl,trivial⟩
theorem Qi.mono {o:Option α}{P Q:α->Prop}(h:Qi o P)(k:∀x,P x->Q x):Qi o Q:=let ⟨r,h1,h2⟩:=h;⟨r,h1,k r h2⟩
theorem Qi.tot {o:Option α}{P:α->Prop}(h:Qi o P):∃r,o=some r:=let ⟨r,h1,_⟩:=h;⟨r,h1⟩
theorem Qi.self {o:Option α}{P:α->Prop}(h:Qi o P):Qi o fun x=>o=some x/\P x:=let ⟨r,h1,h2⟩:=h;⟨r,h1,h1,h2⟩
theorem Qi.up {body:σ->Option (σ⊕ρ)}(n:Nat)(ix:σ->Int)(J:σ->Prop){Q:ρ->Prop}{s0:σ}(h0:ix s0=0)(hJ:J s0)
  (step:∀(i:Nat) s,ix s=(i:Int)->i<=n->J s->Qi (body s) fun o=>(∀s',o=.inl s'->i<n/\ix s'=((i+1:Nat):Int)/\J s')/\∀r,o=.inr r->Q r):Qi (Qy body s0) Q:=by
 have key:∀k i s,i+k=n->ix s=(i:Int)->J s->∃r,Qy body s=some r/\Q r:=by
  intro k
  induction k with
  | zero=>
   intro i s hk hi hj
   obtain⟨o,ho,h1,h2⟩:=step i s hi (by omega) hj
   rw [QbN,ho]
   cases o with
   | inl s'=>have:=(h1 s' rfl).1;omega
   | inr r=>exact⟨r,rfl,h2 r rfl⟩
  | succ k ih=>
   intro i s hk hi hj
   obtain⟨o,ho,h1,h2⟩:=step i s hi (by omega) hj
   rw [QbN,ho]
   cases o with
   | inl s'=>
    obtain⟨_,h3,h4⟩:=h1 s' rfl
    exact ih (i+1) s' (by omega) h3 h4
   | inr r=>exact⟨r,rfl,h2 r rfl⟩
 exact key n 0 s0 (by omega) h0 hJ
theorem QR {s:σ}{n i:Nat}{ix:σ->Int}{J:σ->Prop}{Q:ρ->Prop}(h:i<n/\ix s=((i+1:Nat):Int)/\J s):
  (∀s',(Sum.inl s:σ⊕ρ)=.inl s'->i<n/\ix s'=((i+1:Nat):Int)/\J s')/\∀r,(Sum.inl s:σ⊕ρ)=.inr r->Q r:=
 ⟨fun s' e=>(by cases e;exact h),fun r e=>(by cases e)⟩
theorem Qw {r:ρ}{n i:Nat}{ix:σ->Int}{J:σ->Prop}{Q:ρ->Prop}(h:Q r):
  (∀s',(Sum.inr r:σ⊕ρ)=.inl s'->i<n/\ix s'=((i+1:Nat):Int)/\J s')/\∀r',(Sum.inr r:σ⊕ρ)=.inr r'->Q r':=
 ⟨fun s' e=>(by cases e),fun r' e=>(by cases e;exact h)⟩
end
def QI {α:Type}(ok:α->Prop)(l:List α):Prop:=l.length<=maxLen/\∀x∈l,ok x
theorem QI.drop {α:Type}{ok:α->Prop}{l:List α}(h:QI ok l)(k:Nat):QI ok (l.drop k):=⟨by have:=h.1;rw [Qmg];omega,fun x hx=>h.2 x (QqD hx)⟩
theorem QI.take {α:Type}{ok:α->Prop}{l:List α}(h:QI ok l)(k:Nat):QI ok (l.take k):=⟨by have:=h.1;rw [QeR];omega,fun x hx=>h.2 x (QiV hx)⟩
theorem QI.nil {α:Type}{ok:α->Prop}:QI ok ([]:List α):=⟨by simp,fun x h=>by cases h⟩
theorem QI.app {α:Type}{ok:α->Prop}{l m:List α}(h:QI ok l)(hm:QI ok m)(hs:l.length+m.length<=maxLen):QI ok (l++m):=⟨by simpa using hs,fun x hx=>by rcases Qei.1 hx with h1 | h1;exact h.2 x h1;exact hm.2 x h1⟩
def QeZ (s:ByteArray):Prop:=s.size<=maxLen
theorem QB0 {s:ByteArray}(h:QbT s (⟨#[]⟩:ByteArray)=false):0<s.size:=by
 apply Nat.pos_of_ne_zero
 intro h0
 have:s=⟨#[]⟩:=by
  obtain⟨a⟩:=s
  have:a=#[]:=QAC h0
  rw [this]
 subst this
 simp [QbT]at h
theorem QkS {a b:Int}:0<=min2 a b↔0<=a/\0<=b:=by unfold min2;split<;>omega
theorem QkT {a b n:Int}:max2 a b<n↔a<n/\b<n:=by unfold max2;split<;>omega
theorem QkU {a b n:Int}:max2 a b<=n↔a<=n/\b<=n:=by unfold max2;split<;>omega
abbrev T0:=@Qi.bind
abbrev T1:=@Qi.bif
abbrev T2:=@Qi.ok
abbrev T3:=@Qi.okT
abbrev T4:=@Qi.idx
abbrev T5:=@Qi.chk
abbrev T6:=@Qi.mono
end Go.Vm
namespace Go.Vm
open Go Go.RowKit
def Asc (l:List (Int×Int)):Prop:=l.Pairwise fun p q=>p.1<q.1
def QnN (l:List (Int×Int)):Prop:=l.Pairwise fun p q=>p.1≠q.1
theorem Asc.nd {l:List (Int×Int)}(h:Asc l):QnN l:=h.imp fun h=>by omega
theorem QfR {p:Int×Int}{l:List (Int×Int)}:Asc (p::l)↔(∀q∈l,p.1<q.1)/\Asc l:=List.pairwise_cons
theorem QAu {p:Int×Int}{l:List (Int×Int)}:QnN (p::l)↔(∀q∈l,p.1≠q.1)/\QnN l:=List.pairwise_cons
theorem QlM {l:List (Int×Int)}{k:Int}:QV l k=none↔∀p∈l,p.1≠k:=by
 induction l with
 | nil=>simp [QV]
 | cons p l ih=>
  obtain⟨a,x⟩:=p
  rw [Qar]
  by_cases h:a=k
  ·simp [h]
  simp [h,ih]
theorem QbG {l:List (Int×Int)}(hn:QnN l){k v:Int}:QV l k=some v↔(k,v)∈l:=by
 induction l with
 | nil=>simp [QV]
 | cons p l ih=>
  obtain⟨a,x⟩:=p
  obtain⟨h1,h2⟩:=QAu.1 hn
  rw [Qar]
  by_cases h:a=k
  ·subst h
   rw [if_pos rfl]
   constructor
   ·intro e;cases e;simp
   intro e
   rcases Qbb.1 e with e | e
   ·cases e;rfl
   exact absurd rfl (h1 (a,v) e)
  rw [if_neg h,ih h2]
  constructor
  ·intro e;exact QcN _ e
  intro e
  rcases Qbb.1 e with e | e
  ·cases e;exact absurd rfl h
  exact e
theorem QB1 {l m:List (Int×Int)}(hl:QnN l)(h:l.Perm m)(k:Int):QV l k=QV m k:=by
 have hm:QnN m:=(h.pairwise_iff (fun hab=>Ne.symm hab)).1 hl
 apply Option.ext
 intro v
 rw [QbG hl,QbG hm]
 exact h.mem_iff
theorem Qyf {l m:List (Int×Int)}(hl:Asc l)(hm:Asc m)(h:∀k,QV l k=QV m k):l=m:=by
 induction l generalizing m with
 | nil=>
  cases m with
  | nil=>rfl
  | cons p m=>have:=h p.1;rw [Qar (κ:=Int)]at this;simp [QV]at this
 | cons p l ih=>
  obtain⟨a,x⟩:=p
  cases m with
  | nil=>have:=h a;rw [Qar]at this;simp [QV]at this
  | cons q m=>
   obtain⟨b,y⟩:=q
   obtain⟨l1,l2⟩:=QfR.1 hl
   obtain⟨m1,m2⟩:=QfR.1 hm
   have hab:a=b:=by
    rcases Int.lt_trichotomy a b with hc | hc | hc
    ·have e:=h a
     rw [Qar,Qar,if_pos rfl,if_neg (by omega),QlM.2 (fun p hp=>by have:=m1 p hp;simp at this;omega)]at e
     cases e
    ·exact hc
    have e:=h b
    rw [Qar,Qar,if_neg (by omega),if_pos rfl,QlM.2 (fun p hp=>by have:=l1 p hp;simp at this;omega)]at e
    cases e
   subst hab
   have e:=h a
   rw [Qar,Qar,if_pos rfl,if_pos rfl]at e
   cases e
   rw [ih l2 m2 fun k=>?_]
   by_cases hk:a=k
   ·subst hk
    rw [QlM.2 (fun p hp=>by have:=l1 p hp;simp at this;omega),QlM.2 (fun p hp=>by have:=m1 p hp;simp at this;omega)]
   have:=h k
   rwa [Qar,Qar,if_neg hk,if_neg hk]at this
theorem QD4 {l:List (Int×Int)}{k v:Int}{p:Int×Int}(h:p∈QlS l k v):∃q∈l,q.1=p.1:=by
 induction l with
 | nil=>cases h
 | cons q l ih=>
  obtain⟨a,x⟩:=q
  rw [QlS]at h
  split at h
  ·rename_i e
   rcases Qbb.1 h with rfl | h
   ·exact⟨_,Qb9,e⟩
   exact⟨p,QcN _ h,rfl⟩
  rcases Qbb.1 h with rfl | h
  ·exact⟨_,Qb9,rfl⟩
  obtain⟨q,h1,h2⟩:=ih h
  exact⟨q,QcN _ h1,h2⟩
theorem QCS {lt:Int->Int->Bool}{l:List (Int×Int)}{k v:Int}{p:Int×Int}(h:p∈QlR lt l k v):p=(k,v)\/p∈l:=by
 induction l with
 | nil=>simp [QlR]at h;exact .inl h
 | cons q l ih=>
  obtain⟨a,x⟩:=q
  rw [QlR]at h
  split at h
  ·rcases Qbb.1 h with h | h
   ·exact .inl h
   exact .inr h
  rcases Qbb.1 h with h | h
  ·exact .inr (h▸Qb9)
  rcases ih h with h | h
  ·exact .inl h
  exact .inr (QcN _ h)
theorem QzJ {l:List (Int×Int)}(h:Asc l)(k v:Int):Asc (Qcv ltI l k v):=by
 unfold Qcv
 split
 ·rename_i x hx
  clear hx
  induction l with
  | nil=>exact h
  | cons p l ih=>
   obtain⟨a,x⟩:=p
   obtain⟨h1,h2⟩:=QfR.1 h
   rw [QlS]
   split
   ·rename_i e;subst e;exact QfR.2 ⟨h1,h2⟩
   refine QfR.2 ⟨fun q hq=>?_,ih h2⟩
   obtain⟨q',hq',e⟩:=QD4 hq
   rw [<-e];exact h1 _ hq'
 rename_i hn
 induction l with
 | nil=>exact List.pairwise_singleton _ _
 | cons p l ih=>
  obtain⟨a,x⟩:=p
  obtain⟨h1,h2⟩:=QfR.1 h
  rw [Qar]at hn
  split at hn
  ·cases hn
  rename_i hne
  rw [QlR]
  split
  ·rename_i e
   have e:k<a:=Qai e
   refine QfR.2 ⟨fun q hq=>?_,h⟩
   rcases Qbb.1 hq with rfl | hq
   ·exact e
   have:=h1 q hq;simp at this ⊢;omega
  rename_i e
  have e:¬k<a:=fun c=>e (QH c)
  refine QfR.2 ⟨fun q hq=>?_,ih h2 hn⟩
  rcases QCS hq with rfl | hq
  ·show a<k;omega
  exact h1 q hq
theorem QCT {l:List (Int×Int)}{k v:Int}:(QlS l k v).length=l.length:=by
 induction l with
 | nil=>rfl
 | cons p l ih=>
  obtain⟨a,x⟩:=p
  rw [QlS]
  split
  ·rfl
  simp [ih]
theorem QCU {lt:Int->Int->Bool}{l:List (Int×Int)}{k v:Int}:(QlR lt l k v).length=l.length+1:=by
 induction l with
 | nil=>rfl
 | cons p l ih=>
  obtain⟨a,x⟩:=p
  rw [QlR]
  split
  ·rfl
  simp [ih]
theorem QCV {l:List (Int×Int)}{k v:Int}:(Qcv ltI l k v).length<=l.length+1:=by
 unfold Qcv
 split
 ·rw [QCT];omega
 rw [QCU];exact Qc2 _
theorem QCW {l:List (Int×Int)}{k v:Int}(h:Asc (l++[(k,v)])):Qcv ltI l k v=l++[(k,v)]:=by
 have hl:Asc l:=(List.pairwise_append.1 h).1
 refine Qyf (QzJ hl k v) h fun j=>?_
 rw [Qmb]
 have hk:∀p∈l,p.1<k:=fun p hp=>(List.pairwise_append.1 h).2.2 p hp (k,v) (by simp)
 clear h
 induction l with
 | nil=>
  show(if j=k then some v else none)=(if k=j then some v else none)
  by_cases c:j=k
  ·rw [if_pos c,if_pos c.symm]
  rw [if_neg c,if_neg (fun e=>c e.symm)]
 | cons p l ih=>
  obtain⟨a,x⟩:=p
  have h1:=hk (a,x) Qb9
  simp only at h1
  rw [List.cons_append,Qar,Qar]
  rw [<-ih (QfR.1 hl).2 fun p hp=>hk p (QcN _ hp)]
  by_cases c:j=k
  ·subst c;rw [if_pos rfl,if_pos rfl,if_neg (by omega)]
  rw [if_neg c,if_neg c]
section
variable {ρ:Type}{g:Int->Int->Int}{stop:Int->Bool}{q:Option ρ}{body:List (Int×Int)->Int×Int->Option (List (Int×Int)⊕ρ)}
def QA (s:List (Int×Int))(k:Int):Int:=(QV s k).getD 0
def Qve (g:Int->Int->Int)(s l:List (Int×Int))(k:Int):Option Int:=match QV l k with
 | some v=>some (g (QA s k) v)
 | none=>QV s k
theorem Qs6 (hb:∀s p,body s p=bif stop (g (QA s p.1) p.2)then q.map Sum.inr else some (.inl (Qcv ltI s p.1 (g (QA s p.1) p.2)))):
  ∀l s,Asc s->QnN l->((∃p∈l,stop (g (QA s p.1) p.2)=true)/\Qef body s l=q.map Sum.inr)\/
   ((∀p∈l,stop (g (QA s p.1) p.2)=false)/\∃s',Qef body s l=some (.inl s')/\Asc s'/\s'.length<=s.length+l.length/\∀k,QV s' k=Qve g s l k):=by
 intro l
 induction l with
 | nil=>intro s hs _;exact .inr ⟨fun p h=>(by cases h),s,rfl,hs,by simp,fun k=>rfl⟩
 | cons p l ih=>
  intro s hs hl
  obtain⟨h1,h2⟩:=QAu.1 hl
  simp only [Qef,hb]
  cases hst:stop (g (QA s p.1) p.2)with
  | true=>exact .inl ⟨⟨p,Qb9,hst⟩,by cases q<;>rfl⟩
  | false=>
   simp only [cond_false,Qn,Sum.elim_inl]
   have hc:∀r∈l,QA (Qcv ltI s p.1 (g (QA s p.1) p.2)) r.1=QA s r.1:=fun r hr=>by
    unfold QA
    rw [Qmb,if_neg (fun e=>h1 r hr e.symm)]
   rcases ih _ (QzJ hs p.1 (g (QA s p.1) p.2)) h2 with⟨⟨r,hr,h3⟩,h4⟩|⟨h3,s',h4,h5,h6,h7⟩
   ·exact .inl ⟨⟨r,QcN _ hr,by rw [hc r hr]at h3;exact h3⟩,h4⟩
   refine .inr ⟨fun r hr=>?_,s',h4,h5,?_,fun k=>?_⟩
   ·rcases Qbb.1 hr with rfl | hr
    ·exact hst
    have:=h3 r hr;rwa [hc r hr]at this
   ·have:=QCV (l:=s) (k:=p.1) (v:=g (QA s p.1) p.2)
    simp;omega
   rw [h7]
   obtain⟨a,x⟩:=p
   unfold Qve
   rw [Qar]
   by_cases e:a=k
   ·subst e
    rw [if_pos rfl,QlM.2 (fun r hr=>Ne.symm (h1 r hr)),Qmb,if_pos rfl]
   rw [if_neg e]
   simp only [QA,Qmb,if_neg (fun e'=>e (Eq.symm e'):¬k=a)]
theorem Qxq (hb:∀s p,body s p=bif stop (g (QA s p.1) p.2)then q.map Sum.inr else some (.inl (Qcv ltI s p.1 (g (QA s p.1) p.2)))){l s:List (Int×Int)}(hs:Asc s)(hl:QnN l):
  ((∃p∈l,stop (g (QA s p.1) p.2)=true)/\∀r,q=some r->Qk8 body s l=some (.inr r))\/
   ((∀p∈l,stop (g (QA s p.1) p.2)=false)/\∃s',Qk8 body s l=some (.inl s')/\Asc s'/\s'.length<=s.length+l.length/\∀k,QV s' k=Qve g s l k):=by
 have key:∀l':List (Int×Int),l'.Perm l->Qef body s l'=Qef body s l:=fun l' hp=>by
  have hl':QnN l':=(hp.pairwise_iff (fun hab=>Ne.symm hab)).2 hl
  rcases Qs6 hb l' s hs hl' with⟨⟨p,h1,h2⟩,h3⟩|⟨h1,s1,h3,h4,_,h5⟩
  ·rcases Qs6 hb l s hs hl with⟨_,g3⟩|⟨g1,_⟩
   ·rw [h3,g3]
   rw [g1 p (hp.mem_iff.1 h1)]at h2;cases h2
  rcases Qs6 hb l s hs hl with⟨⟨p,g1,g2⟩,g3⟩|⟨g1,s2,g3,g4,_,g5⟩
  ·rw [h1 p (hp.mem_iff.2 g1)]at g2;cases g2
  rw [h3,g3,Qyf h4 g4 fun k=>?_]
  rw [h5,g5]
  unfold Qve
  rw [QB1 hl' hp k]
 rcases Qs6 hb l s hs hl with⟨h1,h3⟩|⟨h1,s1,h3,h4,h6,h5⟩
 ·exact .inl ⟨h1,fun r hr=>Qms.2 ⟨key,by rw [h3,hr];rfl⟩⟩
 exact .inr ⟨h1,s1,Qms.2 ⟨key,h3⟩,h4,h6,h5⟩
end
theorem QBi {ρ:Type}{bad:Int×Int->Bool}{q:ρ}{body:Unit->Int×Int->Option (Unit⊕ρ)}(hb:∀p,body () p=some (bif bad p then .inr q else .inl ()))(l:List (Int×Int)):
  Qk8 body () l=some (bif l.any bad then .inr q else .inl ()):=by
 have h1:∀l:List (Int×Int),Qef body () l=some (bif l.any bad then .inr q else .inl ()):=by
  intro l
  induction l with
  | nil=>rfl
  | cons p l ih=>
   simp only [Qef,hb,Qn,List.any_cons]
   cases bad p with
   | true=>rfl
   | false=>exact ih
 refine Qms.2 ⟨fun l' hp=>?_,h1 l⟩
 rw [h1,h1]
 congr 2
 rw [Bool.eq_iff_iff,Qlt,Qlt]
 exact⟨fun ⟨x,a,b⟩=>⟨x,hp.mem_iff.1 a,b⟩,fun ⟨x,a,b⟩=>⟨x,hp.mem_iff.2 a,b⟩⟩
def rtF (a:Int):List (Int×Int)->Bool
 | []=>true
 | p::r=>!(decide (p.1<=a)||(decide (p.2<1)||decide (1048576<p.2)))&&rtF p.1 r
theorem QDm {a:Int}{l:List (Int×Int)}:rtF a l=true↔Asc l/\∀p∈l,a<p.1/\1<=p.2/\p.2<=1048576:=by
 induction l generalizing a with
 | nil=>simp [rtF,Asc]
 | cons p l ih=>
  rw [rtF,QB,ih,QfR]
  simp only [QeP,Qdf,QaT]
  constructor
  ·rintro ⟨⟨h1,h2,h3⟩,h4,h5⟩
   refine⟨⟨fun q hq=>(h5 q hq).1,h4⟩,fun q hq=>?_⟩
   rcases Qbb.1 hq with rfl | hq
   ·omega
   have:=h5 q hq;omega
  rintro ⟨⟨h1,h2⟩,h3⟩
  have:=h3 p Qb9
  exact⟨by omega,h2,fun q hq=>⟨h1 q hq,(h3 q (QcN _ hq)).2⟩⟩
def Rt (l:List (Int×Int)):Prop:=Asc l/\∀p∈l,0<=p.1/\1<=p.2/\p.2<=1048576
theorem Qa5 {l:List (Int×Int)}:rtF (-1) l=true↔Rt l:=by
 rw [QDm]
 constructor
 ·rintro ⟨h1,h2⟩;exact⟨h1,fun p hp=>by have:=h2 p hp;omega⟩
 rintro ⟨h1,h2⟩;exact⟨h1,fun p hp=>by have:=h2 p hp;omega⟩
theorem Rt.nil : Rt []:=⟨List.Pairwise.nil,fun p h=>by cases h⟩
theorem Qgo {l:List (Int×Int)}(h:QnN l){p:Int×Int}(hp:p∈l):QA l p.1=p.2:=by
 unfold QA;rw [(QbG h).2 (show(p.1,p.2)∈l from hp)];rfl
theorem Rt.cnt {l:List (Int×Int)}(h:Rt l)(k:Int):0<=QA l k/\QA l k<=1048576:=by
 unfold QA
 cases e:QV l k with
 | none=>simp
 | some v=>have:=h.2 _ ((QbG h.1.nd).1 e);simp at this ⊢;omega
theorem Rt.cnt_pos {l:List (Int×Int)}(h:Rt l){k:Int}(hk:0<QA l k):0<=k:=by
 unfold QA at hk
 cases e:QV l k with
 | none=>rw [e]at hk;simp at hk
 | some v=>exact(h.2 _ ((QbG h.1.nd).1 e)).1
theorem QB2 {l m:List (Int×Int)}(hl:Rt l)(hm:Rt m)(h:∀k,QA l k=QA m k):l=m:=by
 refine Qyf hl.1 hm.1 fun k=>?_
 have:=h k
 unfold QA at this
 cases e1:QV l k with
 | none=>
  cases e2:QV m k with
  | none=>rfl
  | some v=>have h3:=hm.2 _ ((QbG hm.1.nd).1 e2);rw [e1,e2]at this;simp at this h3;omega
 | some v=>
  have h3:=hl.2 _ ((QbG hl.1.nd).1 e1)
  cases e2:QV m k with
  | none=>rw [e1,e2]at this;simp at this h3;omega
  | some u=>rw [e1,e2]at this;simpa using this
def Qj9 (l:List (Int×Int)):List (Int×Int):=l.filter fun p=>decide (0<p.2)
theorem QzK {l:List (Int×Int)}(h:Asc l)(k:Int):QA (Qj9 l) k=if 0<QA l k then QA l k else 0:=by
 have hp:Asc (Qj9 l):=h.sublist List.filter_sublist
 by_cases c:0<QA l k
 ·rw [if_pos c]
  unfold QA at c
  cases e:QV l k with
  | none=>rw [e]at c;simp at c
  | some v=>
   rw [e]at c
   have h1:(k,v)∈Qj9 l:=Qo1.2 ⟨(QbG h.nd).1 e,by simpa using c⟩
   unfold QA
   rw [(QbG hp.nd).2 h1,e]
 rw [if_neg c]
 unfold QA
 cases e:QV (Qj9 l) k with
 | none=>rfl
 | some v=>
  have h1:=Qo1.1 ((QbG hp.nd).1 e)
  have h2:=(QbG h.nd).2 h1.1
  unfold QA at c
  rw [h2]at c
  simp at h1 c;omega
theorem QB3 {l:List (Int×Int)}(h:Asc l)(hb:∀k,0<QA l k->0<=k/\QA l k<=1048576):Rt (Qj9 l):=by
 refine⟨h.sublist List.filter_sublist,fun p hp=>?_⟩
 obtain⟨h1,h2⟩:=Qo1.1 hp
 have h3:=Qgo h.nd h1
 have h4:0<p.2:=Qai h2
 have:=hb p.1 (by omega)
 omega
theorem QB4 {l:List (Int×Int)}(h:Asc l):Qej (l.map Prod.fst)=l.map Prod.fst:=by
 rw [QsR]
 refine List.mergeSort_of_pairwise ?_
 rw [QqE]
 exact h.imp fun h=>by simp;omega
end Go.Vm
namespace Go.Vm
open Go Go.RowKit
def upL : Int->Nat->List Int
 | _,0=>[]
 | x,k+1=>x::upL (x+1) k
def binds : List Int->List (List Int)
 | []=>[[]]
 | s::r=>(0::upL 1 (s-1).toNat).flatMap fun x=>(binds r).map (x::·)
def inB : List Int->List Int->Prop
 | [],[]=>True
 | s::r,x::d=>0<=x/\(x=0\/x<s)/\inB r d
 | _,_=>False
theorem QDn {y x:Int}{k:Nat}:y∈upL x k↔x<=y/\y<x+k:=by
 induction k generalizing x with
 | zero=>
  simp only [upL,List.not_mem_nil,false_iff];omega
 | succ k ih=>simp only [upL,Qbb,ih];omega
theorem QB5 {l d:List Int}:d∈binds l↔inB l d:=by
 induction l generalizing d with
 | nil=>cases d<;>simp [binds,inB]
 | cons s r ih=>
  cases d with
  | nil=>simp [binds,inB]
  | cons x d=>
   simp only [binds,List.mem_flatMap,Qbb,QDn,QaN,List.cons.injEq,inB,<-ih]
   constructor
   ·rintro ⟨y,h1,e,h2,rfl,rfl⟩
    exact⟨by omega,by omega,h2⟩
   rintro ⟨h1,h2,h3⟩
   exact⟨x,by omega,d,h3,rfl,rfl⟩
section
variable {α:Type}
end
end Go.Vm
noncomputable section
namespace Go.Proofs
open Go Go.RowKit Go.Vm
inductive Qcz : Qh->Prop where
 | mk (e:Qh):e.Kids.length<=maxLen->(∀k∈e.Kids,Qcz k)->Qcz e
theorem QcH {e:Qh}(h:Qcz e):QI Qcz e.Kids:=by
 cases h with
 | mk _ h1 h2=>exact⟨h1,h2⟩
theorem Qn6 {e k:Qh}(h:k∈e.Kids):SizeOf.sizeOf k<SizeOf.sizeOf e:=by
 obtain⟨a,b,l⟩:=e
 have:=List.sizeOf_lt_of_mem h
 simp only [Qh.mk.sizeOf_spec]at *
 omega
theorem Qh.pos (e:Qh):0<SizeOf.sizeOf e:=by
 obtain⟨a,b,l⟩:=e
 simp only [Qh.mk.sizeOf_spec];omega
inductive POk (v:Int):Qh->Prop where
 | mk (e:Qh):(e.Kind=1\/e.Kind=2\/e.Kind=3\/e.Kind=4\/e.Kind=5\/e.Kind=6)->(e.Kind=2->0<=e.Num/\e.Num<v)->(e.Kind=3\/e.Kind=4->e.Kids.length=1)->(e.Kind=5->e.Kids.length=2)->(e.Kind=6->e.Kids.length=3)->(∀k∈e.Kids,POk v k)->POk v e
def Qa8 (x:QE):Prop:=QeZ x.Name/\True/\True/\True/\(QI QeZ) x.Names/\True/\True
def Qc0 (x:QY):Prop:=QeZ x.Name/\True/\(QI (fun _=>True)) x.First
def Qeu (x:Qat):Prop:=QeZ x.Name/\True
def Qiu (x:Qap):Prop:=True/\Qcz x.Expr
def QaG (x:QG):Prop:=QeZ x.Name/\(QI Qeu) x.Vars/\Qcz x.Guard/\True/\True/\(QI Qiu) x.Ins/\(QI Qiu) x.Outs/\(QI (fun _=>True)) x.Cancel/\True/\True
def QZ (x:Qq):Prop:=(QI Qa8) x.Colours/\(QI Qc0) x.Places/\(QI QaG) x.Tasks/\True/\True
def Qy1 (x:Qaw):Prop:=(QI Qa8) x.all/\(QI (fun _=>True)) x.sizes/\True
theorem Qxr (v1:Qq)(h_v1:QZ v1):Qi (Qlz v1) fun r=>True:=by
 unfold Qlz
 exact T3
theorem Qcu (l1:(List QY))(k2:Int)(h_l1:(QI Qc0) l1):Qi (QaM l1 k2) fun r=>r=true->0<=k2/\k2<l1.length:=by
 unfold QaM
 exact T2 (by first | (intro hr;first | (cases hr;done) | omega | ((try simp only [QB,QcM,Qdf,QeP,QhL,Q0,QaT,beq_iff_eq,bne_iff_ne,ne_eq,QiS,QqB,QiU,Qo0,Qkh,Qmg,QeR,Qkg,QkS,QkT,QkU]at *);omega)) | ((try simp only [QB,QcM,Qdf,QeP,QhL,Q0,QaT,beq_iff_eq,bne_iff_ne,ne_eq,QiS,QqB,QiU,Qo0,Qkh,Qmg,QeR,Qkg,QkS,QkT,QkU]at *);omega) | simp_all)
theorem Qxs (v1:Qq)(h_v1:QZ v1):Qi (QlA v1) fun r=>True:=by
 unfold QlA
 refine T0 (P:=fun _=>True) ?_ (fun x_1 hv2=>?_)
 ·unfold QpO
  refine T0 (Qcu v1.Places v1.From (h_v1.2.1)) (fun x_3 hv4=>?_)
  refine T1 (fun hc5=>?_) (fun hc5=>?_)
  ·refine T0 (Qcu v1.Places v1.To (h_v1.2.1)) (fun x_6 hv7=>?_)
   exact T3
  exact T3
 unfold QhW
 exact T3
theorem Qxt (v1:Qq)(h_v1:QZ v1):Qi (QlB v1) fun r=>True:=by
 unfold QlB
 exact T3
theorem Qxu (v1:Qq)(v2:Int)(v3:Int)(v4:Int)(h_v1:QZ v1):Qi (QlC v1 v2 v3 v4) fun r=>True:=by
 unfold QlC
 refine T0 (Qxr v1 (h_v1)) (fun x_1 hv2=>?_)
 refine T1 (fun hc3=>?_) (fun hc3=>?_)
 ·exact T3
 refine T0 (Qxs v1 (h_v1)) (fun x_4 hv5=>?_)
 refine T1 (fun hc6=>?_) (fun hc6=>?_)
 ·exact T3
 refine T0 (Qxt v1 (h_v1)) (fun x_7 hv8=>?_)
 refine T1 (fun hc9=>?_) (fun hc9=>?_)
 ·exact T3
 exact T3
theorem Qxv (lo1:Int)(hi2:Int)  : Qi (Qgg lo1 hi2) fun r=>True:=by
 unfold Qgg
 refine T1 (fun hc1=>?_) (fun hc1=>?_)
 ·exact T3
 exact T3
theorem QoV (c1:Int)  : Qi (QdT c1) fun r=>True:=by
 unfold QdT
 exact T3
theorem QgJ (s1:ByteArray)(h_s1:QeZ s1):Qi (Qdi s1) fun r=>True:=by
 unfold Qdi
 refine T0 (P:=fun _=>True) ?_ (fun x_1 hv2=>?_)
 ·unfold QhQ
  refine T1 (fun hc3=>?_) (fun hc3=>?_)
  ·exact T3
  have hshc3:=QB0 hc3
  refine T1 (fun hc4=>?_) (fun hc4=>?_)
  ·exact T3
  refine T0 (Qi.sidx (by omega) (by omega)) (fun c_5 hv6=>?_)
  refine T0 (QoV c_5 ) (fun x_7 hv8=>?_)
  exact T3
 unfold QfG
 refine T1 (fun hc9=>?_) (fun hc9=>?_)
 ·exact T3
 refine T0 (Qi.up (s1.size) (fun st=>st) (fun _=>True) (Q:=fun q=>True) rfl trivial (fun i11 st hi12 hn13 hj14=>?_)) (fun q15 hq16=>?_)
 ·obtain⟨x_10,hst⟩:∃y,y=st:=⟨_,rfl⟩
  subst hst
  replace hi12:x_10=(i11:Int):=hi12
  show Qi (Qdp s1 x_10) _
  unfold Qdp
  refine T1 (fun hc17=>?_) (fun hc17=>?_)
  ·refine T0 (Qi.sidx (by omega) (by simp_all)) (fun c_18 hv19=>?_)
   refine T0 (P:=fun _=>True) ?_ (fun x_20 hv21=>?_)
   ·unfold QlU
    refine T0 (QoV c_18 ) (fun x_22 hv23=>?_)
    refine T1 (fun hc24=>?_) (fun hc24=>?_)
    ·refine T1 (fun hc25=>?_) (fun hc25=>?_)
     ·exact T3
     refine T1 (fun hc26=>?_) (fun hc26=>?_)
     ·exact T3
     exact T3
    exact T3
   unfold QfF
   refine T1 (fun hc27=>?_) (fun hc27=>?_)
   ·exact T2 (Qw trivial)
   exact T2 (QR ⟨(by simp_all),by subst hi12;exact Qx (by simp_all) h_s1,trivial⟩)
  exact T2 (Qw trivial)
 rcases q15 with q15 | q15
 ·show Qi (QhR) _
  unfold QhR
  exact T3
 show Qi (QhS) _
 unfold QhS
 exact T3
theorem Qww (l1:(List ByteArray))(h_l1:(QI QeZ) l1):Qi (Qfs l1) fun r=>True:=by
 unfold Qfs
 refine T0 (Qi.up (l1.length) (fun st=>st.1) (fun _=>True) (Q:=fun q=>True) rfl trivial (fun i3 st hi4 hn5 hj6=>?_)) (fun q7 hq8=>?_)
 ·obtain⟨x_1,m_2⟩:=st
  replace hi4:x_1=(i3:Int):=hi4
  show Qi (Qch l1 x_1 m_2) _
  unfold Qch
  refine T1 (fun hc9=>?_) (fun hc9=>?_)
  ·refine T0 (T4 (by omega) (by simp_all)) (fun e_10 hv11=>?_)
   refine T0 (P:=fun _=>True) ?_ (fun x_12 hv13=>?_)
   ·unfold QkZ
    refine T0 (QgJ e_10 (((h_l1).2 e_10 hv11))) (fun x_14 hv15=>?_)
    refine T1 (fun hc16=>?_) (fun hc16=>?_)
    ·exact T3
    exact T3
   unfold Qe8
   refine T1 (fun hc17=>?_) (fun hc17=>?_)
   ·exact T2 (Qw trivial)
   exact T2 (QR ⟨(by simp_all),by subst hi4;exact Qx (by simp_all) (h_l1).1,trivial⟩)
  exact T2 (Qw trivial)
 rcases q7 with q7 | q7
 ·show Qi (Qg2) _
  unfold Qg2
  exact T3
 show Qi (Qg3) _
 unfold Qg3
 exact T3
theorem Qxw (c1:QE)(ahead2:(List Int))(h_c1:Qa8 c1)(h_ahead2:(QI (fun _=>True)) ahead2):Qi (Qgh c1 ahead2) fun r=>True:=by
 unfold Qgh
 refine T1 (fun hc1=>?_) (fun hc1=>?_)
 ·refine T0 (Qxv c1.Lo c1.Hi ) (fun x_2 hv3=>?_)
  exact T3
 refine T1 (fun hc4=>?_) (fun hc4=>?_)
 ·refine T0 (Qww c1.Names (h_c1.2.2.2.2.1)) (fun x_5 hv6=>?_)
  refine T1 (fun hc7=>?_) (fun hc7=>?_)
  ·exact T3
  unfold Qdq
  exact T3
 refine T1 (fun hc8=>?_) (fun hc8=>?_)
 ·refine T1 (fun hc9=>?_) (fun hc9=>?_)
  ·refine T0 (T4 (by(try simp only [QB,QcM,Qdf,QeP,QhL,Q0,QaT,beq_iff_eq,bne_iff_ne,ne_eq,QiS,QqB,QiU,Qo0,Qkh,Qmg,QeR,Qkg,QkS,QkT,QkU]at *);omega) (by(try simp only [QB,QcM,Qdf,QeP,QhL,Q0,QaT,beq_iff_eq,bne_iff_ne,ne_eq,QiS,QqB,QiU,Qo0,Qkh,Qmg,QeR,Qkg,QkS,QkT,QkU]at *);omega)) (fun e_10 hv11=>?_)
   refine T0 (T4 (by(try simp only [QB,QcM,Qdf,QeP,QhL,Q0,QaT,beq_iff_eq,bne_iff_ne,ne_eq,QiS,QqB,QiU,Qo0,Qkh,Qmg,QeR,Qkg,QkS,QkT,QkU]at *);omega) (by(try simp only [QB,QcM,Qdf,QeP,QhL,Q0,QaT,beq_iff_eq,bne_iff_ne,ne_eq,QiS,QqB,QiU,Qo0,Qkh,Qmg,QeR,Qkg,QkS,QkT,QkU]at *);omega)) (fun e_12 hv13=>?_)
   exact T3
  unfold Qdq
  exact T3
 unfold Qdq
 exact T3
theorem Qql (l1:(List QE))(h_l1:(QI Qa8) l1):Qi (Qew l1) fun r=>((QI (fun _=>True)) r.1/\True)/\(r.2=true->r.1.length=l1.length/\∀x∈r.1,1<=x/\x<=1024):=by
 unfold Qew
 refine T1 (fun hc=>T2 ⟨⟨QI.nil,trivial⟩,fun h=>by cases h⟩) (fun hc=>?_)
 have hl:l1.length<=32:=by simp only [QaT]at hc;omega
 refine T0 (Qi.up l1.length (fun st=>st.1) (fun st=>(st.2.2.length:Int)=st.1/\∀x∈st.2.2,1<=x/\x<=1024) (Q:=fun q=>∀l,q=.inr l->l.length=l1.length/\∀x∈l,1<=x/\x<=1024) rfl ⟨rfl,fun x h=>(by cases h)⟩ (fun i st hi hn hj=>?_)) (fun q hq=>?_)
 ·obtain⟨x,m,l⟩:=st
  replace hi:x=(i:Int):=hi
  replace hj:(l.length:Int)=x/\∀x∈l,1<=x/\x<=1024:=hj
  obtain⟨hj,hj2⟩:=hj
  show Qi (Qci l1 x m l) _
  unfold Qci
  refine T1 (fun hc2=>?_) (fun hc2=>?_)
  ·simp only [Q0]at hc2
   refine T0 (T4 (by omega) (by omega)) fun e he=>?_
   refine T0 (Qxw e l (h_l1.2 e he) ⟨by unfold maxLen;omega,fun _ _=>trivial⟩) fun y _=>?_
   refine T0 (P:=fun z=>z=false->1<=y/\y<=1024) ?_ fun z hz=>?_
   ·unfold Qk0
    refine T0 (QgJ e.Name (h_l1.2 e he).1) fun z _=>?_
    refine T1 (fun _=>T2 (fun h=>by cases h)) fun _=>T1 (fun _=>T2 (fun h=>by cases h)) fun _=>T1 (fun _=>T2 (fun h=>by cases h)) fun h1=>T2 fun h2=>?_
    simp only [QaT]at h1 h2
    omega
   unfold Qe9
   refine T1 (fun _=>T2 (Qw fun l h=>by cases h)) fun hz0=>?_
   refine T0 (T5 (by simp;omega)) fun _ _=>?_
   exact T2 (QR ⟨by omega,by subst hi;exact Qx (by omega) (by unfold maxLen;omega:l1.length<=maxLen),by simp only [QiU,Qo0];subst hi;rw [Qx (show i<l1.length by omega) (by unfold maxLen;omega)];omega,fun u hu=>by
    rcases Qei.1 hu with hu | hu
    ·exact hj2 u hu
    simp at hu;subst hu;exact hz hz0⟩)
  simp only [QaT]at hc2
  exact T2 (Qw fun l' h=>by cases h;exact⟨by omega,hj2⟩)
 rcases q with q | q
 ·exact T2 ⟨⟨QI.nil,trivial⟩,fun h=>by cases h⟩
 have:=hq q rfl
 exact T2 ⟨⟨⟨by show q.length<=maxLen;unfold maxLen;omega,fun _ _=>trivial⟩,trivial⟩,fun _=>this⟩
theorem Qwx (l1:(List QE))(h_l1:(QI Qa8) l1):Qi (QkB l1) fun r=>True:=by
 unfold QkB
 refine T0 (Qql l1 (h_l1)) (fun x_1 hv2=>?_)
 exact T3
theorem Qsh (v1:Qq)(v2:Int)(h_v1:QZ v1)(hp0:0<=v2)(hp1:v2<v1.Colours.length):Qi (QfV v1 v2) fun r=>True:=by
 have hl:=h_v1.1.1
 unfold maxLen at hl
 unfold QfV
 rw [QaK (show -9223372036854775808<=v2+1/\v2+1<=9223372036854775807 by omega)]
 refine T0 (T5 (by simp only [QB,Q0];omega)) fun _ _=>?_
 exact T0 (Qwx _ ((h_v1.1.drop _).take _)) fun x _=>T3
def Qxx : List ByteArray:=(Qip).getD []
set_option maxRecDepth 100000 in
theorem QCX : Qip=some Qxx:=by kernel_rfl
set_option maxRecDepth 100000 in
theorem QAo : (decide (Qxx.length<=1000)&&Qxx.all fun s=>decide (s.size<=1000))=true:=by kernel_rfl
theorem Qxy : Qi (Qip) fun r=>QI QeZ r:=by
 have h:=QAo
 rw [QB,decide_eq_true_iff,Q9]at h
 refine⟨Qxx,QCX,by unfold maxLen;omega,fun x hx=>?_⟩
 have:=h.2 x hx
 rw [decide_eq_true_iff]at this
 unfold QeZ maxLen;omega
theorem Qm3 (s1:(List ByteArray))(v2:ByteArray)(h_s1:(QI QeZ) s1)(h_v2:QeZ v2):Qi (QcT s1 v2) fun r=>True:=by
 unfold QcT
 refine T0 (Qi.up (s1.length) (fun st=>st) (fun _=>True) (Q:=fun q=>True) rfl trivial (fun i2 st hi3 hn4 hj5=>?_)) (fun q6 hq7=>?_)
 ·obtain⟨x_1,hst⟩:∃y,y=st:=⟨_,rfl⟩
  subst hst
  replace hi3:x_1=(i2:Int):=hi3
  show Qi (Qca s1 v2 x_1) _
  unfold Qca
  refine T1 (fun hc8=>?_) (fun hc8=>?_)
  ·refine T0 (T4 (by omega) (by simp_all)) (fun e_9 hv10=>?_)
   refine T1 (fun hc11=>?_) (fun hc11=>?_)
   ·exact T2 (Qw trivial)
   exact T2 (QR ⟨(by simp_all),by subst hi3;exact Qx (by simp_all) (h_s1).1,trivial⟩)
  exact T2 (Qw trivial)
 rcases q6 with q6 | q6
 ·show Qi (Qcb q6) _
  unfold Qcb
  exact T3
 show Qi (Qcc) _
 unfold Qcc
 exact T3
theorem Qlr (s1:(List ByteArray))(v2:ByteArray)(h_s1:(QI QeZ) s1)(h_v2:QeZ v2):Qi (Qcd s1 v2) fun r=>True:=by
 unfold Qcd
 refine T0 (Qm3 s1 v2 (h_s1) (h_v2)) (fun x_1 hv2=>?_)
 exact T3
theorem Qyg (s1:ByteArray)(h_s1:QeZ s1):Qi (QmS s1) fun r=>True:=by
 unfold QmS
 refine T0 (Qxy  ) (fun x_1 hv2=>?_)
 refine T0 (Qlr x_1 s1 (hv2) (h_s1)) (fun x_3 hv4=>?_)
 exact T3
theorem QhC (s1:ByteArray)(h_s1:QeZ s1):Qi (QeN s1) fun r=>True:=by
 unfold QeN
 refine T0 (P:=fun _=>True) ?_ (fun x_1 hv2=>?_)
 ·unfold Qq0
  refine T0 (QgJ s1 (h_s1)) (fun x_3 hv4=>?_)
  refine T1 (fun hc5=>?_) (fun hc5=>?_)
  ·refine T0 (Qyg s1 (h_s1)) (fun x_6 hv7=>?_)
   exact T3
  exact T3
 unfold Qjd
 exact T3
theorem Qqu (s1:ByteArray)(h_s1:QeZ s1):Qi (QeS s1) fun r=>True:=by
 unfold QeS
 refine T0 (QhC s1 (h_s1)) (fun x_1 hv2=>?_)
 exact T3
theorem Qk6 (s1:(List ByteArray))(h_s1:(QI QeZ) s1):Qi (Qb4 s1) fun r=>True:=by
 unfold Qb4
 refine T0 (Qi.up (s1.length) (fun st=>st) (fun _=>True) (Q:=fun q=>True) rfl trivial (fun i2 st hi3 hn4 hj5=>?_)) (fun q6 hq7=>?_)
 ·obtain⟨x_1,hst⟩:∃y,y=st:=⟨_,rfl⟩
  subst hst
  replace hi3:x_1=(i2:Int):=hi3
  show Qi (Qbs s1 x_1) _
  unfold Qbs
  refine T1 (fun hc8=>?_) (fun hc8=>?_)
  ·refine T0 (T4 (by omega) (by simp_all)) (fun e_9 hv10=>?_)
   refine T0 (Qqu e_9 (((h_s1).2 e_9 hv10))) (fun x_11 hv12=>?_)
   refine T1 (fun hc13=>?_) (fun hc13=>?_)
   ·exact T2 (Qw trivial)
   exact T2 (QR ⟨(by simp_all),by subst hi3;exact Qx (by simp_all) (h_s1).1,trivial⟩)
  exact T2 (Qw trivial)
 rcases q6 with q6 | q6
 ·show Qi (Qbt q6) _
  unfold Qbt
  exact T3
 show Qi (Qbu) _
 unfold Qbu
 exact T3
theorem QjE (s1:(List ByteArray))(h_s1:(QI QeZ) s1):Qi (Qbv s1) fun r=>True:=by
 unfold Qbv
 refine T0 (Qk6 s1 (h_s1)) (fun x_1 hv2=>?_)
 exact T3
theorem Qsi (v1:QE)(h_v1:Qa8 v1):Qi (QfW v1) fun r=>True:=by
 unfold QfW
 refine T0 (P:=fun _=>True) ?_ (fun x_1 hv2=>?_)
 ·unfold Qlo
  refine T0 (QhC v1.Name (h_v1.1)) (fun x_3 hv4=>?_)
  refine T1 (fun hc5=>?_) (fun hc5=>?_)
  ·refine T1 (fun hc6=>?_) (fun hc6=>?_)
   ·exact T3
   refine T0 (QjE v1.Names (h_v1.2.2.2.2.1)) (fun x_7 hv8=>?_)
   exact T3
  exact T3
 unfold QeG
 exact T3
theorem QuF (v1:Qq)(v2:Int)(v3:Int)(v4:QE)(v5:Int)(h_v1:QZ v1)(h_v4:Qa8 v4)(hp0:0<=v2)(hp1:v2<v1.Colours.length):Qi (QhX v1 v2 v3 v4 v5) fun r=>True:=by
 unfold QhX
 refine T0 (Qsh v1 v2 (h_v1) (by omega) (by omega)) (fun x_1 hv2=>?_)
 refine T1 (fun hc3=>?_) (fun hc3=>?_)
 ·exact T3
 refine T0 (Qsi v4 (h_v4)) (fun x_4 hv5=>?_)
 refine T1 (fun hc6=>?_) (fun hc6=>?_)
 ·exact T3
 exact T3
theorem QtU (k1:Int)(c2:QE)(v3:Qq)(h_c2:Qa8 c2)(h_v3:QZ v3)(hp0:0<=k1)(hp1:k1<v3.Colours.length):Qi (Qg5 k1 c2 v3) fun r=>True:=by
 unfold Qg5
 refine T0 (QuF v3 k1 8 c2 8 (h_v3) (h_c2) (by omega) (by omega)) (fun x_1 hv2=>?_)
 exact T3
theorem Qph (l1:(List QE))(v2:Qq)(h_l1:(QI Qa8) l1)(h_v2:QZ v2)(hp0:l1.length<=v2.Colours.length):Qi (Qek l1 v2) fun r=>True:=by
 unfold Qek
 refine T0 (Qi.up (l1.length) (fun st=>st) (fun _=>True) (Q:=fun q=>True) rfl trivial (fun i2 st hi3 hn4 hj5=>?_)) (fun q6 hq7=>?_)
 ·obtain⟨x_1,hst⟩:∃y,y=st:=⟨_,rfl⟩
  subst hst
  replace hi3:x_1=(i2:Int):=hi3
  show Qi (Qdl l1 v2 x_1) _
  unfold Qdl
  refine T1 (fun hc8=>?_) (fun hc8=>?_)
  ·refine T0 (T4 (by omega) (by simp_all)) (fun e_9 hv10=>?_)
   refine T0 (QtU x_1 e_9 v2 (((h_l1).2 e_9 hv10)) (h_v2) (by omega) (by simp_all;omega)) (fun x_11 hv12=>?_)
   refine T1 (fun hc13=>?_) (fun hc13=>?_)
   ·exact T2 (Qw trivial)
   exact T2 (QR ⟨(by simp_all),by subst hi3;exact Qx (by simp_all) (h_l1).1,trivial⟩)
  exact T2 (Qw trivial)
 rcases q6 with q6 | q6
 ·show Qi (Qdm q6.1 q6.2) _
  unfold Qdm
  exact T3
 show Qi (Qdn) _
 unfold Qdn
 exact T3
theorem QoW (n1:Qq)(h_n1:QZ n1):Qi (Qgy n1) fun r=>True:=by
 unfold Qgy
 refine T0 (Qph n1.Colours n1 (h_n1.1) (h_n1) (by omega)) (fun x_1 hv2=>?_)
 exact T3
theorem QvB (v1:QY)(h_v1:Qc0 v1):Qi (Qje v1) fun r=>True:=by
 unfold Qje
 refine T0 (QhC v1.Name (h_v1.1)) (fun x_1 hv2=>?_)
 exact T3
theorem QvC (p1:QY)(v2:QY)(h_p1:Qc0 p1)(h_v2:Qc0 v2):Qi (Qjf p1 v2) fun r=>True:=by
 unfold Qjf
 exact T3
theorem Qij (s1:(List QY))(v2:QY)(h_s1:(QI Qc0) s1)(h_v2:Qc0 v2):Qi (Qa7 s1 v2) fun r=>True:=by
 unfold Qa7
 refine T0 (Qi.up (s1.length) (fun st=>st) (fun _=>True) (Q:=fun q=>True) rfl trivial (fun i2 st hi3 hn4 hj5=>?_)) (fun q6 hq7=>?_)
 ·obtain⟨x_1,hst⟩:∃y,y=st:=⟨_,rfl⟩
  subst hst
  replace hi3:x_1=(i2:Int):=hi3
  show Qi (QaO s1 v2 x_1) _
  unfold QaO
  refine T1 (fun hc8=>?_) (fun hc8=>?_)
  ·refine T0 (T4 (by omega) (by simp_all)) (fun e_9 hv10=>?_)
   refine T0 (QvC e_9 v2 (((h_s1).2 e_9 hv10)) (h_v2)) (fun x_11 hv12=>?_)
   refine T1 (fun hc13=>?_) (fun hc13=>?_)
   ·exact T2 (Qw trivial)
   exact T2 (QR ⟨(by simp_all),by subst hi3;exact Qx (by simp_all) (h_s1).1,trivial⟩)
  exact T2 (Qw trivial)
 rcases q6 with q6 | q6
 ·show Qi (QaP q6) _
  unfold QaP
  exact T3
 show Qi (QaQ) _
 unfold QaQ
 exact T3
theorem QgX (s1:(List QY))(v2:QY)(h_s1:(QI Qc0) s1)(h_v2:Qc0 v2):Qi (QaR s1 v2) fun r=>True:=by
 unfold QaR
 refine T0 (Qij s1 v2 (h_s1) (h_v2)) (fun x_1 hv2=>?_)
 exact T3
theorem QvD (v1:Qq)(v2:Int)(v3:QY)(h_v1:QZ v1)(h_v3:Qc0 v3)(hp0:0<=v2)(hp1:v2<v1.Places.length):Qi (Qjg v1 v2 v3) fun r=>True:=by
 unfold Qjg
 refine T0 (T5 (by simp_all;omega)) (fun _ _=>?_)
 refine T0 (QgX ((v1.Places.drop 0).take (v2.toNat-0)) v3 (((h_v1.2.1).drop _).take _) (h_v3)) (fun x_1 hv2=>?_)
 exact T3
theorem Qiv (l1:(List QE))(k2:Int)(h_l1:(QI Qa8) l1):Qi (QcE l1 k2) fun r=>True:=by
 unfold QcE
 exact T3
theorem QvE (v1:Qq)(v2:QY)(h_v1:QZ v1)(h_v2:Qc0 v2):Qi (Qjh v1 v2) fun r=>True:=by
 unfold Qjh
 refine T0 (Qiv v1.Colours v2.Colour (h_v1.1)) (fun x_1 hv2=>?_)
 exact T3
theorem Qy2 (b1:(List (Int×Int)))(h_b1:(QI (fun _=>True)) b1):Qi (QdM b1) fun r=>True:=by
 unfold QdM
 refine T0 (Qi.up (b1.length) (fun st=>st.2) (fun _=>True) (Q:=fun q=>True) rfl trivial (fun i3 st hi4 hn5 hj6=>?_)) (fun q7 hq8=>?_)
 ·obtain⟨last_1,x_2⟩:=st
  replace hi4:x_2=(i3:Int):=hi4
  show Qi (QcR b1 last_1 x_2) _
  unfold QcR
  refine T1 (fun hc9=>?_) (fun hc9=>?_)
  ·refine T0 (T4 (by omega) (by simp_all)) (fun e_10 hv11=>?_)
   refine T1 (fun hc12=>?_) (fun hc12=>?_)
   ·exact T2 (Qw trivial)
   exact T2 (QR ⟨(by simp_all),by subst hi4;exact Qx (by simp_all) (h_b1).1,trivial⟩)
  exact T2 (Qw trivial)
 rcases q7 with q7 | q7
 ·show Qi (Qks) _
  unfold Qks
  exact T3
 show Qi (Qkt) _
 unfold Qkt
 exact T3
theorem QvF (v1:QY)(h_v1:Qc0 v1):Qi (Qji v1) fun r=>True:=by
 unfold Qji
 refine T0 (Qy2 v1.First (h_v1.2.2)) (fun x_1 hv2=>?_)
 exact T3
theorem Qiw (l1:(List QE))(k2:Int)(h_l1:(QI Qa8) l1):Qi (Qc7 l1 k2) fun r=>(True/\Qy1 r.2)/\(r.1=true->(0<=k2/\k2<r.2.sizes.length)/\r.2.k=k2/\r.2.all.length=r.2.sizes.length/\∀x∈r.2.sizes,1<=x/\x<=1024):=by
 unfold Qc7
 refine T0 (Qql l1 h_l1) fun x hx=>?_
 refine T1 (fun _=>T2 ⟨⟨trivial,QI.nil,QI.nil,trivial⟩,fun h=>by cases h⟩) fun hc=>?_
 simp only [Qdf,QhL,QaT]at hc
 have:=hx.2 hc.1
 exact T2 ⟨⟨trivial,h_l1,hx.1.1,trivial⟩,fun _=>⟨⟨by omega,by show k2<(x.1.length:Int);omega⟩,rfl,this.1.symm,this.2⟩⟩
theorem Qm4 (l1:(List QE))(k2:Int)(h_l1:(QI Qa8) l1):Qi (QaU l1 k2) fun r=>0<=r/\r<=1024:=by
 unfold QaU
 refine T0 (Qiw l1 k2 h_l1) (fun x hx=>?_)
 refine T1 (fun hc=>T2 (by omega)) (fun hc=>?_)
 have h:=hx.2 (by simpa using hc)
 exact T0 (T4 (by omega) (by omega)) fun e he=>T2 (by have:=h.2.2.2 e he;omega)
theorem QtV (row1:(Int×Int))(v2:Int)  : Qi (Qg6 row1 v2) fun r=>True:=by
 unfold Qg6
 exact T3
theorem Qk7 (s1:(List (Int×Int)))(v2:Int)(h_s1:(QI (fun _=>True)) s1):Qi (Qb5 s1 v2) fun r=>True:=by
 unfold Qb5
 refine T0 (Qi.up (s1.length) (fun st=>st) (fun _=>True) (Q:=fun q=>True) rfl trivial (fun i2 st hi3 hn4 hj5=>?_)) (fun q6 hq7=>?_)
 ·obtain⟨x_1,hst⟩:∃y,y=st:=⟨_,rfl⟩
  subst hst
  replace hi3:x_1=(i2:Int):=hi3
  show Qi (Qbw s1 v2 x_1) _
  unfold Qbw
  refine T1 (fun hc8=>?_) (fun hc8=>?_)
  ·refine T0 (T4 (by omega) (by simp_all)) (fun e_9 hv10=>?_)
   refine T0 (QtV e_9 v2 ) (fun x_11 hv12=>?_)
   refine T1 (fun hc13=>?_) (fun hc13=>?_)
   ·exact T2 (Qw trivial)
   exact T2 (QR ⟨(by simp_all),by subst hi3;exact Qx (by simp_all) (h_s1).1,trivial⟩)
  exact T2 (Qw trivial)
 rcases q6 with q6 | q6
 ·show Qi (Qbx q6) _
  unfold Qbx
  exact T3
 show Qi (Qby) _
 unfold Qby
 exact T3
theorem QjF (s1:(List (Int×Int)))(v2:Int)(h_s1:(QI (fun _=>True)) s1):Qi (Qbz s1 v2) fun r=>True:=by
 unfold Qbz
 refine T0 (Qk7 s1 v2 (h_s1)) (fun x_1 hv2=>?_)
 exact T3
theorem QvG (v1:Qq)(v2:QY)(h_v1:QZ v1)(h_v2:Qc0 v2):Qi (Qjj v1 v2) fun r=>True:=by
 unfold Qjj
 refine T0 (Qm4 v1.Colours v2.Colour (h_v1.1)) (fun x_1 hv2=>?_)
 refine T0 (QjF v2.First x_1 (h_v2.2.2)) (fun x_3 hv4=>?_)
 exact T3
theorem QuG (v1:QY)(v2:Int)(v3:Qq)(v4:Int)(v5:Int)(v6:Int)(v7:Int)(v8:Int)(h_v1:Qc0 v1)(h_v3:QZ v3)(hp0:0<=v4)(hp1:v4<v3.Places.length):Qi (QhY v1 v2 v3 v4 v5 v6 v7 v8) fun r=>True:=by
 unfold QhY
 refine T0 (QvB v1 (h_v1)) (fun x_1 hv2=>?_)
 refine T1 (fun hc3=>?_) (fun hc3=>?_)
 ·exact T3
 refine T0 (QvD v3 v4 v1 (h_v3) (h_v1) (by omega) (by omega)) (fun x_4 hv5=>?_)
 refine T1 (fun hc6=>?_) (fun hc6=>?_)
 ·exact T3
 refine T0 (QvE v3 v1 (h_v3) (h_v1)) (fun x_7 hv8=>?_)
 refine T1 (fun hc9=>?_) (fun hc9=>?_)
 ·exact T3
 refine T0 (QvF v1 (h_v1)) (fun x_10 hv11=>?_)
 refine T1 (fun hc12=>?_) (fun hc12=>?_)
 ·exact T3
 refine T0 (QvG v3 v1 (h_v3) (h_v1)) (fun x_13 hv14=>?_)
 refine T1 (fun hc15=>?_) (fun hc15=>?_)
 ·exact T3
 exact T3
theorem Qxz (n1:Qq)(k2:Int)(h_n1:QZ n1):Qi (QlD n1 k2) fun r=>True:=by
 unfold QlD
 refine T0 (Qcu n1.Places k2 (h_n1.2.1)) (fun x_1 hv2=>?_)
 refine T1 (fun hc3=>?_) (fun hc3=>?_)
 ·exact T3
 refine T0 (T4 (by simp_all) (by simp_all)) (fun e_4 hv5=>?_)
 refine T0 (QuG e_4 1 n1 k2 5 3 1 8 (((h_n1.2.1).2 e_4 hv5)) (h_n1) (by simp_all) (by simp_all)) (fun x_6 hv7=>?_)
 exact T3
theorem QxA (k1:Int)(p2:QY)(v3:Qq)(h_p2:Qc0 p2)(h_v3:QZ v3):Qi (QlE k1 p2 v3) fun r=>True:=by
 unfold QlE
 refine T0 (Qxz v3 k1 (h_v3)) (fun x_1 hv2=>?_)
 exact T3
theorem Qqm (l1:(List QY))(v2:Qq)(h_l1:(QI Qc0) l1)(h_v2:QZ v2):Qi (QeH l1 v2) fun r=>True:=by
 unfold QeH
 refine T0 (Qi.up (l1.length) (fun st=>st) (fun _=>True) (Q:=fun q=>True) rfl trivial (fun i2 st hi3 hn4 hj5=>?_)) (fun q6 hq7=>?_)
 ·obtain⟨x_1,hst⟩:∃y,y=st:=⟨_,rfl⟩
  subst hst
  replace hi3:x_1=(i2:Int):=hi3
  show Qi (QdH l1 v2 x_1) _
  unfold QdH
  refine T1 (fun hc8=>?_) (fun hc8=>?_)
  ·refine T0 (T4 (by omega) (by simp_all)) (fun e_9 hv10=>?_)
   refine T0 (QxA x_1 e_9 v2 (((h_l1).2 e_9 hv10)) (h_v2)) (fun x_11 hv12=>?_)
   refine T1 (fun hc13=>?_) (fun hc13=>?_)
   ·exact T2 (Qw trivial)
   exact T2 (QR ⟨(by simp_all),by subst hi3;exact Qx (by simp_all) (h_l1).1,trivial⟩)
  exact T2 (Qw trivial)
 rcases q6 with q6 | q6
 ·show Qi (QdI q6.1 q6.2) _
  unfold QdI
  exact T3
 show Qi (QdJ) _
 unfold QdJ
 exact T3
theorem Qka (l1:(List QG))(k2:Int)(h_l1:(QI QaG) l1):Qi (Qdd l1 k2) fun r=>r=true->0<=k2/\k2<l1.length:=by
 unfold Qdd
 exact T2 (by first | (intro hr;first | (cases hr;done) | omega | ((try simp only [QB,QcM,Qdf,QeP,QhL,Q0,QaT,beq_iff_eq,bne_iff_ne,ne_eq,QiS,QqB,QiU,Qo0,Qkh,Qmg,QeR,Qkg,QkS,QkT,QkU]at *);omega)) | ((try simp only [QB,QcM,Qdf,QeP,QhL,Q0,QaT,beq_iff_eq,bne_iff_ne,ne_eq,QiS,QqB,QiU,Qo0,Qkh,Qmg,QeR,Qkg,QkS,QkT,QkU]at *);omega) | simp_all)
theorem QxB (v1:Int)(v2:Qq)(v3:QG)(h_v2:QZ v2)(h_v3:QaG v3):Qi (QlF v1 v2 v3) fun r=>True:=by
 unfold QlF
 exact T3
theorem QuH (v1:Int)(v2:Qq)(v3:QG)(v4:Int)(h_v2:QZ v2)(h_v3:QaG v3):Qi (QhZ v1 v2 v3 v4) fun r=>True:=by
 unfold QhZ
 exact T3
theorem QuI (v1:Int)(v2:Qq)(v3:QG)(v4:Int)(h_v2:QZ v2)(h_v3:QaG v3):Qi (Qh0 v1 v2 v3 v4) fun r=>True:=by
 unfold Qh0
 exact T3
theorem QuJ (v1:Int)(v2:Qq)(v3:QG)(h_v2:QZ v2)(h_v3:QaG v3):Qi (Qh1 v1 v2 v3) fun r=>True:=by
 unfold Qh1
 exact T3
theorem Qwy (v1:QG)(h_v1:QaG v1):Qi (QkE v1) fun r=>True:=by
 unfold QkE
 refine T0 (QhC v1.Name (h_v1.1)) (fun x_1 hv2=>?_)
 exact T3
theorem Qwz (p1:QG)(v2:QG)(h_p1:QaG p1)(h_v2:QaG v2):Qi (QkF p1 v2) fun r=>True:=by
 unfold QkF
 exact T3
theorem QiR (s1:(List QG))(v2:QG)(h_s1:(QI QaG) s1)(h_v2:QaG v2):Qi (Qbo s1 v2) fun r=>True:=by
 unfold Qbo
 refine T0 (Qi.up (s1.length) (fun st=>st) (fun _=>True) (Q:=fun q=>True) rfl trivial (fun i2 st hi3 hn4 hj5=>?_)) (fun q6 hq7=>?_)
 ·obtain⟨x_1,hst⟩:∃y,y=st:=⟨_,rfl⟩
  subst hst
  replace hi3:x_1=(i2:Int):=hi3
  show Qi (QaV s1 v2 x_1) _
  unfold QaV
  refine T1 (fun hc8=>?_) (fun hc8=>?_)
  ·refine T0 (T4 (by omega) (by simp_all)) (fun e_9 hv10=>?_)
   refine T0 (Qwz e_9 v2 (((h_s1).2 e_9 hv10)) (h_v2)) (fun x_11 hv12=>?_)
   refine T1 (fun hc13=>?_) (fun hc13=>?_)
   ·exact T2 (Qw trivial)
   exact T2 (QR ⟨(by simp_all),by subst hi3;exact Qx (by simp_all) (h_s1).1,trivial⟩)
  exact T2 (Qw trivial)
 rcases q6 with q6 | q6
 ·show Qi (QaW q6) _
  unfold QaW
  exact T3
 show Qi (QaX) _
 unfold QaX
 exact T3
theorem QhF (s1:(List QG))(v2:QG)(h_s1:(QI QaG) s1)(h_v2:QaG v2):Qi (QaY s1 v2) fun r=>True:=by
 unfold QaY
 refine T0 (QiR s1 v2 (h_s1) (h_v2)) (fun x_1 hv2=>?_)
 exact T3
theorem QwA (v1:Qq)(v2:Int)(v3:QG)(h_v1:QZ v1)(h_v3:QaG v3)(hp0:0<=v2)(hp1:v2<v1.Tasks.length):Qi (QkG v1 v2 v3) fun r=>True:=by
 unfold QkG
 refine T0 (T5 (by simp_all;omega)) (fun _ _=>?_)
 refine T0 (QhF ((v1.Tasks.drop 0).take (v2.toNat-0)) v3 (((h_v1.2.2.1).drop _).take _) (h_v3)) (fun x_1 hv2=>?_)
 exact T3
theorem QwB (v1:Int)(v2:QG)(h_v2:QaG v2):Qi (Qht v1 v2) fun r=>True:=by
 unfold Qht
 exact T3
theorem Qqv (v1:Qat)(h_v1:Qeu v1):Qi (QeT v1) fun r=>True:=by
 unfold QeT
 refine T0 (QhC v1.Name (h_v1.1)) (fun x_1 hv2=>?_)
 exact T3
theorem Qqw (p1:Qat)(v2:Qat)(h_p1:Qeu p1)(h_v2:Qeu v2):Qi (QeU p1 v2) fun r=>True:=by
 unfold QeU
 exact T3
theorem Qkb (s1:(List Qat))(v2:Qat)(h_s1:(QI Qeu) s1)(h_v2:Qeu v2):Qi (QbL s1 v2) fun r=>True:=by
 unfold QbL
 refine T0 (Qi.up (s1.length) (fun st=>st) (fun _=>True) (Q:=fun q=>True) rfl trivial (fun i2 st hi3 hn4 hj5=>?_)) (fun q6 hq7=>?_)
 ·obtain⟨x_1,hst⟩:∃y,y=st:=⟨_,rfl⟩
  subst hst
  replace hi3:x_1=(i2:Int):=hi3
  show Qi (Qbc s1 v2 x_1) _
  unfold Qbc
  refine T1 (fun hc8=>?_) (fun hc8=>?_)
  ·refine T0 (T4 (by omega) (by simp_all)) (fun e_9 hv10=>?_)
   refine T0 (Qqw e_9 v2 (((h_s1).2 e_9 hv10)) (h_v2)) (fun x_11 hv12=>?_)
   refine T1 (fun hc13=>?_) (fun hc13=>?_)
   ·exact T2 (Qw trivial)
   exact T2 (QR ⟨(by simp_all),by subst hi3;exact Qx (by simp_all) (h_s1).1,trivial⟩)
  exact T2 (Qw trivial)
 rcases q6 with q6 | q6
 ·show Qi (Qbd q6) _
  unfold Qbd
  exact T3
 show Qi (Qbe) _
 unfold Qbe
 exact T3
theorem Qix (s1:(List Qat))(v2:Qat)(h_s1:(QI Qeu) s1)(h_v2:Qeu v2):Qi (Qbf s1 v2) fun r=>True:=by
 unfold Qbf
 refine T0 (Qkb s1 v2 (h_s1) (h_v2)) (fun x_1 hv2=>?_)
 exact T3
theorem Qqx (v1:(List Qat))(v2:Int)(v3:Qat)(h_v1:(QI Qeu) v1)(h_v3:Qeu v3)(hp0:0<=v2)(hp1:v2<v1.length):Qi (QeV v1 v2 v3) fun r=>True:=by
 unfold QeV
 refine T0 (T5 (by simp_all;omega)) (fun _ _=>?_)
 refine T0 (Qix ((v1.drop 0).take (v2.toNat-0)) v3 (((h_v1).drop _).take _) (h_v3)) (fun x_1 hv2=>?_)
 exact T3
theorem Qqy (v1:Qq)(v2:Qat)(h_v1:QZ v1)(h_v2:Qeu v2):Qi (QeW v1 v2) fun r=>True:=by
 unfold QeW
 refine T0 (Qiv v1.Colours v2.Colour (h_v1.1)) (fun x_1 hv2=>?_)
 exact T3
theorem QuK (v1:Qat)(v2:Int)(v3:(List Qat))(v4:Int)(v5:Int)(v6:Qq)(v7:Int)(h_v1:Qeu v1)(h_v3:(QI Qeu) v3)(h_v6:QZ v6)(hp0:0<=v4)(hp1:v4<v3.length):Qi (Qh3 v1 v2 v3 v4 v5 v6 v7) fun r=>True:=by
 unfold Qh3
 refine T0 (Qqv v1 (h_v1)) (fun x_1 hv2=>?_)
 refine T1 (fun hc3=>?_) (fun hc3=>?_)
 ·exact T3
 refine T0 (Qqx v3 v4 v1 (h_v3) (h_v1) (by omega) (by omega)) (fun x_4 hv5=>?_)
 refine T1 (fun hc6=>?_) (fun hc6=>?_)
 ·exact T3
 refine T0 (Qqy v6 v1 (h_v6) (h_v1)) (fun x_7 hv8=>?_)
 refine T1 (fun hc9=>?_) (fun hc9=>?_)
 ·exact T3
 exact T3
theorem Qsj (k1:Int)(v2:Qat)(v3:(List Qat))(v4:Qq)(h_v2:Qeu v2)(h_v3:(QI Qeu) v3)(h_v4:QZ v4)(hp0:0<=k1)(hp1:k1<v3.length):Qi (QfX k1 v2 v3 v4) fun r=>True:=by
 unfold QfX
 refine T0 (QuK v2 1 v3 k1 5 v4 3 (h_v2) (h_v3) (h_v4) (by omega) (by omega)) (fun x_1 hv2=>?_)
 exact T3
theorem QrL (l1:(List Qat))(v2:(List Qat))(v3:Qq)(h_l1:(QI Qeu) l1)(h_v2:(QI Qeu) v2)(h_v3:QZ v3)(hp0:l1.length<=v2.length):Qi (Qfl l1 v2 v3) fun r=>True:=by
 unfold Qfl
 refine T0 (Qi.up (l1.length) (fun st=>st) (fun _=>True) (Q:=fun q=>True) rfl trivial (fun i2 st hi3 hn4 hj5=>?_)) (fun q6 hq7=>?_)
 ·obtain⟨x_1,hst⟩:∃y,y=st:=⟨_,rfl⟩
  subst hst
  replace hi3:x_1=(i2:Int):=hi3
  show Qi (Qel l1 v2 v3 x_1) _
  unfold Qel
  refine T1 (fun hc8=>?_) (fun hc8=>?_)
  ·refine T0 (T4 (by omega) (by simp_all)) (fun e_9 hv10=>?_)
   refine T0 (Qsj x_1 e_9 v2 v3 (((h_l1).2 e_9 hv10)) (h_v2) (h_v3) (by omega) (by simp_all;omega)) (fun x_11 hv12=>?_)
   refine T1 (fun hc13=>?_) (fun hc13=>?_)
   ·exact T2 (Qw trivial)
   exact T2 (QR ⟨(by simp_all),by subst hi3;exact Qx (by simp_all) (h_l1).1,trivial⟩)
  exact T2 (Qw trivial)
 rcases q6 with q6 | q6
 ·show Qi (Qem q6.1 q6.2) _
  unfold Qem
  exact T3
 show Qi (Qen) _
 unfold Qen
 exact T3
theorem QtW (n1:Qq)(l2:(List Qat))(h_n1:QZ n1)(h_l2:(QI Qeu) l2):Qi (Qg7 n1 l2) fun r=>True:=by
 unfold Qg7
 refine T0 (QrL l2 l2 n1 (h_l2) (h_l2) (h_n1) (by omega)) (fun x_1 hv2=>?_)
 exact T3
theorem QwC (v1:Qq)(v2:QG)(h_v1:QZ v1)(h_v2:QaG v2):Qi (QkH v1 v2) fun r=>True:=by
 unfold QkH
 refine T0 (QtW v1 v2.Vars (h_v1) (h_v2.2.1)) (fun x_1 hv2=>?_)
 exact T3
theorem QvH (v1:Qq)(v2:QG)(v3:Int)(h_v1:QZ v1)(h_v2:QaG v2):Qi (Qjl v1 v2 v3) fun r=>True:=by
 unfold Qjl
 refine T0 (QwC v1 v2 (h_v1) (h_v2)) (fun x_1 hv2=>?_)
 exact T3
theorem Qrr (n1:Qq)(k2:Int)(h_n1:QZ n1):Qi (Qir n1 k2) fun r=>True:=by
 unfold Qir
 refine T0 (Qka n1.Tasks k2 (h_n1.2.2.1)) (fun x_1 hv2=>?_)
 refine T1 (fun hc3=>?_) (fun hc3=>?_)
 ·exact T3
 refine T0 (T4 (by simp_all) (by simp_all)) (fun e_4 hv5=>?_)
 refine T0 (Qi.up (e_4.Vars.length) (fun st=>st.2) (fun _=>True) (Q:=fun q=>True) rfl trivial (fun i8 st hi9 hn10 hj11=>?_)) (fun q12 hq13=>?_)
 ·obtain⟨out_6,x_7⟩:=st
  replace hi9:x_7=(i8:Int):=hi9
  show Qi (Qh4 e_4 n1 out_6 x_7) _
  unfold Qh4
  refine T1 (fun hc14=>?_) (fun hc14=>?_)
  ·refine T0 (T4 (by omega) (by simp_all)) (fun e_15 hv16=>?_)
   refine T0 (Qm4 n1.Colours e_15.Colour (h_n1.1)) (fun x_17 hv18=>?_)
   refine T1 (fun hc19=>?_) (fun hc19=>?_)
   ·exact T2 (Qw trivial)
   exact T2 (QR ⟨(by simp_all),by subst hi9;exact Qx (by simp_all) (((h_n1.2.2.1).2 e_4 hv5).2.1).1,trivial⟩)
  exact T2 (Qw trivial)
 rcases q12 with q12 | q12
 ·show Qi (Qh5) _
  unfold Qh5
  exact T3
 show Qi (Qh6 q12) _
 unfold Qh6
 exact T3
theorem QwD (v1:Qq)(v2:Int)(h_v1:QZ v1):Qi (QkI v1 v2) fun r=>True:=by
 unfold QkI
 refine T0 (Qrr v1 v2 (h_v1)) (fun x_1 hv2=>?_)
 exact T3
theorem Qy3 (kind1:Int):Qi (Qlb kind1) fun r=>0<=r->(kind1=1\/kind1=2\/kind1=3\/kind1=4\/kind1=5\/kind1=6)/\(kind1=3\/kind1=4->r=1)/\(kind1=5->r=2)/\(kind1=6->r=3):=by
 unfold Qlb
 refine T1 (fun hc=>?_) (fun hc=>?_)
 ·unfold Qfu;rw [hc]
  simp only [beq_iff_eq]at hc
  exact T2 (by omega)
 simp only [beq_eq_false_iff_ne]at hc
 unfold Qfu
 refine T1 (fun hc=>T2 (by simp only [beq_iff_eq]at hc;omega)) (fun hc2=>?_)
 simp only [beq_eq_false_iff_ne]at hc2
 refine T1 (fun hc3=>?_) (fun hc3=>?_)
 ·unfold Qft;rw [hc3]
  simp only [beq_iff_eq]at hc3
  exact T2 (by omega)
 simp only [beq_eq_false_iff_ne]at hc3
 unfold Qft
 refine T1 (fun hc=>T2 (by simp only [beq_iff_eq]at hc;omega)) (fun hc4=>?_)
 simp only [beq_eq_false_iff_ne]at hc4
 refine T1 (fun hc=>T2 (by simp only [beq_iff_eq]at hc;omega)) (fun hc5=>?_)
 simp only [beq_eq_false_iff_ne]at hc5
 exact T1 (fun hc=>T2 (by simp only [beq_iff_eq]at hc;omega)) (fun hc6=>T2 (by omega))
theorem Qyh (op1:Int)  : Qi (QjL op1) fun r=>True:=by
 unfold QjL
 exact T3
theorem Qnv (rec_:Qh->Int->Option Bool)(s1:List Qh)(v2:Int)(h1:s1.length<=maxLen)(h:∀k∈s1,Qi (rec_ k v2) fun r=>r=true->POk v2 k):Qi (Q8 rec_ s1 v2) fun r=>r=false->∀k∈s1,POk v2 k:=by
 unfold Q8 Qbm
 refine T0 (P:=fun x=>x<0->∀k∈s1,POk v2 k) ?_ fun x hx=>T2 fun h=>hx (by simp only [QaT]at h;omega)
 refine T0 (Qi.up s1.length (fun st=>st) (fun st=>∀(j:Nat) k,(j:Int)<st->s1[j]? = some k->POk v2 k) (Q:=fun q=>(∀x,q=.inl x->0<=x)/\(q=.inr ()->∀k∈s1,POk v2 k)) rfl (fun j k hj=>by omega) (fun i st hi hn hj=>?_)) (fun q hq=>?_)
 ·show Qi (Q1 s1 rec_ v2 st) _
  unfold Q1 Qkp
  refine T1 (fun hc=>?_) (fun hc=>T2 (Qw ⟨fun x h=>(by cases h),fun _ k hk=>by
   obtain⟨j,hj1,hj2⟩:=Qu5.1 hk
   simp only [QaT]at hc
   exact hj j k (by omega) (by rw [QM hj1,hj2])⟩))
  simp only [Q0]at hc
  rw [Qma (by omega)]
  have hlt:st.toNat<s1.length:=by omega
  rw [QM hlt]
  refine T0 (P:=fun k=>k=s1[st.toNat]) (T2 rfl) fun k hk=>?_
  subst hk
  refine T0 (P:=fun r=>r=false->POk v2 s1[st.toNat]) (T0 (h _ (Qbk hlt)) fun x hx=>T2 fun h=>hx (by simpa using h)) fun x hx=>?_
  refine T1 (fun _=>T2 (Qw ⟨fun x h=>(by cases h;omega),fun h=>(by cases h)⟩)) fun hxf=>T2 (QR ⟨by omega,by rw [hi];exact Qx (by omega) h1,?_⟩)
  rw [hi,Qx (show i<s1.length by omega) h1]
  intro j k hj' hk
  by_cases c:j=i
  ·subst c
   have e:st.toNat=j:=by omega
   have:=hx hxf
   rw [QM (by omega)]at hk
   cases hk
   simpa only [e] using this
  exact hj j k (by omega) hk
 rcases q with q | q
 ·exact T2 fun h=>absurd (hq.1 q rfl) (by omega)
 exact T2 fun _=>hq.2 rfl
theorem Ql5 : ∀(n:Nat) (e:Qh) (v:Int),Qcz e->SizeOf.sizeOf e<=n->Qi (QaJ n e v) fun r=>r=true->POk v e
 | 0,e,_,_,h=>absurd e.pos (by omega)
 | n+1,e,v,he,h=>by
  unfold QaJ Qhm
  refine T0 (Qy3 e.Kind) fun x hx=>?_
  refine T1 (fun _=>T2 fun h=>by cases h) fun h1=>T1 (fun _=>T2 fun h=>by cases h) fun h2=>?_
  refine T0 (P:=fun _=>True) ?_ fun y _=>?_
  ·unfold Qmx
   exact T1 (fun _=>T0 (Qyh e.Num) fun x _=>T3) fun _=>T3
  unfold Qgu
  refine T1 (fun _=>T2 fun h=>by cases h) fun _=>?_
  refine T0 (Qnv (QaJ n) e.Kids v (QcH he).1 fun k hk=>Ql5 n k v ((QcH he).2 k hk) (by have:=Qn6 hk;omega)) fun x hx2=>T2 fun hx3=>?_
  simp only [bne_eq_false_iff_eq]at h1
  have h3:=hx (by omega)
  simp only [Bool.and_eq_false_iff,Qdf,QaT,beq_eq_false_iff_ne]at h2
  exact .mk e h3.1 (fun hk=>by omega) (fun hk=>by have:=h3.2.1 hk;omega) (fun hk=>by have:=h3.2.2.1 hk;omega) (fun hk=>by have:=h3.2.2.2 hk;omega) (hx2 (by simpa using hx3))
theorem Qyi (e1:Qh)(vars2:Int)(h_e1:Qcz e1):Qi (Qmy e1 vars2) fun r=>r=true->POk vars2 e1:=Ql5 _ e1 vars2 h_e1 (Qc2 _)
theorem Qqn : ∀(n:Nat) (e:Qh),Qcz e->SizeOf.sizeOf e<=n->Qi (Qce n e) fun _=>True
 | 0,e,_,h=>absurd e.pos (by omega)
 | n+1,e,he,h=>by
  unfold Qce Qkn
  refine T0 (Qi.up e.Kids.length (fun st=>st.2) (fun _=>True) (Q:=fun _=>True) rfl trivial (fun i st hi hn _=>?_)) (fun q _=>?_)
  ·obtain⟨a,x⟩:=st
   replace hi:x=(i:Int):=hi
   show Qi (QiZ e (Qce n) a x) _
   unfold QiZ
   refine T1 (fun hc=>?_) (fun hc=>?_)
   ·simp only [Q0]at hc
    refine T0 (T4 (by omega) (by omega)) fun k hk=>?_
    have:=Qn6 hk
    refine T0 (Qqn n k ((QcH he).2 k hk) (by omega)) fun d _=>?_
    exact T2 (QR ⟨by omega,by subst hi;exact Qx (by omega) (QcH he).1,trivial⟩)
   exact T2 (Qw trivial)
  unfold Qmv
  exact T3
theorem Qyj (e1:Qh)(h_e1:Qcz e1):Qi (Qmw e1) fun _=>True:=Qqn _ e1 h_e1 (Qc2 _)
theorem Qrs : ∀(n:Nat) (e:Qh),Qcz e->SizeOf.sizeOf e<=n->Qi (QcK n e) fun _=>True
 | 0,e,_,h=>absurd e.pos (by omega)
 | n+1,e,he,h=>by
  unfold QcK Qly
  refine T0 (Qi.up e.Kids.length (fun st=>st.2) (fun _=>True) (Q:=fun _=>True) rfl trivial (fun i st hi hn _=>?_)) (fun q _=>?_)
  ·obtain⟨a,x⟩:=st
   replace hi:x=(i:Int):=hi
   show Qi (Qko e (QcK n) a x) _
   unfold Qko
   refine T1 (fun hc=>?_) (fun hc=>?_)
   ·simp only [Q0]at hc
    refine T0 (T4 (by omega) (by omega)) fun k hk=>?_
    have:=Qn6 hk
    refine T0 (Qrs n k ((QcH he).2 k hk) (by omega)) fun d _=>?_
    exact T2 (QR ⟨by omega,by subst hi;exact Qx (by omega) (QcH he).1,trivial⟩)
   exact T2 (Qw trivial)
  unfold Qnl
  exact T3
theorem Qy4 (e1:Qh)(h_e1:Qcz e1):Qi (QnG e1) fun _=>True:=Qrs _ e1 h_e1 (Qc2 _)
theorem QkV (e1:Qh)(vars2:Int)(h_e1:Qcz e1):Qi (QeL e1 vars2) fun r=>r=true->POk vars2 e1:=by
 unfold QeL
 refine T0 (P:=fun r=>r=true->POk vars2 e1) ?_ (fun x hx=>T2 hx)
 unfold Qmz
 refine T0 (Qyj e1 h_e1) (fun x _=>?_)
 refine T1 (fun _=>?_) (fun _=>T2 fun h=>by cases h)
 refine T0 (Qy4 e1 h_e1) (fun x _=>?_)
 refine T1 (fun _=>?_) (fun _=>T2 fun h=>by cases h)
 exact T0 (Qyi e1 vars2 h_e1) (fun x hx=>T2 hx)
theorem QwE (v1:QG)(v2:Int)(h_v1:QaG v1):Qi (QkJ v1 v2) fun r=>True:=by
 unfold QkJ
 refine T0 (P:=fun _=>True) ?_ (fun x_1 hv2=>?_)
 ·unfold QoB
  refine T0 (QkV v1.Guard v2 (h_v1.2.2.1)) (fun x_3 hv4=>?_)
  refine T1 (fun hc5=>?_) (fun hc5=>?_)
  ·refine T1 (fun hc6=>?_) (fun hc6=>?_)
   ·exact T3
   exact T3
  exact T3
 unfold Qg8
 exact T3
theorem QuL (v1:Qq)(v2:Qap)(h_v1:QZ v1)(h_v2:Qiu v2):Qi (Qh7 v1 v2) fun r=>True:=by
 unfold Qh7
 refine T0 (Qcu v1.Places v2.Place (h_v1.2.1)) (fun x_1 hv2=>?_)
 exact T3
theorem QuM (v1:Qap)(v2:Int)(h_v1:Qiu v1):Qi (Qh8 v1 v2) fun r=>True:=by
 unfold Qh8
 refine T0 (QkV v1.Expr v2 (h_v1.2)) (fun x_1 hv2=>?_)
 exact T3
theorem QuN (v1:Qq)(v2:Qap)(v3:Int)(v4:Int)(v5:Int)(h_v1:QZ v1)(h_v2:Qiu v2):Qi (Qh9 v1 v2 v3 v4 v5) fun r=>True:=by
 unfold Qh9
 refine T0 (QuL v1 v2 (h_v1) (h_v2)) (fun x_1 hv2=>?_)
 refine T1 (fun hc3=>?_) (fun hc3=>?_)
 ·exact T3
 refine T0 (QuM v2 v4 (h_v2)) (fun x_4 hv5=>?_)
 refine T1 (fun hc6=>?_) (fun hc6=>?_)
 ·exact T3
 exact T3
theorem QwF (p1:Int)(a2:Qap)(v3:Qq)(v4:Int)(h_a2:Qiu a2)(h_v3:QZ v3):Qi (QkK p1 a2 v3 v4) fun r=>True:=by
 unfold QkK
 refine T0 (QuN v3 a2 3 v4 1 (h_v3) (h_a2)) (fun x_1 hv2=>?_)
 exact T3
theorem QrM (l1:(List Qap))(v2:Qq)(v3:Int)(h_l1:(QI Qiu) l1)(h_v2:QZ v2):Qi (Qfm l1 v2 v3) fun r=>True:=by
 unfold Qfm
 refine T0 (Qi.up (l1.length) (fun st=>st) (fun _=>True) (Q:=fun q=>True) rfl trivial (fun i2 st hi3 hn4 hj5=>?_)) (fun q6 hq7=>?_)
 ·obtain⟨x_1,hst⟩:∃y,y=st:=⟨_,rfl⟩
  subst hst
  replace hi3:x_1=(i2:Int):=hi3
  show Qi (Qeo l1 v2 v3 x_1) _
  unfold Qeo
  refine T1 (fun hc8=>?_) (fun hc8=>?_)
  ·refine T0 (T4 (by omega) (by simp_all)) (fun e_9 hv10=>?_)
   refine T0 (QwF x_1 e_9 v2 v3 (((h_l1).2 e_9 hv10)) (h_v2)) (fun x_11 hv12=>?_)
   refine T1 (fun hc13=>?_) (fun hc13=>?_)
   ·exact T2 (Qw trivial)
   exact T2 (QR ⟨(by simp_all),by subst hi3;exact Qx (by simp_all) (h_l1).1,trivial⟩)
  exact T2 (Qw trivial)
 rcases q6 with q6 | q6
 ·show Qi (Qep q6.1 q6.2) _
  unfold Qep
  exact T3
 show Qi (Qeq) _
 unfold Qeq
 exact T3
theorem Qsk (n1:Qq)(l2:(List Qap))(vars3:Int)(h_n1:QZ n1)(h_l2:(QI Qiu) l2):Qi (Qj0 n1 l2 vars3) fun r=>True:=by
 unfold Qj0
 refine T0 (QrM l2 n1 vars3 (h_l2) (h_n1)) (fun x_1 hv2=>?_)
 exact T3
theorem QwG (v1:Qq)(v2:QG)(v3:Int)(h_v1:QZ v1)(h_v2:QaG v2):Qi (QkL v1 v2 v3) fun r=>True:=by
 unfold QkL
 refine T0 (Qsk v1 v2.Ins v3 (h_v1) (h_v2.2.2.2.2.2.1)) (fun x_1 hv2=>?_)
 exact T3
theorem Qs7 (v1:Qq)(v2:QG)(v3:Int)(v4:Int)(h_v1:QZ v1)(h_v2:QaG v2):Qi (Qgz v1 v2 v3 v4) fun r=>True:=by
 unfold Qgz
 refine T0 (QwG v1 v2 v3 (h_v1) (h_v2)) (fun x_1 hv2=>?_)
 exact T3
theorem QwH (v1:Qq)(v2:QG)(v3:Int)(h_v1:QZ v1)(h_v2:QaG v2):Qi (QkM v1 v2 v3) fun r=>True:=by
 unfold QkM
 refine T0 (Qsk v1 v2.Outs v3 (h_v1) (h_v2.2.2.2.2.2.2.1)) (fun x_1 hv2=>?_)
 exact T3
theorem Qs8 (v1:Qq)(v2:QG)(v3:Int)(v4:Int)(h_v1:QZ v1)(h_v2:QaG v2):Qi (QgA v1 v2 v3 v4) fun r=>True:=by
 unfold QgA
 refine T0 (QwH v1 v2 v3 (h_v1) (h_v2)) (fun x_1 hv2=>?_)
 exact T3
theorem Qsl (v1:Qq)(v2:Int)(h_v1:QZ v1):Qi (QfY v1 v2) fun r=>True:=by
 unfold QfY
 refine T0 (Qcu v1.Places v2 (h_v1.2.1)) (fun x_1 hv2=>?_)
 exact T3
theorem Qqo (s1:(List Int))(v2:Int)(h_s1:(QI (fun _=>True)) s1):Qi (Qc9 s1 v2) fun r=>True:=by
 unfold Qc9
 refine T0 (Qi.up (s1.length) (fun st=>st) (fun _=>True) (Q:=fun q=>True) rfl trivial (fun i2 st hi3 hn4 hj5=>?_)) (fun q6 hq7=>?_)
 ·obtain⟨x_1,hst⟩:∃y,y=st:=⟨_,rfl⟩
  subst hst
  replace hi3:x_1=(i2:Int):=hi3
  show Qi (QaA s1 v2 x_1) _
  unfold QaA
  refine T1 (fun hc8=>?_) (fun hc8=>?_)
  ·refine T0 (T4 (by omega) (by simp_all)) (fun e_9 hv10=>?_)
   refine T1 (fun hc11=>?_) (fun hc11=>?_)
   ·exact T2 (Qw trivial)
   exact T2 (QR ⟨(by simp_all),by subst hi3;exact Qx (by simp_all) (h_s1).1,trivial⟩)
  exact T2 (Qw trivial)
 rcases q6 with q6 | q6
 ·show Qi (QdF q6) _
  unfold QdF
  exact T3
 show Qi (QdG) _
 unfold QdG
 exact T3
theorem QhK (s1:(List Int))(v2:Int)(h_s1:(QI (fun _=>True)) s1):Qi (QaB s1 v2) fun r=>True:=by
 unfold QaB
 refine T0 (Qqo s1 v2 (h_s1)) (fun x_1 hv2=>?_)
 exact T3
theorem Qsm (v1:(List Int))(v2:Int)(v3:Int)(h_v1:(QI (fun _=>True)) v1)(hp0:0<=v2)(hp1:v2<v1.length):Qi (QfZ v1 v2 v3) fun r=>True:=by
 unfold QfZ
 refine T0 (T5 (by simp_all;omega)) (fun _ _=>?_)
 refine T0 (QhK ((v1.drop 0).take (v2.toNat-0)) v3 (((h_v1).drop _).take _)) (fun x_1 hv2=>?_)
 exact T3
theorem QuO (v1:Qq)(v2:Int)(v3:Int)(v4:(List Int))(v5:Int)(v6:Int)(h_v1:QZ v1)(h_v4:(QI (fun _=>True)) v4)(hp0:0<=v5)(hp1:v5<v4.length):Qi (Qia v1 v2 v3 v4 v5 v6) fun r=>True:=by
 unfold Qia
 refine T0 (Qsl v1 v2 (h_v1)) (fun x_1 hv2=>?_)
 refine T1 (fun hc3=>?_) (fun hc3=>?_)
 ·exact T3
 refine T0 (Qsm v4 v5 v2 (h_v4) (by omega) (by omega)) (fun x_4 hv5=>?_)
 refine T1 (fun hc6=>?_) (fun hc6=>?_)
 ·exact T3
 exact T3
theorem QtX (k1:Int)(place2:Int)(v3:Qq)(v4:(List Int))(h_v3:QZ v3)(h_v4:(QI (fun _=>True)) v4)(hp0:0<=k1)(hp1:k1<v4.length):Qi (Qg9 k1 place2 v3 v4) fun r=>True:=by
 unfold Qg9
 refine T0 (QuO v3 place2 3 v4 k1 5 (h_v3) (h_v4) (by omega) (by omega)) (fun x_1 hv2=>?_)
 exact T3
theorem QuP (l1:(List Int))(v2:Qq)(v3:(List Int))(h_l1:(QI (fun _=>True)) l1)(h_v2:QZ v2)(h_v3:(QI (fun _=>True)) v3)(hp0:l1.length<=v3.length):Qi (Qib l1 v2 v3) fun r=>True:=by
 unfold Qib
 refine T0 (Qi.up (l1.length) (fun st=>st) (fun _=>True) (Q:=fun q=>True) rfl trivial (fun i2 st hi3 hn4 hj5=>?_)) (fun q6 hq7=>?_)
 ·obtain⟨x_1,hst⟩:∃y,y=st:=⟨_,rfl⟩
  subst hst
  replace hi3:x_1=(i2:Int):=hi3
  show Qi (Qf0 l1 v2 v3 x_1) _
  unfold Qf0
  refine T1 (fun hc8=>?_) (fun hc8=>?_)
  ·refine T0 (T4 (by omega) (by simp_all)) (fun e_9 hv10=>?_)
   refine T0 (QtX x_1 e_9 v2 v3 (h_v2) (h_v3) (by omega) (by simp_all;omega)) (fun x_11 hv12=>?_)
   refine T1 (fun hc13=>?_) (fun hc13=>?_)
   ·exact T2 (Qw trivial)
   exact T2 (QR ⟨(by simp_all),by subst hi3;exact Qx (by simp_all) (h_l1).1,trivial⟩)
  exact T2 (Qw trivial)
 rcases q6 with q6 | q6
 ·show Qi (Qf1 q6.1 q6.2) _
  unfold Qf1
  exact T3
 show Qi (Qf2) _
 unfold Qf2
 exact T3
theorem QvI (n1:Qq)(l2:(List Int))(h_n1:QZ n1)(h_l2:(QI (fun _=>True)) l2):Qi (Qjm n1 l2) fun r=>True:=by
 unfold Qjm
 refine T0 (QuP l2 n1 l2 (h_l2) (h_n1) (h_l2) (by omega)) (fun x_1 hv2=>?_)
 exact T3
theorem QvJ (v1:Qq)(v2:QG)(h_v1:QZ v1)(h_v2:QaG v2):Qi (Qjn v1 v2) fun r=>True:=by
 unfold Qjn
 refine T0 (QvI v1 v2.Cancel (h_v1) (h_v2.2.2.2.2.2.2.2.1)) (fun x_1 hv2=>?_)
 exact T3
theorem Qs9 (v1:Qq)(v2:QG)(v3:Int)(h_v1:QZ v1)(h_v2:QaG v2):Qi (QgB v1 v2 v3) fun r=>True:=by
 unfold QgB
 refine T0 (QvJ v1 v2 (h_v1) (h_v2)) (fun x_1 hv2=>?_)
 exact T3
theorem QoX (k1:Int)(l2:(List Qap))(h_l2:(QI Qiu) l2):Qi (QeX k1 l2) fun r=>True:=by
 unfold QeX
 exact T3
theorem QxC (t1:QG)(h_t1:QaG t1):Qi (Qis t1) fun r=>True:=by
 unfold Qis
 refine T0 (P:=fun _=>True) ?_ (fun x_1 hv2=>?_)
 ·unfold QpW
  refine T0 (QoX t1.Join t1.Ins (h_t1.2.2.2.2.2.1)) (fun x_3 hv4=>?_)
  refine T1 (fun hc5=>?_) (fun hc5=>?_)
  ·refine T0 (QoX t1.Split t1.Outs (h_t1.2.2.2.2.2.2.1)) (fun x_6 hv7=>?_)
   refine T1 (fun hc8=>?_) (fun hc8=>?_)
   ·refine T1 (fun hc9=>?_) (fun hc9=>?_)
    ·refine T1 (fun hc10=>?_) (fun hc10=>?_)
     ·exact T3
     exact T3
    exact T3
   exact T3
  exact T3
 unfold Qic
 exact T3
theorem QvK (v1:QG)(h_v1:QaG v1):Qi (Qjo v1) fun r=>True:=by
 unfold Qjo
 refine T0 (QxC v1 (h_v1)) (fun x_1 hv2=>?_)
 exact T3
theorem QuQ (v1:QG)(v2:Int)(v3:Qq)(v4:Int)(v5:Int)(v6:Int)(v7:Int)(v8:Int)(v9:Int)(v10:Int)(v11:Int)(v12:Int)(v13:Int)(v14:Int)(v15:Int)(h_v1:QaG v1)(h_v3:QZ v3)(hp0:0<=v4)(hp1:v4<v3.Tasks.length):Qi (QfO v1 v2 v3 v4 v5 v6 v7 v8 v9 v10 v11 v12 v13 v14 v15) fun r=>True:=by
 unfold QfO
 refine T0 (Qwy v1 (h_v1)) (fun x_1 hv2=>?_)
 refine T1 (fun hc3=>?_) (fun hc3=>?_)
 ·exact T3
 refine T0 (QwA v3 v4 v1 (h_v3) (h_v1) (by omega) (by omega)) (fun x_4 hv5=>?_)
 refine T1 (fun hc6=>?_) (fun hc6=>?_)
 ·exact T3
 refine T0 (QwB v6 v1 (h_v1)) (fun x_7 hv8=>?_)
 refine T1 (fun hc9=>?_) (fun hc9=>?_)
 ·exact T3
 refine T0 (QvH v3 v1 v8 (h_v3) (h_v1)) (fun x_10 hv11=>?_)
 refine T1 (fun hc12=>?_) (fun hc12=>?_)
 ·exact T3
 refine T0 (QwD v3 v4 (h_v3)) (fun x_13 hv14=>?_)
 refine T1 (fun hc15=>?_) (fun hc15=>?_)
 ·exact T3
 refine T0 (QwE v1 v6 (h_v1)) (fun x_16 hv17=>?_)
 refine T1 (fun hc18=>?_) (fun hc18=>?_)
 ·exact T3
 refine T0 (Qs7 v3 v1 v6 x_10.2 (h_v3) (h_v1)) (fun x_19 hv20=>?_)
 refine T1 (fun hc21=>?_) (fun hc21=>?_)
 ·exact T3
 refine T0 (Qs8 v3 v1 v6 x_19.2 (h_v3) (h_v1)) (fun x_22 hv23=>?_)
 refine T1 (fun hc24=>?_) (fun hc24=>?_)
 ·exact T3
 refine T0 (Qs9 v3 v1 x_22.2 (h_v3) (h_v1)) (fun x_25 hv26=>?_)
 refine T1 (fun hc27=>?_) (fun hc27=>?_)
 ·exact T3
 refine T0 (QvK v1 (h_v1)) (fun x_28 hv29=>?_)
 refine T1 (fun hc30=>?_) (fun hc30=>?_)
 ·exact T3
 exact T3
theorem Qsn (n1:Qq)(k2:Int)(h_n1:QZ n1):Qi (Qde n1 k2) fun r=>True:=by
 unfold Qde
 refine T0 (Qka n1.Tasks k2 (h_n1.2.2.1)) (fun x_1 hv2=>?_)
 refine T1 (fun hc3=>?_) (fun hc3=>?_)
 ·exact T3
 refine T0 (QoW n1 (h_n1)) (fun x_4 hv5=>?_)
 refine T1 (fun hc6=>?_) (fun hc6=>?_)
 ·exact T3
 refine T0 (T4 (by simp_all) (by simp_all)) (fun e_7 hv8=>?_)
 refine T0 (T4 (by simp_all) (by simp_all)) (fun e_9 hv10=>?_)
 refine T0 (QxB 0 n1 e_7 (h_n1) (((h_n1.2.2.1).2 e_7 hv8))) (fun x_11 hv12=>?_)
 refine T0 (QuH 0 n1 e_7 (e_9.Vars.length:Int) (h_n1) (((h_n1.2.2.1).2 e_7 hv8))) (fun x_13 hv14=>?_)
 refine T0 (QuI 0 n1 e_7 (e_9.Vars.length:Int) (h_n1) (((h_n1.2.2.1).2 e_7 hv8))) (fun x_15 hv16=>?_)
 refine T0 (QuJ 0 n1 e_7 (h_n1) (((h_n1.2.2.1).2 e_7 hv8))) (fun x_17 hv18=>?_)
 refine T0 (QuQ e_7 1 n1 k2 5 (e_9.Vars.length:Int) 2 0 (-1) 2 1 (-1) (-1) (-1) 11 (((h_n1.2.2.1).2 e_7 hv8)) (h_n1) (by simp_all) (by simp_all)) (fun x_19 hv20=>?_)
 refine T1 (fun hc21=>?_) (fun hc21=>?_)
 ·exact T3
 exact T3
theorem QxD (k1:Int)(p2:QG)(v3:Qq)(h_p2:QaG p2)(h_v3:QZ v3):Qi (Qit k1 p2 v3) fun r=>True:=by
 unfold Qit
 refine T0 (Qsn v3 k1 (h_v3)) (fun x_1 hv2=>?_)
 exact T3
theorem Qqz (l1:(List QG))(v2:Qq)(h_l1:(QI QaG) l1)(h_v2:QZ v2):Qi (Qcy l1 v2) fun r=>True:=by
 unfold Qcy
 refine T0 (Qi.up (l1.length) (fun st=>st) (fun _=>True) (Q:=fun q=>True) rfl trivial (fun i2 st hi3 hn4 hj5=>?_)) (fun q6 hq7=>?_)
 ·obtain⟨x_1,hst⟩:∃y,y=st:=⟨_,rfl⟩
  subst hst
  replace hi3:x_1=(i2:Int):=hi3
  show Qi (QbR l1 v2 x_1) _
  unfold QbR
  refine T1 (fun hc8=>?_) (fun hc8=>?_)
  ·refine T0 (T4 (by omega) (by simp_all)) (fun e_9 hv10=>?_)
   refine T0 (QxD x_1 e_9 v2 (((h_l1).2 e_9 hv10)) (h_v2)) (fun x_11 hv12=>?_)
   refine T1 (fun hc13=>?_) (fun hc13=>?_)
   ·exact T2 (Qw trivial)
   exact T2 (QR ⟨(by simp_all),by subst hi3;exact Qx (by simp_all) (h_l1).1,trivial⟩)
  exact T2 (Qw trivial)
 rcases q6 with q6 | q6
 ·show Qi (QdX q6.1 q6.2) _
  unfold QdX
  exact T3
 show Qi (QdY) _
 unfold QdY
 exact T3
theorem Qy5 (n1:Qq)(h_n1:QZ n1):Qi (QiD n1) fun r=>True:=by
 unfold QiD
 refine T0 (Qxu n1 2 3 1 (h_n1)) (fun x_1 hv2=>?_)
 refine T1 (fun hc3=>?_) (fun hc3=>?_)
 ·exact T3
 refine T0 (QoW n1 (h_n1)) (fun x_4 hv5=>?_)
 refine T1 (fun hc6=>?_) (fun hc6=>?_)
 ·exact T3
 refine T0 (Qqm n1.Places n1 (h_n1.2.1) (h_n1)) (fun x_7 hv8=>?_)
 refine T1 (fun hc9=>?_) (fun hc9=>?_)
 ·exact T3
 refine T0 (Qqz n1.Tasks n1 (h_n1.2.2.1) (h_n1)) (fun x_10 hv11=>?_)
 refine T1 (fun hc12=>?_) (fun hc12=>?_)
 ·exact T3
 exact T3
theorem QzL (a1:Int)(b2:Int)  : Qi (QhT a1 b2) fun r=>True:=by
 unfold QhT
 refine T1 (fun hc1=>?_) (fun hc1=>?_)
 ·exact T3
 exact T3
theorem QtY (a1:Int)(b2:Int)  : Qi (QcV a1 b2) fun r=>True:=by
 unfold QcV
 refine T1 (fun hc1=>?_) (fun hc1=>?_)
 ·exact T3
 exact T3
theorem QtE (a1:Int)  : Qi (QgN a1) fun r=>True:=by
 unfold QgN
 refine T1 (fun hc1=>?_) (fun hc1=>?_)
 ·exact T3
 exact T3
theorem QtZ (p1:Int)(y2:Int)  : Qi (Qd5 p1 y2) fun r=>True:=by
 unfold Qd5
 exact T3
theorem QwI (a1:Int)(b2:Int)  : Qi (Qfv a1 b2) fun r=>True:=by
 unfold Qfv
 refine T0 (QtE a1 ) (fun x_1 hv2=>?_)
 refine T0 (QtE b2 ) (fun x_3 hv4=>?_)
 refine T0 (QtZ x_1 x_3 ) (fun x_5 hv6=>?_)
 refine T1 (fun hc7=>?_) (fun hc7=>?_)
 ·unfold QcW
  refine T1 (fun hc8=>?_) (fun hc8=>?_)
  ·exact T3
  exact T3
 unfold QcW
 refine T1 (fun hc9=>?_) (fun hc9=>?_)
 ·exact T3
 exact T3
theorem QoY (a1:Int)(b2:Int)  : Qi (Qcs a1 b2) fun r=>True:=by
 unfold Qcs
 refine T1 (fun hc1=>?_) (fun hc1=>?_)
 ·exact T3
 refine T1 (fun hc2=>?_) (fun hc2=>?_)
 ·exact T3
 refine T0 (T5 (by simp_all)) (fun _ _=>?_)
 refine T0 (T5 (by simp_all)) (fun _ _=>?_)
 exact T3
theorem QeO (is1:Bool)  : Qi (QbJ is1) fun r=>True:=by
 unfold QbJ
 refine T1 (fun hc1=>?_) (fun hc1=>?_)
 ·exact T3
 exact T3
theorem QgT (op1:Int)(a2:Int)(b3:Int)  : Qi (QbC op1 a2 b3) fun r=>True:=by
 unfold QbC
 refine T1 (fun hc1=>?_) (fun hc1=>?_)
 ·refine T0 (QzL a2 b3 ) (fun x_2 hv3=>?_)
  exact T3
 refine T1 (fun hc4=>?_) (fun hc4=>?_)
 ·refine T0 (QtY a2 b3 ) (fun x_5 hv6=>?_)
  exact T3
 refine T1 (fun hc7=>?_) (fun hc7=>?_)
 ·refine T0 (QwI a2 b3 ) (fun x_8 hv9=>?_)
  exact T3
 refine T1 (fun hc10=>?_) (fun hc10=>?_)
 ·refine T0 (QoY a2 b3 ) (fun x_11 hv12=>?_)
  exact T3
 refine T1 (fun hc13=>?_) (fun hc13=>?_)
 ·refine T0 (QoY a2 b3 ) (fun x_14 hv15=>?_)
  exact T3
 refine T1 (fun hc16=>?_) (fun hc16=>?_)
 ·refine T0 (QeO (a2==b3) ) (fun x_17 hv18=>?_)
  exact T3
 refine T1 (fun hc19=>?_) (fun hc19=>?_)
 ·refine T0 (QeO (a2 != b3) ) (fun x_20 hv21=>?_)
  exact T3
 refine T1 (fun hc22=>?_) (fun hc22=>?_)
 ·refine T0 (QeO (decide (a2<b3)) ) (fun x_23 hv24=>?_)
  exact T3
 refine T1 (fun hc25=>?_) (fun hc25=>?_)
 ·refine T0 (QeO (decide (a2<=b3)) ) (fun x_26 hv27=>?_)
  exact T3
 refine T1 (fun hc28=>?_) (fun hc28=>?_)
 ·refine T0 (P:=fun _=>True) ?_ (fun v_29 hv30=>?_)
  ·unfold QmC
   refine T1 (fun hc31=>?_) (fun hc31=>?_)
   ·refine T0 (QeO (b3 != 0) ) (fun x_32 hv33=>?_)
    exact T3
   refine T0 (QeO false ) (fun x_34 hv35=>?_)
   exact T3
  unfold QjM
  exact T3
 refine T1 (fun hc36=>?_) (fun hc36=>?_)
 ·refine T0 (P:=fun _=>True) ?_ (fun v_37 hv38=>?_)
  ·unfold QmD
   refine T1 (fun hc39=>?_) (fun hc39=>?_)
   ·refine T0 (QeO true ) (fun x_40 hv41=>?_)
    exact T3
   refine T0 (QeO (b3 != 0) ) (fun x_42 hv43=>?_)
   exact T3
  unfold QjN
  exact T3
 exact T3
theorem QuR (a1:Int)  : Qi (QmF a1) fun r=>True:=by
 unfold QmF
 refine T0 (QgT 2 0 a1 ) (fun x_1 hv2=>?_)
 exact T3
end Go.Proofs
noncomputable section
namespace Go.Proofs
open Go Go.RowKit Go.Vm
theorem QuS (b:List (Int×Int))(h:b.length<=maxLen):QdM b=some (rtF (-1) b):=by
 unfold QdM
 have h1:=Qmc (body:=fun st=>QcR b st.1 st.2) (l:=b) (ρ:=Unit⊕Unit) (fun i (t:Int)=>(t,(i:Int)))
  (fun i t x=>bif ((decide (x.1<=t))||((decide (x.2<1))||(decide (1048576<x.2))))then .inr (.inl ())else .inl x.1) (fun _=>.inr ())
  (fun i t x hi hx=>by
   show QcR b t i=_
   unfold QcR
   rw [QH (by omega:(i:Int)<b.length),cond_true,Q7,hx,Qn]
   cases ((decide (x.1<=t))||((decide (x.2<1))||(decide (1048576<x.2))))with
   | true=>rfl
   | false=>simp only [cond_false,Sum.elim_inl];rw [Qx hi h])
  (fun t=>by
   show QcR b t b.length=_
   unfold QcR
   rw [QJ (by omega)];rfl) (-1) (s0:=(-1,0)) rfl
 rw [h1]
 have:∀(l:List (Int×Int)) (k:Nat) (t:Int),QgI (fun i t (x:Int×Int)=>(bif ((decide (x.1<=t))||((decide (x.2<1))||(decide (1048576<x.2))))then .inr (.inl ())else .inl x.1:Int⊕(Unit⊕Unit))) (fun _=>.inr ()) k t l=bif rtF t l then .inr ()else .inl ():=by
  intro l
  induction l with
  | nil=>intro k t;rfl
  | cons x l ih=>
   intro k t
   rw [QgI,rtF]
   cases ((decide (x.1<=t))||((decide (x.2<1))||(decide (1048576<x.2))))with
   | true=>rfl
   | false=>simp only [cond_false,Sum.elim_inl,Bool.not_false,QoZ];exact ih _ _
 rw [this]
 cases rtF (-1) b<;>rfl
theorem QuT (b:List (Int×Int))(h:b.length<=maxLen):Qnm b=some (bif rtF (-1) b then .inr b else .inl ()):=by
 unfold Qnm
 rw [QuS b h,Qn]
 cases hr:rtF (-1) b with
 | false=>rfl
 | true=>
  simp only [QeQ,cond_false,cond_true]
  have ha:=(Qa5.1 hr).1
  obtain⟨r,h1,h2⟩:=QhB (body:=fun st=>QgP b st.1 st.2) b.length (fun i s=>s=((i:Int),b.take i)) (fun r=>r=b)
   (fun i s hi hs=>by
    subst hs
    refine .inl ⟨(((i+1:Nat):Int),b.take (i+1)),?_,rfl⟩
    show QgP b i (b.take i)=_
    unfold QgP
    rw [QH (by omega:(i:Int)<b.length),cond_true,Q7,QM hi,Qn,Qx hi h]
    have e:b.take (i+1)=b.take i++[b[i]]:=by rw [Qo3,QM hi];rfl
    rw [e,<-QCW (by have:=(ha.sublist (List.take_sublist (i+1) b));rw [e]at this;exact this)])
   (fun s hs=>by
    subst hs
    refine⟨_,?_,rfl⟩
    show QgP b b.length (b.take b.length)=_
    unfold QgP
    rw [QJ (by omega),Qki];rfl) (0,[]) rfl
  rw [h1,h2];rfl
theorem QrN (a b:List (Int×Int))(ha:a.length<=maxLen)(hb:b.length<=maxLen):Qku a b=some (bif rtF (-1) a then(bif rtF (-1) b then .inr (.inr (.inr (a,b)))else .inr (.inr (.inl a)))else(bif rtF (-1) b then .inr (.inl b)else .inl ())):=by
 unfold Qku
 rw [QuT a ha]
 cases rtF (-1) a with
 | true=>
  simp only [cond_true,Qn,Sum.elim_inr]
  unfold Qob
  rw [QuT b hb]
  cases rtF (-1) b<;>rfl
 | false=>
  simp only [cond_false,Qn,Sum.elim_inl]
  unfold Qoa
  rw [QuT b hb]
  cases rtF (-1) b<;>rfl
theorem QlN (m:List (Int×Int))(ha:Asc m)(h':m.length<=4294967296):Qex m=some (Qj9 m):=by
 have h:m.length<=maxLen:=by unfold maxLen;omega
 unfold Qex QdU QiJ
 simp only [QH h',QnM rfl,Qn,QB4 ha]
 obtain⟨r,h1,h2⟩:=QhB (body:=fun st=>Qcl (m.map Prod.fst) m st.1 st.2) m.length (fun i s=>s=((i:Int),Qj9 (m.take i))) (fun r=>r=Qj9 m)
  (fun i s hi hs=>by
   subst hs
   refine .inl ⟨(((i+1:Nat):Int),Qj9 (m.take (i+1))),?_,rfl⟩
   show Qcl (m.map Prod.fst) m i (Qj9 (m.take i))=_
   unfold Qcl
   have e:m.take (i+1)=m.take i++[m[i]]:=by rw [Qo3,QM hi];rfl
   have ec:(QV m m[i].1).getD 0=m[i].2:=Qgo ha.nd (Qbk hi)
   rw [QH (by simp;omega),cond_true,Q7,Qau,QM hi,Qgr,Qn,ec]
   have hl:(Qj9 (m.take i)).length<=i:=QcA (List.length_filter_le _ _) (by simp;omega)
   cases hc:decide (0<m[i].2)with
   | true=>
    simp only [cond_true]
    rw [Qf4 (by simp;omega),Qn]
    unfold Qes
    rw [Qx hi h,e]
    unfold Qj9
    rw [List.filter_append,QnA,if_pos hc];rfl
   | false=>
    simp only [cond_false]
    unfold Qes
    rw [Qx hi h,e]
    unfold Qj9
    rw [List.filter_append,QnA,if_neg (by rw [hc];decide),List.filter_nil,List.append_nil])
  (fun s hs=>by
   subst hs
   refine⟨_,?_,rfl⟩
   show Qcl (m.map Prod.fst) m m.length (Qj9 (m.take m.length))=_
   unfold Qcl
   rw [QJ (by simp),Qki];rfl) (0,[]) rfl
 rw [h1,h2];rfl
theorem QzM (m:List (Int×Int)):(Qj9 m).length<=m.length:=List.length_filter_le _ _
theorem Qkc (a b:List (Int×Int))(h:a.length+b.length<=4294967296):(¬(Rt a/\Rt b)/\Qec a b=some ([],1))\/(Rt a/\Rt b/\(∃k,1048576<QA a k+QA b k)/\Qec a b=some ([],2))\/
  (Rt a/\Rt b/\∃r,Qec a b=some (r,0)/\Rt r/\(∀k,QA r k=QA a k+QA b k)/\r.length<=a.length+b.length):=by
 unfold Qec
 rw [QrN a b (by unfold maxLen;omega) (by unfold maxLen;omega),Qn]
 cases ra:rtF (-1) a with
 | false=>exact .inl ⟨fun hh=>(by rw [Qa5.2 hh.1]at ra;cases ra),by cases rtF (-1) b<;>rfl⟩
 | true=>
  cases rb:rtF (-1) b with
  | false=>exact .inl ⟨fun hh=>(by rw [Qa5.2 hh.2]at rb;cases rb),rfl⟩
  | true=>
   have hra:=Qa5.1 ra
   have hrb:=Qa5.1 rb
   simp only [cond_true,Sum.elim_inr]
   unfold QpF
   have hw:∀p∈b,QA a p.1+p.2=QA a p.1+QA b p.1:=fun p hp=>by rw [Qgo hrb.1.nd hp]
   rcases Qxq (g:=fun x v=>w64 (x+v)) (stop:=fun x=>decide (1048576<x)) (q:=some ()) (body:=fun st p=>Qho st p.1 p.2) (fun s p=>by
     show Qho s p.1 p.2=_
     unfold Qho
     rw [Qmb,if_pos rfl]
     unfold QA
     simp only [Option.getD_some]
     cases decide (1048576<w64 ((QV s p.1).getD 0+p.2))<;>rfl) hra.1 hrb.1.nd with⟨⟨p,h1,h2⟩,h3⟩|⟨h1,s',h3,h4,h5,h6⟩
   ·refine .inr (.inl ⟨hra,hrb,⟨p.1,?_⟩,?_⟩)
    ·have:=hra.cnt p.1
     have:=hrb.cnt p.1
     have h2:=Qai h2
     rw [Qgo hrb.1.nd h1]
     rw [Qgo hrb.1.nd h1]at this
     rwa [QaK (by omega)]at h2
    simp only [h3 () rfl];rfl
   have hk:∀k,QA s' k=QA a k+QA b k/\QA s' k<=1048576:=fun k=>by
    have ca:=hra.cnt k
    have cb:=hrb.cnt k
    have e:=h6 k
    unfold Qve at e
    cases hm:QV b k with
    | none=>
     rw [hm]at e
     simp only at e
     have:QA b k=0:=by unfold QA;rw [hm];rfl
     have e2:QA s' k=QA a k:=by unfold QA;rw [e]
     omega
    | some v=>
     rw [hm]at e
     simp only at e
     have e1:QA b k=v:=by unfold QA;rw [hm];rfl
     have e2:QA s' k=w64 (QA a k+v):=by unfold QA;rw [e];rfl
     have h7:=h1 (k,v) ((QbG hrb.1.nd).1 hm)
     simp only [QaT]at h7
     rw [QaK (by omega)]at e2 h7
     omega
   refine .inr (.inr ⟨hra,hrb,Qj9 s',?_,QB3 h4 (fun k hk0=>⟨?_,(hk k).2⟩),fun k=>?_,QcA (QzM s') h5⟩)
   ·simp only [h3,Qn,Sum.elim_inl]
    unfold QpE
    rw [QlN s' h4 (by omega)];rfl
   ·have:=(hk k).1
    have ca:=hra.cnt k
    have cb:=hrb.cnt k
    by_cases c:0<QA a k
    ·exact hra.cnt_pos c
    exact hrb.cnt_pos (by omega)
   rw [QzK h4,(hk k).1]
   have ca:=hra.cnt k
   have cb:=hrb.cnt k
   split<;>omega
theorem Qqp (m m':List (Int×Int)):Qet m m'=some (!(m.any fun p=>decide (QA m' p.1<p.2))):=by
 unfold Qet
 rw [QBi (bad:=fun p=>decide (QA m' p.1<p.2)) (q:=()) (fun p=>by
  show Qc8 m' p.1 p.2=_
  unfold Qc8 QA
  cases decide ((QV m' p.1).getD 0<p.2)<;>rfl)]
 cases m.any fun p=>decide (QA m' p.1<p.2)<;>rfl
theorem Qta {a b:List (Int×Int)}(ha:Rt a)(hb:Rt b):(a.any fun p=>decide (QA b p.1<p.2))=false↔∀k,QA a k<=QA b k:=by
 rw [<-QiS,Qlt]
 simp only [Q0,not_exists,not_and]
 constructor
 ·intro h k
  have cb:=hb.cnt k
  cases e:QV a k with
  | none=>
   have:QA a k=0:=by unfold QA;rw [e];rfl
   omega
  | some v=>
   have h1:=h _ ((QbG ha.1.nd).1 e)
   have:QA a k=v:=by unfold QA;rw [e];rfl
   simp only at h1
   omega
 intro h p hp hlt
 have:=h p.1
 rw [Qgo ha.1.nd hp]at this
 omega
theorem Qm5 (a b:List (Int×Int))(ha:a.length<=maxLen)(hb:b.length<=maxLen):∃r,QjR a b=some r/\(r=true↔Rt a/\Rt b/\∀k,QA a k<=QA b k):=by
 unfold QjR
 rw [QrN a b ha hb,Qn]
 cases ra:rtF (-1) a with
 | false=>exact⟨false,by cases rtF (-1) b<;>rfl,by simp;intro hh;rw [Qa5.2 hh]at ra;cases ra⟩
 | true=>
  cases rb:rtF (-1) b with
  | false=>exact⟨false,rfl,by simp;intro _ hh;rw [Qa5.2 hh]at rb;cases rb⟩
  | true=>
   have hra:=Qa5.1 ra
   have hrb:=Qa5.1 rb
   refine⟨!(a.any fun p=>decide (QA b p.1<p.2)),?_,?_⟩
   ·simp only [cond_true,Sum.elim_inr]
    unfold QmH
    rw [Qqp];rfl
   rw [QeP,Qta hra hrb]
   exact⟨fun h=>⟨hra,hrb,h⟩,fun h=>h.2.2⟩
theorem Qom (a b:List (Int×Int))(h:a.length+b.length<=4294967296):(¬(Rt a/\Rt b)/\Qfj a b=some ([],1))\/(Rt a/\Rt b/\(∃k,QA a k<QA b k)/\Qfj a b=some ([],10))\/
  (Rt a/\Rt b/\(∀k,QA b k<=QA a k)/\∃r,Qfj a b=some (r,0)/\Rt r/\(∀k,QA r k=QA a k-QA b k)/\r.length<=a.length+b.length):=by
 unfold Qfj
 rw [QrN a b (by unfold maxLen;omega) (by unfold maxLen;omega),Qn]
 cases ra:rtF (-1) a with
 | false=>exact .inl ⟨fun hh=>(by rw [Qa5.2 hh.1]at ra;cases ra),by cases rtF (-1) b<;>rfl⟩
 | true=>
  cases rb:rtF (-1) b with
  | false=>exact .inl ⟨fun hh=>(by rw [Qa5.2 hh.2]at rb;cases rb),rfl⟩
  | true=>
   have hra:=Qa5.1 ra
   have hrb:=Qa5.1 rb
   simp only [cond_true,Sum.elim_inr]
   unfold Qod
   rw [Qqp,Qn]
   cases hw:b.any fun p=>decide (QA a p.1<p.2)with
   | true=>
    refine .inr (.inl ⟨hra,hrb,?_,rfl⟩)
    obtain⟨p,h1,h2⟩:=Qlt.1 hw
    exact⟨p.1,by rw [Qgo hrb.1.nd h1];exact Qai h2⟩
   | false=>
    have hle:=(Qta hrb hra).1 hw
    simp only [Bool.not_false,QeQ,cond_false]
    rcases Qxq (g:=fun x v=>w64 (x-v)) (stop:=fun _=>false) (q:=none) (body:=fun st p=>Qgi st p.1 p.2) (fun s p=>by
      show Qgi s p.1 p.2=_
      unfold Qgi QA
      rfl) hra.1 hrb.1.nd with⟨⟨p,h1,h2⟩,h3⟩|⟨h1,s',h3,h4,h5,h6⟩
    ·cases h2
    have hk:∀k,QA s' k=QA a k-QA b k:=fun k=>by
     have ca:=hra.cnt k
     have cb:=hrb.cnt k
     have e:=h6 k
     unfold Qve at e
     cases hm:QV b k with
     | none=>
      rw [hm]at e
      simp only at e
      have:QA b k=0:=by unfold QA;rw [hm];rfl
      have e2:QA s' k=QA a k:=by unfold QA;rw [e]
      omega
     | some v=>
      rw [hm]at e
      simp only at e
      have e1:QA b k=v:=by unfold QA;rw [hm];rfl
      have e2:QA s' k=w64 (QA a k-v):=by unfold QA;rw [e];rfl
      rw [QaK (by omega)]at e2
      omega
    refine .inr (.inr ⟨hra,hrb,hle,Qj9 s',?_,QB3 h4 (fun k hk0=>?_),fun k=>?_,QcA (QzM s') h5⟩)
    ·simp only [h3,Qn,Sum.elim_inl]
     unfold Qoc
     rw [QlN s' h4 (by omega)];rfl
    ·have:=hk k
     have ca:=hra.cnt k
     have cb:=hrb.cnt k
     exact⟨hra.cnt_pos (by omega),by omega⟩
    rw [QzK h4,hk k]
    have:=hle k
    split<;>omega
theorem Qtb (t:Int):QsZ [t]=some (bif decide (0<=t)then [(t,1)]else []):=by
 unfold QsZ
 rw [QbN]
 show((Qfp [t] 0 []).bind _).bind _=_
 unfold Qfp
 rw [QH (by simp),cond_true,show idx [t] 0=some t from rfl,Qn]
 unfold QnH
 rw [show w64 (0+1)=1 from by decide]
 cases h:decide (0<=t)with
 | false=>
  simp only [cond_false,Qn,Sum.elim_inl]
  rw [QbN]
  show((Qfp [t] 1 []).bind _).bind _=_
  unfold Qfp
  rw [QJ (by simp)]
  simp only [cond_false,Qn,Sum.elim_inr]
  unfold QnI
  rw [QlN [] List.Pairwise.nil (by simp)];rfl
 | true=>
  simp only [cond_true,Qn,Sum.elim_inl]
  rw [QbN]
  show((Qfp [t] 1 [(t,min2 (w64 (0+1)) 1048576)]).bind _).bind _=_
  unfold Qfp
  rw [QJ (by simp)]
  simp only [cond_false,Qn,Sum.elim_inr]
  unfold QnI
  rw [QlN _ (List.pairwise_singleton _ _) (by simp [maxLen]),show min2 (w64 (0+1)) 1048576=1 from by decide];rfl
end Go.Proofs
noncomputable section
namespace Go.Proofs
open Go Go.RowKit Go.Vm
theorem QAv : ∀(n:Nat) (e:Qh) (d:Int),Qcz e->SizeOf.sizeOf e<=n->Qi (Qe5 n e d) fun _=>True
 | 0,e,_,_,h=>absurd e.pos (by omega)
 | n+1,e,d,he,h=>by
  unfold Qe5 Qog
  refine T1 (fun _=>T3) fun _=>?_
  refine T0 (Qi.up e.Kids.length (fun st=>st.2) (fun _=>True) (Q:=fun _=>True) rfl trivial (fun i st hi hn _=>?_)) (fun q _=>?_)
  ·obtain⟨a,x⟩:=st
   replace hi:x=(i:Int):=hi
   show Qi (Qkv e (Qe5 n) d a x) _
   unfold Qkv
   refine T1 (fun hc=>?_) (fun hc=>T2 (Qw trivial))
   simp only [Q0]at hc
   refine T0 (T4 (by omega) (by omega)) fun k hk=>?_
   have:=Qn6 hk
   refine T0 (QAv n k _ ((QcH he).2 k hk) (by omega)) fun y _=>?_
   refine T1 (fun _=>T2 (Qw trivial)) fun _=>T1 (fun _=>T2 (Qw trivial)) fun _=>?_
   exact T2 (QR ⟨by omega,by subst hi;exact Qx (by omega) (QcH he).1,trivial⟩)
  rcases q with q | q
  ·exact T3
  exact T3
theorem Qyk (e:Qh)(he:Qcz e):Qi (QiC e) fun _=>True:=by
 unfold QiC QrF
 exact T0 (QAv _ e 60 he (Qc2 _)) fun _ _=>T3
theorem QDo (n1:Qq)(h:QZ n1)(q0:Int):Qi (Qjb n1 q0) fun r=>r=true->q0<=400:=by
 unfold Qjb
 refine T0 (Qi.up n1.Tasks.length (fun st=>st.2) (fun _=>True) (Q:=fun _=>True) rfl trivial (fun i st hi hn _=>?_)) (fun q _=>?_)
 ·obtain⟨a,x⟩:=st
  replace hi:x=(i:Int):=hi
  show Qi (Qja n1 a x) _
  unfold Qja
  refine T1 (fun hc=>?_) (fun _=>T2 (Qw trivial))
  simp only [Q0]at hc
  refine T0 (T4 (by omega) (by omega)) fun e he=>?_
  have ke:=h.2.2.1.2 e he
  refine T1 (fun _=>T2 (Qw trivial)) fun _=>?_
  refine T0 (Qi.up e.Vars.length (fun st=>st) (fun _=>True) (Q:=fun _=>True) rfl trivial (fun i2 st hi2 hn2 _=>?_)) (fun q _=>?_)
  ·show Qi (Qi4 e st) _
   unfold Qi4
   refine T1 (fun hc=>?_) (fun _=>T2 (Qw trivial))
   simp only [Q0]at hc
   refine T0 (T4 (by omega) (by omega)) fun s _=>?_
   exact T1 (fun _=>T2 (Qw trivial)) fun _=>T2 (QR ⟨by omega,by rw [hi2];exact Qx (by omega) ke.2.1.1,trivial⟩)
  rcases q with q | q
  ·exact T2 (Qw trivial)
  show Qi (Qi9 e a x) _
  unfold Qi9
  refine T0 (Qyk e.Guard ke.2.2.1) fun g _=>?_
  refine T0 (Qi.up e.Ins.length (fun st=>st.2) (fun _=>True) (Q:=fun _=>True) rfl trivial (fun i2 st hi2 hn2 _=>?_)) (fun q _=>?_)
  ·obtain⟨b,y⟩:=st
   replace hi2:y=(i2:Int):=hi2
   show Qi (Qi5 e b y) _
   unfold Qi5
   refine T1 (fun hc=>?_) (fun _=>T2 (Qw trivial))
   simp only [Q0]at hc
   refine T0 (T4 (by omega) (by omega)) fun s hs=>?_
   refine T0 (Qyk s.Expr (ke.2.2.2.2.2.1.2 s hs).2) fun g _=>?_
   exact T2 (QR ⟨by omega,by subst hi2;exact Qx (by omega) ke.2.2.2.2.2.1.1,trivial⟩)
  show Qi (Qi8 e a x q) _
  unfold Qi8
  refine T0 (Qi.up e.Outs.length (fun st=>st.2) (fun _=>True) (Q:=fun _=>True) rfl trivial (fun i2 st hi2 hn2 _=>?_)) (fun q _=>?_)
  ·obtain⟨b,y⟩:=st
   replace hi2:y=(i2:Int):=hi2
   show Qi (Qi6 e b y) _
   unfold Qi6
   refine T1 (fun hc=>?_) (fun _=>T2 (Qw trivial))
   simp only [Q0]at hc
   refine T0 (T4 (by omega) (by omega)) fun s hs=>?_
   refine T0 (Qyk s.Expr (ke.2.2.2.2.2.2.1.2 s hs).2) fun g _=>?_
   exact T2 (QR ⟨by omega,by subst hi2;exact Qx (by omega) ke.2.2.2.2.2.2.1.1,trivial⟩)
  show Qi (Qi7 a e x q) _
  unfold Qi7
  exact T1 (fun _=>T2 (Qw trivial)) fun _=>T2 (QR ⟨by omega,by subst hi;exact Qx (by omega) h.2.2.1.1,trivial⟩)
 rcases q with q | q
 ·exact T2 fun h=>by cases h
 exact T2 fun h=>by simpa using h
theorem QDp (n1:Qq)(h:QZ n1):Qi (Qln n1) fun r=>r=true->n1.Colours.length<=40/\n1.Places.length<=70/\n1.Tasks.length<=70:=by
 unfold Qln
 refine T1 (fun _=>T2 fun h=>by cases h) fun hc=>?_
 simp only [Qdf,QaT]at hc
 refine T6 (P:=fun _=>True) ?_ fun _ _ _=>by omega
 refine T0 (Qi.up n1.Colours.length (fun st=>st.2) (fun _=>True) (Q:=fun _=>True) rfl trivial (fun i st hi hn _=>?_)) (fun q _=>?_)
 ·obtain⟨a,x⟩:=st
  replace hi:x=(i:Int):=hi
  show Qi (Qky n1 a x) _
  unfold Qky
  refine T1 (fun hc=>?_) (fun _=>T2 (Qw trivial))
  simp only [Q0]at hc
  refine T0 (T4 (by omega) (by omega)).self fun e he=>?_
  obtain⟨he,hm⟩:=he
  refine T0 (P:=fun _=>True) ?_ fun y _=>?_
  ·unfold QrZ
   rw [he,Qn]
   exact T1 (fun _=>T3) fun _=>T3
  unfold Qkx
  refine T1 (fun _=>T2 (Qw trivial)) fun _=>?_
  refine T0 (Qi.up e.Names.length (fun st=>st) (fun _=>True) (Q:=fun _=>True) rfl trivial (fun i2 st hi2 hn2 _=>?_)) (fun q _=>?_)
  ·show Qi (Qkw n1 x st) _
   unfold Qkw
   simp only [he,Qn]
   refine T1 (fun hc=>?_) (fun _=>T2 (Qw trivial))
   simp only [Q0]at hc
   refine T0 (T4 (by omega) (by omega)) fun s _=>?_
   refine T1 (fun _=>T2 (Qw trivial)) fun _=>?_
   exact T2 (QR ⟨by omega,by rw [hi2];exact Qx (by omega) (h.1.2 e hm).2.2.2.2.1.1,trivial⟩)
  rcases q with q | q
  ·exact T2 (Qw trivial)
  exact T2 (QR ⟨by omega,by subst hi;exact Qx (by omega) h.1.1,trivial⟩)
 rcases q with q | q
 ·exact T3
 show Qi (Qjc n1 q) _
 unfold Qjc
 refine T0 (Qi.up n1.Places.length (fun st=>st.2) (fun _=>True) (Q:=fun _=>True) rfl trivial (fun i st hi hn _=>?_)) (fun q _=>?_)
 ·obtain⟨a,x⟩:=st
  replace hi:x=(i:Int):=hi
  show Qi (Qkz n1 a x) _
  unfold Qkz
  refine T1 (fun hc=>?_) (fun _=>T2 (Qw trivial))
  simp only [Q0]at hc
  refine T0 (T4 (by omega) (by omega)) fun e _=>?_
  refine T0 (T4 (by omega) (by omega)) fun e2 _=>?_
  exact T1 (fun _=>T2 (Qw trivial)) fun _=>T2 (QR ⟨by omega,by subst hi;exact Qx (by omega) h.2.1.1,trivial⟩)
 rcases q with q | q
 ·exact T3
 exact(QDo n1 h q).mono fun _ _=>trivial
theorem QDq (m:List (List (Int×Int)))(h:m.length<=maxLen):Qi (QnJ m) fun _=>True:=by
 unfold QnJ
 refine T0 (Qi.up m.length (fun st=>st.2) (fun _=>True) (Q:=fun _=>True) rfl trivial (fun i st hi hn _=>?_)) (fun q _=>T3)
 obtain⟨a,x⟩:=st
 replace hi:x=(i:Int):=hi
 show Qi (QkA m a x) _
 unfold QkA
 refine T1 (fun hc=>?_) (fun _=>T2 (Qw trivial))
 simp only [QB,Q0]at hc
 refine T0 (T4 (by omega) (by omega)) fun e _=>?_
 exact T2 (QR ⟨by omega,by subst hi;exact Qx (by omega) h,trivial⟩)
theorem QDr {l:List (Int×Int)}(h:Asc l):∀{a:Int},(∀p∈l,a<=p.1)->∀(i:Nat) (hi:i<l.length),a+i<=(l[i]).1:=by
 induction l with
 | nil=>intro a _ i hi;simp at hi
 | cons p l ih=>
  intro a ha i hi
  obtain⟨h1,h2⟩:=QfR.1 h
  cases i with
  | zero=>have:=ha p Qb9;simpa using this
  | succ i=>
   have h3:=ih h2 (a:=a+1) (fun q hq=>by have:=h1 q hq;have:=ha p Qb9;omega) i (by simpa using hi)
   simp only [List.getElem_cons_succ]
   omega
theorem QCY {l:List (Int×Int)}(h:Asc l)(h0:0<l.length){k:Int}(hk:0<QA l k):k<=(l[l.length-1]).1:=by
 unfold QA at hk
 cases e:QV l k with
 | none=>rw [e]at hk;simp at hk
 | some v=>
  obtain⟨j,hj,hjk⟩:=Qu5.1 ((QbG h.nd).1 e)
  by_cases c:j=l.length-1
  ·subst c;rw [hjk];exact Int.le_refl _
  have:=List.pairwise_iff_getElem.1 h j (l.length-1) hj (by omega) (by omega)
  rw [hjk]at this
  simp only at this
  omega
def MOk (n:Qq)(c:Nat)(m:List (List (Int×Int))):Prop:=m.length=n.Places.length/\∀b∈m,Rt b/\b.length<=c
theorem MOk.mono {n:Qq}{c c':Nat}{m:List (List (Int×Int))}(h:MOk n c m)(hc:c<=c'):MOk n c' m:=⟨h.1,fun b hb=>⟨(h.2 b hb).1,QcA (h.2 b hb).2 hc⟩⟩
def Low (n:Qq)(m:List (List (Int×Int))):Prop:=∀(j:Nat) b p,m[j]? = some b->n.Places[j]? = some p->∀k,0<QA b k->∃z,QaU n.Colours p.Colour=some z/\k<z
theorem QzN (n1:Qq)(m:List (List (Int×Int)))(h:QZ n1)(hm:QI (QI fun _=>True) m):Qi (QmT n1 m) fun r=>r=true->MOk n1 1024 m/\Low n1 m:=by
 unfold QmT
 refine T1 (fun _=>T2 fun h=>by cases h) fun hc=>?_
 have hl:m.length=n1.Places.length:=by simp only [bne_eq_false_iff_eq]at hc;omega
 refine T0 (Qi.up m.length (fun st=>st) (fun st=>∀(j:Nat) (hj:j<m.length),(j:Int)<st->(Rt m[j]/\(m[j]).length<=1024)/\∀p,n1.Places[j]? = some p->∀k,0<QA m[j] k->∃z,QaU n1.Colours p.Colour=some z/\k<z) (Q:=fun q=>q=.inr ()->(∀b∈m,Rt b/\b.length<=1024)/\Low n1 m) rfl (fun j _ hj=>by omega) (fun i st hi hn hJ=>?_)) (fun q hq=>?_)
 ·show Qi (Qjq m n1 st) _
  unfold Qjq
  refine T1 (fun hc=>?_) (fun hc=>T2 (Qw fun _=>⟨fun b hb=>by
   obtain⟨j,hj,rfl⟩:=Qu5.1 hb
   simp only [QaT]at hc
   exact(hJ j hj (by omega)).1,fun j b p hb hp=>by
   obtain⟨hj,rfl⟩:=QX.1 hb
   simp only [QaT]at hc
   exact(hJ j hj (by omega)).2 p hp⟩))
  simp only [Q0]at hc
  have hlt:i<m.length:=by omega
  have hlp:i<n1.Places.length:=by omega
  rw [hi,Q7,QM hlt,Qn,Q7,QM hlp,Qn]
  refine T0 (Qm4 n1.Colours (n1.Places[i]).Colour h.1).self fun sz hsz=>?_
  obtain⟨hze,hsz⟩:=hsz
  have hb:=hm.2 _ (Qbk hlt)
  have hbl:=hb.1
  refine T0 (P:=fun r=>r=false->(Rt m[i]/\(m[i]).length<=1024)/\∀k,0<QA m[i] k->k<sz) ?_ fun x hx=>?_
  ·unfold Qq2
   rw [QuS _ hb.1,Qn]
   refine T1 (fun _=>T2 fun h=>by cases h) fun hr=>?_
   have hrt:=Qa5.1 (by simpa using hr:rtF (-1) m[i]=true)
   refine T1 (fun h0=>?_) (fun h0=>T2 fun _=>⟨⟨hrt,by simp only [QaT]at h0;omega⟩,fun k hk=>by
    simp only [QaT]at h0
    rw [show m[i]=[]from Qmh.1 (by omega)]at hk
    simp [QA,QV]at hk⟩)
   simp only [Q0]at h0
   unfold maxLen at hbl
   rw [QaK (by omega),show((m[i]).length:Int)-1=(((m[i]).length-1:Nat):Int) by omega,Q7,QM (by omega),Qn]
   refine T2 fun hf=>?_
   simp only [QaT]at hf
   have:=QDr hrt.1 (a:=0) (fun p hp=>(hrt.2 p hp).1) ((m[i]).length-1) (by omega)
   refine⟨⟨hrt,by omega⟩,fun k hk=>?_⟩
   have:=QCY hrt.1 (by omega) hk
   omega
  unfold Qjp
  refine T1 (fun _=>T2 (Qw fun h=>by cases h)) fun hxf=>?_
  refine T2 (QR ⟨hlt,Qx hlt hm.1,fun j hj hjs=>?_⟩)
  rw [Qx hlt hm.1]at hjs
  by_cases c:j=i
  ·subst c
   refine⟨(hx hxf).1,fun p hp k hk=>⟨sz,?_,(hx hxf).2 k hk⟩⟩
   rw [QM hlp]at hp
   cases hp
   exact hze
  exact hJ j hj (by omega)
 rcases q with q | q
 ·exact T2 fun h=>by cases h
 exact T2 fun _=>⟨⟨hl,(hq rfl).1⟩,(hq rfl).2⟩
structure QbA (n:Qq):Prop where
 k:QZ n
 pl:n.Places.length<=70
 tl:n.Tasks.length<=12
 tk:∀t∈n.Tasks,t.Vars.length<=16/\t.Ins.length<=16/\t.Outs.length<=16/\t.Cancel.length<=16
theorem QB6 (n1:Qq)(k2:Int)(h:Qde n1 k2=some 0):∃t,idx n1.Tasks k2=some t/\t.Vars.length<=16/\t.Ins.length<=16/\t.Outs.length<=16/\t.Cancel.length<=16:=by
 unfold Qde at h
 obtain⟨x5,_,h⟩:=Qb h
 rcases Qo h with⟨_,h⟩|⟨_,h⟩
 ·cases h
 obtain⟨x7,_,h⟩:=Qb h
 rcases Qo h with⟨c,h⟩|⟨_,h⟩
 ·simp only [Option.some.injEq]at h;rw [h]at c;cases c
 obtain⟨e9,he9,h⟩:=Qb h
 obtain⟨e10,he10,h⟩:=Qb h
 rw [he9]at he10;cases he10
 obtain⟨_,_,h⟩:=Qb h
 obtain⟨_,_,h⟩:=Qb h
 obtain⟨_,_,h⟩:=Qb h
 obtain⟨_,_,h⟩:=Qb h
 obtain⟨x15,hx,h⟩:=Qb h
 have bad:∀a b:Int,0<a->x15=(a,b)->False:=fun a b ha e=>by
  subst e
  simp only at h
  rcases Qo h with⟨c,h⟩|⟨_,h⟩
  ·simp only [beq_iff_eq]at c;omega
  simp only [Option.some.injEq]at h;omega
 unfold QfO at hx
 obtain⟨x20,_,hx⟩:=Qb hx
 rcases Qo hx with⟨_,hx⟩|⟨_,hx⟩
 ·exact(bad _ _ (by decide) (Option.some.inj hx).symm).elim
 obtain⟨x22,_,hx⟩:=Qb hx
 rcases Qo hx with⟨_,hx⟩|⟨_,hx⟩
 ·exact(bad _ _ (by decide) (Option.some.inj hx).symm).elim
 obtain⟨x24,h24,hx⟩:=Qb hx
 rcases Qo hx with⟨_,hx⟩|⟨c,hx⟩
 ·exact(bad _ _ (by decide) (Option.some.inj hx).symm).elim
 unfold Qht at h24
 simp only [Option.some.injEq]at h24
 rw [<-h24]at c
 simp only [QhL,QB,Q0,QkU]at c
 exact⟨e9,he9,by omega,by omega,by omega,by omega⟩
theorem QAp (l1:List QG)(n1:Qq)(h:QZ n1)(hl:QI QaG l1):Qi (Qcy l1 n1) fun r=>r.2=0->∀(j:Nat),j<l1.length->Qde n1 j=some 0:=by
 unfold Qcy
 refine T0 (Qi.up l1.length (fun st=>st) (fun st=>∀(j:Nat),(j:Int)<st->Qde n1 j=some 0) (Q:=fun q=>(∀a b,q=.inl (a,b)->b≠0)/\(q=.inr ()->∀(j:Nat),j<l1.length->Qde n1 j=some 0)) rfl (fun j hj=>by omega) (fun i st hi hn hJ=>?_)) (fun q hq=>?_)
 ·show Qi (QbR l1 n1 st) _
  unfold QbR
  refine T1 (fun hc=>?_) (fun hc=>T2 (Qw ⟨fun a b h=>(by cases h),fun _ j hj=>by
   simp only [QaT]at hc
   exact hJ j (by omega)⟩))
  simp only [Q0]at hc
  refine T0 (T4 (by omega) (by omega)) fun e he=>?_
  refine T0 (P:=fun x=>Qde n1 st=some x) ?_ fun x hx=>?_
  ·unfold Qit
   exact T0 (Qsn n1 st h).self fun x hx=>T2 hx.1
  refine T1 (fun hc=>T2 (Qw ⟨fun a b h=>(by cases h;simpa using hc),fun h=>(by cases h)⟩)) fun hc=>?_
  simp only [bne_eq_false_iff_eq]at hc
  refine T2 (QR ⟨by omega,by rw [hi];exact Qx (by omega) hl.1,fun j hj=>?_⟩)
  rw [hi,Qx (show i<l1.length by omega) hl.1]at hj
  by_cases c:j=i
  ·subst c;rw [<-hi,hx,hc]
  exact hJ j (by omega)
 rcases q with q | q
 ·exact T2 fun h=>absurd h (hq.1 q.1 q.2 rfl)
 exact T2 fun _=>hq.2 rfl
theorem QB7 (n1:Qq)(h:QZ n1){p:Qfh}(hn:QiD n1=some (0,p)):∀t∈n1.Tasks,t.Vars.length<=16/\t.Ins.length<=16/\t.Outs.length<=16/\t.Cancel.length<=16:=by
 unfold QiD at hn
 obtain⟨x6,_,hn⟩:=Qb hn
 rcases Qo hn with⟨c,hn⟩|⟨_,hn⟩
 ·simp only [Option.some.injEq,Prod.mk.injEq]at hn;rw [hn.1]at c;cases c
 obtain⟨x8,_,hn⟩:=Qb hn
 rcases Qo hn with⟨c,hn⟩|⟨_,hn⟩
 ·simp only [Option.some.injEq,Prod.mk.injEq]at hn;rw [hn.1]at c;cases c
 obtain⟨x10,_,hn⟩:=Qb hn
 rcases Qo hn with⟨c,hn⟩|⟨_,hn⟩
 ·simp only [Option.some.injEq,Prod.mk.injEq]at hn;rw [hn.1]at c;cases c
 obtain⟨x12,h12,hn⟩:=Qb hn
 rcases Qo hn with⟨c,hn⟩|⟨c,hn⟩
 ·simp only [Option.some.injEq,Prod.mk.injEq]at hn;rw [hn.1]at c;cases c
 simp only [bne_eq_false_iff_eq]at c
 obtain⟨r,hr,hr2⟩:=QAp n1.Tasks n1 h h.2.2.1
 rw [h12]at hr;cases hr
 intro t ht
 obtain⟨j,hj,rfl⟩:=Qu5.1 ht
 obtain⟨t,h1,h2⟩:=QB6 n1 j (hr2 c j hj)
 rw [Q7,QM hj]at h1
 cases h1
 exact h2
theorem QD5 (n1:Qq)(m:List (List (Int×Int)))(h:QZ n1)(hm:QI (QI fun _=>True) m):Qi (QmU n1 m) fun r=>r=true->QbA n1/\MOk n1 1024 m/\Low n1 m:=by
 unfold QmU
 refine T0 (QDp n1 h) fun x5 h5=>?_
 refine T0 (QDq m hm.1) fun x6 _=>?_
 refine T1 (fun _=>T2 fun h=>by cases h) fun hc=>?_
 simp only [Qdf,QhL,QaT]at hc
 have h5:=h5 hc.1
 refine T0 (Qy5 n1 h).self fun x11 h11=>?_
 refine T0 (P:=fun r=>r=false->QbA n1/\MOk n1 1024 m/\Low n1 m) ?_ fun x12 h12=>?_
 ·unfold Qq5
  refine T1 (fun _=>T2 fun h=>by cases h) fun hc1=>?_
  simp only [bne_eq_false_iff_eq]at hc1
  refine T0 (QzN n1 m h hm) fun r hr=>T2 fun hrf=>⟨⟨h,h5.2.1,by omega,?_⟩,hr (by simpa using hrf)⟩
  obtain⟨a,b⟩:=x11
  simp only at hc1
  subst hc1
  exact QB7 n1 h h11.1
 unfold Qjs
 refine T1 (fun _=>T2 fun h=>by cases h) fun hx=>?_
 have hfin:=h12 hx
 refine T6 (P:=fun _=>True) ?_ fun _ _ _=>hfin
 refine T0 (Qi.up n1.Tasks.length (fun st=>st.2) (fun _=>True) (Q:=fun _=>True) rfl trivial (fun i st hi hn _=>?_)) (fun q _=>T3)
 obtain⟨a,x⟩:=st
 replace hi:x=(i:Int):=hi
 show Qi (Qjr n1 a x) _
 unfold Qjr
 refine T1 (fun hc=>?_) (fun _=>T2 (Qw trivial))
 simp only [Q0]at hc
 refine T0 (T4 (by omega) (by omega)) fun e _=>?_
 refine T0 (Qrr n1 x h) fun y _=>?_
 exact T2 (QR ⟨by omega,by subst hi;exact Qx (by omega) h.2.2.1.1,trivial⟩)
end Go.Proofs
noncomputable section
namespace Go.Proofs
open Go Go.RowKit Go.Vm
theorem Qyz (s:Qaw)(m:Int)(h:0<=s.k/\s.k<s.sizes.length):Qi (Qb1 s m) fun r=>r=true->0<=m:=by
 unfold Qb1
 refine T0 (P:=fun r=>r=true->0<=m) ?_ fun x hx=>T2 hx
 unfold Qer
 refine T1 (fun hc=>?_) fun _=>T2 fun h=>by cases h
 exact T0 (T4 h.1 h.2) fun _ _=>T2 fun _=>by simpa using hc
theorem QhD (s:Qaw)(h:0<=s.k/\s.k<s.all.length):Qi (QbB s) fun _=>True:=by
 unfold QbB
 exact T0 (T4 h.1 h.2) fun _ _=>T3
theorem QCZ (l:List QE)(k m:Int)(hl:QI Qa8 l):Qi (Qc4 l k m) fun _=>True:=by
 unfold Qc4
 refine T0 (Qiw l k hl) fun x hx=>?_
 refine T0 (P:=fun r=>r=false->x.1=true) ?_ fun r hr=>?_
 ·unfold Qgt
  refine T1 (fun _=>T2 fun h=>by cases h) fun hc=>?_
  have hc:x.1=true:=by simpa using hc
  have h:=hx.2 hc
  exact T0 (Qyz x.2 m (by omega)) fun _ _=>T2 fun _=>hc
 unfold Qdx
 refine T1 (fun _=>T3) fun hc=>?_
 have h:=hx.2 (hr hc)
 refine T0 (QhD x.2 (by omega)) fun _ _=>?_
 refine T1 (fun _=>?_) fun _=>T3
 exact T0 (QhD x.2 (by omega)) fun _ _=>T3
theorem QzO (l:List QE)(k n:Int)(hl:QI Qa8 l):Qi (Qc5 l k n) fun r=>r.2=true->0<=r.1:=by
 unfold Qc5
 refine T0 (Qiw l k hl) fun x hx=>?_
 refine T1 (fun _=>T2 fun h=>by cases h) fun hc=>?_
 have h:=hx.2 (by simpa using hc)
 have k1:∀m,Qi (QbX x m) fun r=>r.2=true->0<=r.1:=fun m=>by
  unfold QbX
  refine T0 (Qyz x.2 m (by omega)) fun y hy=>?_
  exact T1 (fun _=>T2 fun h=>by cases h) fun hc=>T2 fun _=>hy (by simpa using hc)
 refine T0 (QhD x.2 (by omega)) fun _ _=>?_
 refine T1 (fun _=>?_) fun _=>k1 _
 exact T1 (fun _=>T2 fun h=>by cases h) fun _=>k1 _
theorem QB8 (l:List QE)(k n:Int)(hl:QI Qa8 l):Qi (Qc5 l k n) fun r=>r.2=true->∃z,QaU l k=some z/\r.1<z:=by
 unfold Qc5 QaU
 refine T0 (Qiw l k hl).self fun x hx=>?_
 obtain⟨hxe,hx⟩:=hx
 refine T1 (fun _=>T2 fun h=>by cases h) fun hc=>?_
 have h:=hx.2 (by simpa using hc)
 have hk:k.toNat<x.2.sizes.length:=by omega
 have ei:idx x.2.sizes k=some x.2.sizes[k.toNat]:=Qm1 h.1.1 h.1.2
 have k1:∀m,Qi (QbX x m) fun r=>r.2=true->∃z,((Qc7 l k).bind fun x5=>bif (!x5.1)then some 0 else(idx x5.2.sizes k).bind fun e7=>some e7)=some z/\r.1<z:=fun m=>by
  unfold QbX
  refine T0 (P:=fun y=>y=true->m<x.2.sizes[k.toNat]) ?_ fun y hy=>?_
  ·unfold Qb1
   refine T0 (P:=fun y=>y=true->m<x.2.sizes[k.toNat]) ?_ fun y hy=>T2 hy
   unfold Qer
   refine T1 (fun _=>?_) fun _=>T2 fun h=>by cases h
   rw [h.2.1,ei,Qn]
   exact T2 fun h=>by simpa using h
  refine T1 (fun _=>T2 fun h=>by cases h) fun hc2=>T2 fun _=>⟨x.2.sizes[k.toNat],?_,hy (by simpa using hc2)⟩
  rw [hxe,Qn,hc,cond_false,ei];rfl
 refine T0 (QhD x.2 (by omega)) fun _ _=>?_
 refine T1 (fun _=>?_) fun _=>k1 _
 exact T1 (fun _=>T2 fun h=>by cases h) fun _=>k1 _
theorem Qnw {α:Type}{o:Option α}{P:α->Prop}(h:Qi o P){r:α}(e:o=some r):P r:=by
 obtain⟨r',h1,h2⟩:=h
 rw [e]at h1;cases h1;exact h2
theorem QzP : ∀(n:Nat) (v:List Int) (e:Qh),POk v.length e->SizeOf.sizeOf e<=n->Qi (Q5 n v e) fun _=>True
 | 0,_,e,_,h=>absurd e.pos (by omega)
 | n+1,v,e,he,h=>by
  cases he with
  | mk _ hk h2 h3 h5 h6 hr=>
  unfold Q5 Qfb
  have sub:∀(j:Nat) (hj:j<e.Kids.length),Qi (Q5 n v (e.Kids[j])) fun _=>True:=fun j hj=>
   QzP n v _ (hr _ (Qbk hj)) (by have:=Qn6 (Qbk hj);omega)
  have kid:∀(j:Nat) (hj:j<e.Kids.length),idx e.Kids (j:Int)=some e.Kids[j]:=fun j hj=>by rw [Q7,QM hj]
  rcases hk with hk | hk | hk | hk | hk | hk
  ·refine T0 (P:=fun x=>x=.inl v) (by unfold Qcr;rw [hk];exact T2 rfl) fun x hx=>?_
   subst hx
   exact T3
  ·refine T0 (P:=fun x=>x=.inr (.inl v)) (by unfold Qcr;rw [hk];exact T2 rfl) fun x hx=>?_
   subst hx
   show Qi (Qdy e v) _
   unfold Qdy QfU
   have:=h2 hk
   exact T0 (T0 (T4 (by omega) (by omega)) fun _ _=>T3) fun _ _=>T3
  ·refine T0 (P:=fun x=>x=.inr (.inr (.inl v))) (by unfold Qcr QbV;rw [hk];exact T2 rfl) fun x hx=>?_
   subst hx
   show Qi (QbW (Q5 n) e v) _
   unfold QbW Qfa
   have hl:=h3 (.inl hk)
   refine T0 (P:=fun _=>True) ?_ fun _ _=>T3
   rw [show idx e.Kids 0=some (e.Kids[0]'(by omega))from kid 0 (by omega),Qn]
   refine T0 (sub 0 (by omega)) fun x _=>?_
   refine T1 (fun _=>T3) fun _=>T1 (fun _=>T0 (QuR _) fun _ _=>T3) fun _=>T0 (QgT _ _ _) fun _ _=>T3
  ·refine T0 (P:=fun x=>x=.inr (.inr (.inl v))) (by unfold Qcr QbV;rw [hk];exact T2 rfl) fun x hx=>?_
   subst hx
   show Qi (QbW (Q5 n) e v) _
   unfold QbW Qfa
   have hl:=h3 (.inr hk)
   refine T0 (P:=fun _=>True) ?_ fun _ _=>T3
   rw [show idx e.Kids 0=some (e.Kids[0]'(by omega))from kid 0 (by omega),Qn]
   refine T0 (sub 0 (by omega)) fun x _=>?_
   refine T1 (fun _=>T3) fun _=>T1 (fun _=>T0 (QuR _) fun _ _=>T3) fun _=>T0 (QgT _ _ _) fun _ _=>T3
  ·refine T0 (P:=fun x=>x=.inr (.inr (.inr (.inl v)))) (by unfold Qcr QbV;rw [hk];exact T2 rfl) fun x hx=>?_
   subst hx
   show Qi (Qdz (Q5 n) e v) _
   unfold Qdz Qkq
   have hl:=h5 hk
   refine T0 (P:=fun _=>True) ?_ fun _ _=>T3
   rw [show idx e.Kids 0=some (e.Kids[0]'(by omega))from kid 0 (by omega),Qn]
   refine T0 (sub 0 (by omega)) fun x _=>?_
   have k1:∀b,Qi (QcX x e (Q5 n) v b) fun _=>True:=fun b=>by
    unfold QcX
    refine T1 (fun _=>T0 (QgT _ _ _) fun _ _=>T3) fun _=>?_
    rw [show idx e.Kids 1=some (e.Kids[1]'(by omega))from kid 1 (by omega),Qn]
    refine T0 (sub 1 (by omega)) fun y _=>?_
    exact T1 (fun _=>T3) fun _=>T0 (QgT _ _ _) fun _ _=>T3
   exact T1 (fun _=>T3) fun _=>T1 (fun _=>k1 _) fun _=>T1 (fun _=>k1 _) fun _=>k1 _
  refine T0 (P:=fun x=>x=.inr (.inr (.inr (.inr v)))) (by unfold Qcr QbV;rw [hk];exact T2 rfl) fun x hx=>?_
  subst hx
  show Qi (QdA (Q5 n) e v) _
  unfold QdA Qg4
  have hl:=h6 hk
  refine T0 (P:=fun _=>True) ?_ fun _ _=>T3
  rw [show idx e.Kids 0=some (e.Kids[0]'(by omega))from kid 0 (by omega),Qn]
  refine T0 (sub 0 (by omega)) fun x _=>?_
  refine T1 (fun _=>T3) fun _=>T1 (fun _=>?_) fun _=>?_
  ·rw [show idx e.Kids 1=some (e.Kids[1]'(by omega))from kid 1 (by omega),Qn]
   exact T0 (sub 1 (by omega)) fun y _=>T3
  rw [show idx e.Kids 2=some (e.Kids[2]'(by omega))from kid 2 (by omega),Qn]
  exact T0 (sub 2 (by omega)) fun y _=>T3
theorem QB9 (e:Qh)(v:List Int)(h:Qcz e):Qi (QgO e v) fun _=>True:=by
 unfold QgO
 refine T0 (QkV e v.length h) fun x hx=>?_
 refine T1 (fun _=>T3) fun hc=>?_
 unfold Qi0
 exact T0 (QzP _ v e (hx (by simpa using hc)) (Qc2 _)) fun _ _=>T3
theorem QBj (n:Qq)(task:Int)(vars:List Int)(h:QbA n):Qi (Qdj n task vars) fun r=>r.2=0->0<=task/\task<n.Tasks.length:=by
 unfold Qdj
 refine T1 (fun _=>T2 fun h=>by cases h) fun hc=>?_
 simp only [Qdf,QaT]at hc
 refine T0 (T4 (by omega) (by omega)) fun e he=>?_
 have hv:=(h.tk e he).1
 have ke:=h.k.2.2.1.2 e he
 refine T1 (fun _=>T2 fun h=>by cases h) fun hl=>?_
 simp only [bne_eq_false_iff_eq]at hl
 refine T0 (T5 (by simp only [QB,Q0];omega)) fun _ _=>?_
 refine T6 (P:=fun _=>True) ?_ fun _ _ _=>by omega
 refine T0 (Qi.up e.Vars.length (fun st=>st.1) (fun st=>st.2.length=e.Vars.length) (Q:=fun _=>True) rfl (by simp) (fun i st hi hn hJ=>?_)) (fun q _=>?_)
 ·obtain⟨x,l⟩:=st
  replace hi:x=(i:Int):=hi
  replace hJ:l.length=e.Vars.length:=hJ
  show Qi (QcJ e vars n x l) _
  unfold QcJ
  refine T1 (fun hc=>?_) (fun _=>T2 (Qw trivial))
  simp only [Q0]at hc
  refine T0 (T4 (by omega) (by omega)) fun a _=>?_
  refine T0 (T4 (by omega) (by omega)) fun b _=>?_
  refine T0 (QCZ _ _ _ h.k.1) fun c _=>?_
  refine T1 (fun _=>T2 (Qw trivial)) fun _=>?_
  refine T0 (T4 (by omega) (by omega)) fun d _=>?_
  exact T2 (QR ⟨by omega,by subst hi;exact Qx (by omega) (by unfold maxLen;omega:e.Vars.length<=maxLen),by simpa using hJ⟩)
 rcases q with q | q
 ·exact T3
 exact T3
theorem Qpk {α:Type}{l:List α}{i:Nat}{x y:α}(h:y∈l.set i x):y=x\/y∈l:=by
 rcases List.mem_or_eq_of_mem_set h with h | h
 ·exact .inr h
 exact .inl h
theorem Ql6 (n:Qq)(l:List Qap)(which env:List Int)(h:QbA n)(hl:QI Qiu l)(hw:which.length<=1000):Qi (Qal n l which env) fun r=>r.2=0->MOk n which.length r.1/\Low n r.1:=by
 unfold Qal
 have hpl:=h.pl
 refine T0 (T5 (by simp only [QB,Q0];omega)) fun _ _=>?_
 refine T0 (Qi.up which.length (fun st=>st.1) (fun st=>(st.2.length=n.Places.length/\∀b∈st.2,Rt b/\(b.length:Int)<=st.1)/\Low n st.2) (Q:=fun q=>(∀x,q=.inl x->x≠0)/\∀m,q=.inr m->MOk n which.length m/\Low n m) rfl ⟨⟨by simp,fun b hb=>?_⟩,fun j b p hb hp k hk=>?_⟩ (fun i st hi hn hJ=>?_)) (fun q hq=>?_)
 ·have:=Qsr hb
  subst this
  exact⟨Rt.nil,by simp⟩
 ·have:=Qsr (Qaa hb)
  subst this
  simp [QA,QV]at hk
 ·obtain⟨x,m⟩:=st
  replace hi:x=(i:Int):=hi
  obtain⟨⟨hJ1,hJ2⟩,hJ3⟩:(m.length=n.Places.length/\∀b∈m,Rt b/\(b.length:Int)<=x)/\Low n m:=hJ
  have err:∀y:Int,y≠0->(∀s',(Sum.inr (Sum.inl y):(Int×List (List (Int×Int)))⊕(Int⊕List (List (Int×Int))))=.inl s'->i<which.length/\s'.1=((i+1:Nat):Int)/\(s'.2.length=n.Places.length/\∀b∈s'.2,Rt b/\(b.length:Int)<=s'.1)/\Low n s'.2)/\∀r,(Sum.inr (Sum.inl y):(Int×List (List (Int×Int)))⊕(Int⊕List (List (Int×Int))))=.inr r->(∀x,r=.inl x->x≠0)/\∀m,r=.inr m->MOk n which.length m/\Low n m:=
   fun y hy=>⟨fun s' e=>(by cases e),fun r e=>(by cases e;exact⟨fun x e=>(by cases e;exact hy),fun m e=>(by cases e)⟩)⟩
  show Qi (Qb2 which l env n x m) _
  unfold Qb2
  refine T1 (fun hc=>?_) (fun hc=>T2 (Qw ⟨fun x e=>(by cases e),fun m' e=>?_⟩))
  ·simp only [Q0]at hc
   refine T0 (T4 (by omega) (by omega)) fun e18 _=>?_
   refine T1 (fun _=>T2 (err _ (by decide))) fun hc1=>?_
   simp only [Qdf,QaT]at hc1
   refine T0 (T4 (by omega) (by omega)) fun e22 h22=>?_
   refine T0 (QB9 e22.Expr env (hl.2 e22 h22).2) fun x23 _=>?_
   refine T1 (fun hc2=>T2 (err _ (by simpa using hc2))) fun _=>?_
   refine T0 (T4 (by omega) (by omega)) fun e25 _=>?_
   refine T1 (fun _=>T2 (err _ (by decide))) fun hc3=>?_
   simp only [Qdf,QaT]at hc3
   refine T0 (T4 (by omega) (by omega)).self fun e29 h29=>?_
   refine T0 (QzO _ _ _ h.k.1).self fun x30 h30=>?_
   refine T1 (fun _=>T2 (err _ (by decide))) fun hc4=>?_
   have hz:=Qnw (QB8 _ _ _ h.k.1) h30.1 (by simpa using hc4)
   have h30:=h30.2 (by simpa using hc4)
   refine T0 (T4 (by omega) (by omega)).self fun e32 h32e=>?_
   have h32:=h32e.2
   have h32e:=h32e.1
   have h29:=h29.1
   rw [Qtb,QH h30]
   simp only [cond_true,Qn]
   have hb:=hJ2 e32 h32
   have key:∃s,Qec e32 [(x30.1,1)]=some s/\(s.2=0->(Rt s.1/\s.1.length<=e32.length+1)/\∀k,QA s.1 k=QA e32 k+QA [(x30.1,1)] k):=by
    rcases Qkc e32 [(x30.1,1)] (by simp;omega)with⟨_,e⟩|⟨_,_,_,e⟩|⟨_,_,r,e,h1,hcn,h2⟩
    ·exact⟨_,e,fun h=>by cases h⟩
    ·exact⟨_,e,fun h=>by cases h⟩
    exact⟨_,e,fun _=>⟨⟨h1,by simpa using h2⟩,hcn⟩⟩
   obtain⟨s,es,hs⟩:=key
   rw [es,Qn]
   refine T0 (T4 (by omega) (by omega)) fun _ _=>?_
   refine T1 (fun hc5=>T2 (err _ (by simpa using hc5))) fun hc5=>?_
   obtain⟨hs,hcn⟩:=hs (by simpa using hc5)
   refine T2 (QR ⟨by omega,by subst hi;exact Qx (by omega) (by unfold maxLen;omega:which.length<=maxLen),⟨by simpa using hJ1,fun b hb'=>?_⟩,fun j b p hb' hp k hk=>?_⟩)
   ·subst hi
    show Rt b/\(b.length:Int)<=w64 ((i:Int)+1)
    rw [Qx (by omega) (by unfold maxLen;omega:which.length<=maxLen)]
    rcases Qpk hb' with rfl | hb'
    ·exact⟨hs.1,by omega⟩
    have:=hJ2 b hb'
    exact⟨this.1,by omega⟩
   have hb':(m.set e25.Place.toNat s.1)[j]? = some b:=hb'
   by_cases cj:e25.Place.toNat=j
   ·subst cj
    rw [List.getElem?_set_self (by omega)]at hb'
    cases hb'
    rw [Qma (by omega)]at h29 h32e
    rw [h29]at hp
    cases hp
    rw [hcn]at hk
    by_cases c0:0<QA e32 k
    ·exact hJ3 _ e32 e29 h32e h29 k c0
    have h9:0<QA [(x30.1,1)] k:=by omega
    have h8:x30.1=k:=by
     apply Decidable.byContradiction
     intro hne
     simp [QA,QV,hne]at h9
    obtain⟨z,hz1,hz2⟩:=hz
    exact⟨z,hz1,by omega⟩
   rw [List.getElem?_set_ne cj]at hb'
   exact hJ3 j b p hb' hp k hk
  cases e
  exact⟨⟨hJ1,fun b hb=>⟨(hJ2 b hb).1,by have:=(hJ2 b hb).2;omega⟩⟩,hJ3⟩
 rcases q with q | q
 ·exact T2 fun h=>absurd h (hq.1 q rfl)
 exact T2 fun _=>hq.2 q rfl
theorem QwJ (a m:List (List (Int×Int)))(ha:QI (QI fun _=>True) a)(hm:QI (QI fun _=>True) m):Qi (Qe4 a m) fun _=>True:=by
 unfold Qe4 Qac
 refine T0 (P:=fun _=>True) ?_ fun _ _=>T3
 refine T1 (fun _=>T3) fun hc=>?_
 simp only [bne_eq_false_iff_eq]at hc
 refine T0 (Qi.up a.length (fun st=>st) (fun _=>True) (Q:=fun _=>True) rfl trivial (fun i st hi hn hJ=>?_)) (fun q _=>?_)
 ·show Qi (QK a m st) _
  unfold QK
  refine T1 (fun hc=>?_) (fun _=>T2 (Qw trivial))
  simp only [Q0]at hc
  refine T0 (T4 (by omega) (by omega)) fun x hx=>?_
  refine T0 (T4 (by omega) (by omega)) fun y hy=>?_
  refine T0 (P:=fun _=>True) (by obtain⟨r,hr,_⟩:=Qm5 x y (ha.2 x hx).1 (hm.2 y hy).1;exact⟨r,hr,trivial⟩) fun _ _=>?_
  exact T1 (fun _=>T2 (Qw trivial)) fun _=>T2 (QR ⟨by omega,by rw [hi];exact Qx (by omega) ha.1,trivial⟩)
 rcases q with q | q
 ·exact T3
 exact T3
theorem MOk.len {n:Qq}{c:Nat}{m:List (List (Int×Int))}(h:MOk n c m)(hn:QbA n)(hc:c<=1000000):QI (QI fun _=>True) m:=
 ⟨by have:=h.1;have:=hn.pl;unfold maxLen;omega,fun b hb=>⟨by have:=(h.2 b hb).2;unfold maxLen;omega,fun _ _=>trivial⟩⟩
end Go.Proofs
noncomputable section
namespace Go.Proofs
open Go Go.RowKit Go.Vm
structure BOk (n:Qq) (m:List (List (Int×Int))) (b:QO):Prop where
 net:b.net=n
 mm:b.m=m
 task:b.task∈n.Tasks
theorem QDs (n:Qq)(m:List (List (Int×Int)))(task:Int)(vars:List Int)(h:QbA n):Qi (QbQ n m task vars) fun r=>r.1=0->BOk n m r.2:=by
 unfold QbQ
 refine T0 (QBj n task vars h) fun x hx=>?_
 refine T1 (fun hc=>T2 fun h=>absurd h (by simpa using hc)) fun hc=>?_
 have:=hx (by simpa using hc)
 exact T0 (T4 this.1 this.2) fun e he=>T2 fun _=>⟨rfl,rfl,he⟩
theorem QCa (n:Qq)(m:List (List (Int×Int)))(b:QO)(h:QbA n)(hb:BOk n m b):Qi (Qaf b) fun _=>True:=by
 unfold Qaf
 refine T0 (QB9 _ _ (h.k.2.2.1.2 _ hb.task).2.2.1) fun x _=>?_
 exact T1 (fun _=>T3) fun _=>T1 (fun _=>T3) fun _=>T3
theorem QDt (n:Qq)(m:List (List (Int×Int)))(b:QO)(outs:List Int)(h:QbA n)(hb:BOk n m b)(ho:outs.length<=1000):Qi (Qam b outs) fun _=>True:=by
 unfold Qam
 rw [hb.net]
 exact T0 (Ql6 n _ outs _ h (h.k.2.2.1.2 _ hb.task).2.2.2.2.2.2.1 ho) fun x _=>T3
theorem QBk (l:List Int)(x:Int)(h:l.length<=maxLen):Qi (QaB l x) fun _=>True:=QhK l x ⟨h,fun _ _=>trivial⟩
theorem QyA (l:List Int)(h:l.length<=4294967296):QaF l=some l:=by
 unfold QaF
 rw [Qf4 (by simp;omega)];rfl
theorem QzQ (l:List Int)(h:l.length<=4294967296):Qcx l=some (Qej l):=by
 unfold Qcx
 rw [Qf4 (by omega)];rfl
theorem QDu (n:Qq)(m:List (List (Int×Int)))(b:QO)(ins:List Int)(h:QbA n)(hb:BOk n m b)(hm:QI (QI fun _=>True) m)(hi:ins.length<=100):Qi (Qae b ins) fun _=>True:=by
 have ki:=(h.k.2.2.1.2 _ hb.task).2.2.2.2.2.1
 have kl:=(h.tk _ hb.task).2.1
 unfold Qae
 rw [hb.net,hb.mm]
 refine T0 (Ql6 n _ ins _ h ki (by omega)) fun x hx=>?_
 refine T1 (fun _=>T3) fun hc=>?_
 have hx:=hx (by simpa using hc)
 refine T0 (QwJ _ _ (hx.1.len h (by omega)) hm) fun y _=>?_
 refine T1 (fun _=>T3) fun _=>T1 (fun _=>T3) fun _=>?_
 refine T0 (Qi.up b.task.Ins.length (fun st=>st) (fun _=>True) (Q:=fun _=>True) rfl trivial (fun i st hi hn _=>?_)) (fun q _=>?_)
 ·show Qi (Qaj b ins st) _
  unfold Qaj
  refine T1 (fun hc=>?_) (fun _=>T2 (Qw trivial))
  simp only [Q0]at hc
  have step:Qi (Qcf st) fun o=>(∀s',o=.inl s'->i<b.task.Ins.length/\s'=((i+1:Nat):Int)/\True)/\∀r:Unit⊕Unit,o=.inr r->True:=
   T2 (QR (ix:=fun st=>st) (J:=fun _=>True) (Q:=fun _=>True) ⟨by omega,by rw [hi];exact Qx (by omega) ki.1,trivial⟩)
  refine T0 (QBk ins st (by unfold maxLen;omega)) fun z _=>?_
  refine T1 (fun _=>step) fun _=>?_
  rw [QyA ins (by omega),Qn]
  refine T0 (T5 (by simp;omega)) fun _ _=>?_
  rw [QzQ _ (by simp;omega),Qn]
  refine T0 (T5 (by simp [QhI])) fun _ _=>?_
  rw [hb.net]
  refine T0 (Ql6 n _ _ _ h ki (by rw [QhI];simp;omega)) fun u hu=>?_
  refine T0 (P:=fun _=>True) ?_ fun v _=>?_
  ·unfold QgQ
   rw [hb.mm]
   refine T1 (fun hc2=>?_) fun _=>T3
   have hu:=hu (by simpa using hc2)
   refine T0 (QwJ _ _ (hu.1.len h (by rw [QhI];simp;omega)) hm) fun _ _=>T3
  unfold Qda
  exact T1 (fun _=>T2 (Qw trivial)) fun _=>step
 rcases q with q | q
 ·exact T3
 exact T3
def QzR (r:List (List Int)):Prop:=r.length<=16/\∀row∈r,row.length<=16
def chB (o:Option (List (List Int))):Bool:=match o with
 | some r=>decide (r.length<=16)&&r.all fun row=>decide (row.length<=16)
 | none=>false
theorem QzS {o:Option (List (List Int))}(h:chB o=true):Qi o QzR:=by
 cases o with
 | none=>cases h
 | some r=>
  simp only [chB,QB,Q0,Q9]at h
  exact T2 h
theorem QzT {arcs:Int}(h0:¬arcs<0)(h1:¬16<arcs):arcs=0\/arcs=1\/arcs=2\/arcs=3\/arcs=4\/arcs=5\/arcs=6\/arcs=7\/arcs=8\/arcs=9\/arcs=10\/arcs=11\/arcs=12\/arcs=13\/arcs=14\/arcs=15\/arcs=16:=by omega
set_option maxRecDepth 100000 in
theorem QyB (kind arcs:Int):Qi (QaC kind arcs) QzR:=by
 by_cases hg:((decide (arcs<0))||((decide (16<arcs))||((kind==3)&&(decide (4<arcs)))))=true
 ·unfold QaC
  rw [hg]
  exact T2 ⟨by simp,fun r h=>by cases h⟩
 simp only [QcM,QB,Q0,beq_iff_eq,not_or,not_and]at hg
 obtain⟨h0,h1,h2⟩:=hg
 by_cases e1:kind=1
 ·subst e1
  rcases QzT h0 h1 with rfl | rfl | rfl | rfl | rfl | rfl | rfl | rfl | rfl | rfl | rfl | rfl | rfl | rfl | rfl | rfl | rfl<;>exact QzS (by kernel_rfl)
 by_cases e2:kind=2
 ·subst e2
  rcases QzT h0 h1 with rfl | rfl | rfl | rfl | rfl | rfl | rfl | rfl | rfl | rfl | rfl | rfl | rfl | rfl | rfl | rfl | rfl<;>exact QzS (by kernel_rfl)
 by_cases e3:kind=3
 ·subst e3
  have h3:=h2 rfl
  have:arcs=0\/arcs=1\/arcs=2\/arcs=3\/arcs=4:=by omega
  rcases this with rfl | rfl | rfl | rfl | rfl<;>exact QzS (by kernel_rfl)
 have f1:(kind==1)=false:=by simpa using e1
 have f2:(kind==2)=false:=by simpa using e2
 have f3:(kind==3)=false:=by simpa using e3
 unfold QaC Qfc
 rw [f1,f2,f3]
 exact T1 (fun _=>T2 ⟨by simp,fun r h=>by cases h⟩) fun _=>T2 ⟨by simp,fun r h=>by cases h⟩
theorem QDv (a b:List Int)(ha:a.length<=maxLen):Qi (Qbp a b) fun _=>True:=by
 unfold Qbp
 refine T1 (fun _=>T3) fun hc=>?_
 simp only [bne_eq_false_iff_eq]at hc
 refine T0 (Qi.up a.length (fun st=>st) (fun _=>True) (Q:=fun _=>True) rfl trivial (fun i st hi hn hJ=>?_)) (fun q _=>?_)
 ·show Qi (Qbr a b st) _
  unfold Qbr
  refine T1 (fun hc=>?_) (fun _=>T2 (Qw trivial))
  simp only [Q0]at hc
  refine T0 (T4 (by omega) (by omega)) fun x hx=>?_
  refine T0 (T4 (by omega) (by omega)) fun y hy=>?_
  exact T1 (fun _=>T2 (Qw trivial)) fun _=>T2 (QR ⟨by omega,by rw [hi];exact Qx (by omega) ha,trivial⟩)
 rcases q with q | q
 ·exact T3
 exact T3
theorem QzU (kind arcs:Int)(row:List Int):Qi (Qeb kind arcs row) fun _=>True:=by
 unfold Qeb QcB Qdk
 refine T0 (QyB kind arcs) fun x hx=>?_
 refine T0 (P:=fun _=>True) ?_ fun _ _=>T3
 refine T0 (P:=fun _=>True) ?_ fun _ _=>T3
 have hl:=hx.1
 refine T0 (Qi.up x.length (fun st=>st) (fun _=>True) (Q:=fun _=>True) rfl trivial (fun i st hi hn hJ=>?_)) (fun q _=>?_)
 ·show Qi (Qav x row st) _
  unfold Qav Qi3
  refine T1 (fun hc=>?_) (fun _=>T2 (Qw trivial))
  simp only [Q0]at hc
  refine T0 (T4 (by omega) (by omega)) fun e he=>?_
  have:=hx.2 e he
  refine T0 (T0 (QDv e row (by unfold maxLen;omega)) fun _ _=>T3) fun _ _=>?_
  exact T1 (fun _=>T2 (Qw trivial)) fun _=>T2 (QR ⟨by omega,by rw [hi];exact Qx (by omega) (by unfold maxLen;omega:x.length<=maxLen),trivial⟩)
 rcases q with q | q
 ·exact T3
 exact T3
def Qev (n:Qq)(o:Qp):Prop:=o.Vars.length<=20/\o.Ins.length<=20/\o.Outs.length<=20
theorem QAw (n:Qq)(m:List (List (Int×Int)))(o:Qp)(h:QbA n)(hm:QI (QI fun _=>True) m)(ho:Qev n o):Qi (Qdb n m o) fun _=>True:=by
 unfold Qdb
 refine T0 (QDs n m o.Task o.Vars h) fun x hx=>?_
 have k3:∀e,(e=0->x.1=0)->Qi (Qbn x o e) fun _=>True:=fun e he=>by
  unfold Qbn
  refine T1 (fun _=>T3) fun hc=>?_
  have hb:=hx (he (by simpa using hc))
  refine T0 (P:=fun _=>True) ?_ fun y _=>?_
  ·unfold Qgv
   refine T0 (QzU _ _ _) fun z _=>?_
   exact T1 (fun _=>T3) fun _=>T0 (QzU _ _ _) fun _ _=>T3
  unfold QdV
  refine T1 (fun _=>T3) fun _=>?_
  refine T0 (QDu n m x.2 o.Ins h hb hm (by have:=ho.2.1;omega)) fun z _=>?_
  refine T1 (fun _=>T3) fun _=>?_
  exact T0 (QDt n m x.2 o.Outs h hb (by have:=ho.2.2;omega)) fun _ _=>T3
 refine T1 (fun hc=>?_) fun hc=>k3 _ fun h=>h
 have hc:x.1=0:=by simpa using hc
 exact T0 (QCa n m x.2 h (hx hc)) fun e _=>k3 e fun _=>hc
theorem Qvf (n:Qq)(o:Qp)(h:QbA n)(ho:Qev n o):Qi (QcC n o) fun r=>r.2=0->MOk n 20 r.1/\Low n r.1:=by
 unfold QcC
 refine T0 (QBj n o.Task o.Vars h) fun x hx=>?_
 refine T1 (fun hc=>T2 fun h=>absurd h (by simpa using hc)) fun hc=>?_
 have:=hx (by simpa using hc)
 refine T0 (T4 this.1 this.2) fun e he=>?_
 have hl:=ho.2.1
 exact T0 (Ql6 n _ _ _ h (h.k.2.2.1.2 _ he).2.2.2.2.2.1 (by omega)) fun y hy=>T2 fun h0=>⟨(hy h0).1.mono hl,(hy h0).2⟩
theorem QAx (n:Qq)(o:Qp)(h:QbA n)(ho:Qev n o):Qi (QjS n o) fun r=>r.2=0->(MOk n 20 r.1/\Low n r.1)/\0<=o.Task/\o.Task<n.Tasks.length:=by
 unfold QjS
 refine T0 (QBj n o.Task o.Vars h) fun x hx=>?_
 refine T1 (fun hc=>T2 fun h=>absurd h (by simpa using hc)) fun hc=>?_
 have:=hx (by simpa using hc)
 refine T0 (T4 this.1 this.2) fun e he=>?_
 have hl:=ho.2.2
 exact T0 (Ql6 n _ _ _ h (h.k.2.2.1.2 _ he).2.2.2.2.2.2.1 (by omega)) fun y hy=>T2 fun h0=>⟨⟨(hy h0).1.mono hl,(hy h0).2⟩,this⟩
end Go.Proofs
noncomputable section
namespace Go.Proofs
open Go Go.RowKit Go.Vm
end Go.Proofs
