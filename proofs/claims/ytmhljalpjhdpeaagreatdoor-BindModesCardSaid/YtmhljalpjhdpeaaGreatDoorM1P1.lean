/- A part of the proof; what it holds is told at each theorem. -/
import Derived.Test.YtmhljalpjhdpeaaGreatDoorM1XPlA
import Derived.Test.YtmhljalpjhdpeaaGreatDoorM1V3
import Derived.Test.YtmhljalpjhdpeaaGreatDoorM1T3
import Derived.KernelRfl
set_option linter.unusedVariables false
set_option linter.unusedSimpArgs false
set_option linter.unusedSectionVars false
set_option linter.deprecated false
namespace Go.Vm
open Go Go.RowKit
def Qg {α:Type}(o:Option α)(Q:α->Prop):Prop:=∃r,o=some r/\Q r
section
variable {α β σ ρ:Type}
theorem Qg.ok {a:α}{Q:α->Prop}(h:Q a):Qg (some a) Q:=⟨a,rfl,h⟩
theorem Qg.okT {a:α}:Qg (some a) fun _=>True:=⟨a,rfl,trivial⟩
theorem Qg.bind {o:Option α}{f:α->Option β}{P:α->Prop}{Q:β->Prop}(h:Qg o P)(k:∀x,P x->Qg (f x) Q):Qg (o.bind f) Q:=by
 obtain⟨x,rfl,hx⟩:=h
 exact k x hx
theorem Qg.bif {c:Bool}{a b:Option α}{Q:α->Prop}(h1:c=true->Qg a Q)(h2:c=false->Qg b Q):Qg (bif c then a else b) Q:=by
 cases c with
 | true=>exact h1 rfl
 | false=>exact h2 rfl
theorem Qg.chk {c:Bool}(h:c=true):Qg (chk c) fun _=>True:=⟨(),Qq0 h,trivial⟩
theorem Qg.idx {l:List α}{j:Int}(h0:0<=j)(h1:j<l.length):Qg (idx l j) fun x=>x∈l:=by
 rw [QmM h0 h1]
 exact⟨_,rfl,Qby _⟩
theorem Qg.get {l:List α}{j:Nat}(h1:j<l.length):Qg (l[j]?) fun x=>x∈l:=by
 rw [QG h1]
 exact⟨_,rfl,Qby _⟩
theorem Qg.sidx {s:ByteArray}{j:Int}(h0:0<=j)(h1:j<s.size):Qg (sidx s j) fun _=>True:=by
 unfold Vm.sidx
 rw [if_pos h0]
 have:j.toNat<s.size:=by omega
 rw [getElem?_pos s j.toNat this]
 exact⟨_,rfl,trivial⟩
theorem Qg.mono {o:Option α}{P Q:α->Prop}(h:Qg o P)(k:∀x,P x->Q x):Qg o Q:=let ⟨r,h1,h2⟩:=h;⟨r,h1,k r h2⟩
theorem Qg.tot {o:Option α}{P:α->Prop}(h:Qg o P):∃r,o=some r:=let ⟨r,h1,_⟩:=h;⟨r,h1⟩
theorem Qg.self {o:Option α}{P:α->Prop}(h:Qg o P):Qg o fun x=>o=some x/\P x:=let ⟨r,h1,h2⟩:=h;⟨r,h1,h1,h2⟩
theorem Qg.up {body:σ->Option (σ⊕ρ)}(n:Nat)(ix:σ->Int)(J:σ->Prop){Q:ρ->Prop}{s0:σ}(h0:ix s0=0)(hJ:J s0)
  (step:∀(i:Nat) s,ix s=(i:Int)->i<=n->J s->Qg (body s) fun o=>(∀s',o=.inl s'->i<n/\ix s'=((i+1:Nat):Int)/\J s')/\∀r,o=.inr r->Q r):Qg (Qz body s0) Q:=by
 have key:∀k i s,i+k=n->ix s=(i:Int)->J s->∃r,Qz body s=some r/\Q r:=by
  intro k
  induction k with
  | zero=>
   intro i s hk hi hj
   obtain⟨o,ho,h1,h2⟩:=step i s hi (by omega) hj
   rw [QaU,ho]
   cases o with
   | inl s'=>have:=(h1 s' rfl).1;omega
   | inr r=>exact⟨r,rfl,h2 r rfl⟩
  | succ k ih=>
   intro i s hk hi hj
   obtain⟨o,ho,h1,h2⟩:=step i s hi (by omega) hj
   rw [QaU,ho]
   cases o with
   | inl s'=>
    obtain⟨_,h3,h4⟩:=h1 s' rfl
    exact ih (i+1) s' (by omega) h3 h4
   | inr r=>exact⟨r,rfl,h2 r rfl⟩
 exact key n 0 s0 (by omega) h0 hJ
theorem QN {s:σ}{n i:Nat}{ix:σ->Int}{J:σ->Prop}{Q:ρ->Prop}(h:i<n/\ix s=((i+1:Nat):Int)/\J s):
  (∀s',(Sum.inl s:σ⊕ρ)=.inl s'->i<n/\ix s'=((i+1:Nat):Int)/\J s')/\∀r,(Sum.inl s:σ⊕ρ)=.inr r->Q r:=
 ⟨fun s' e=>(by cases e;exact h),fun r e=>(by cases e)⟩
theorem Qt {r:ρ}{n i:Nat}{ix:σ->Int}{J:σ->Prop}{Q:ρ->Prop}(h:Q r):
  (∀s',(Sum.inr r:σ⊕ρ)=.inl s'->i<n/\ix s'=((i+1:Nat):Int)/\J s')/\∀r',(Sum.inr r:σ⊕ρ)=.inr r'->Q r':=
 ⟨fun s' e=>(by cases e),fun r' e=>(by cases e;exact h)⟩
end
def QH {α:Type}(ok:α->Prop)(l:List α):Prop:=l.length<=maxLen/\∀x∈l,ok x
theorem QH.drop {α:Type}{ok:α->Prop}{l:List α}(h:QH ok l)(k:Nat):QH ok (l.drop k):=⟨by have:=h.1;rw [Qll];omega,fun x hx=>h.2 x (QoI hx)⟩
theorem QH.take {α:Type}{ok:α->Prop}{l:List α}(h:QH ok l)(k:Nat):QH ok (l.take k):=⟨by have:=h.1;rw [QdI];omega,fun x hx=>h.2 x (QeQ hx)⟩
theorem QH.nil {α:Type}{ok:α->Prop}:QH ok ([]:List α):=⟨by simp,fun x h=>by cases h⟩
theorem QH.app {α:Type}{ok:α->Prop}{l m:List α}(h:QH ok l)(hm:QH ok m)(hs:l.length+m.length<=maxLen):QH ok (l++m):=⟨by simpa using hs,fun x hx=>by rcases QcH.1 hx with h1 | h1;exact h.2 x h1;exact hm.2 x h1⟩
def Qfe (s:ByteArray):Prop:=s.size<=maxLen
theorem QBr {s:ByteArray}(h:QbW s (⟨#[]⟩:ByteArray)=false):0<s.size:=by
 apply Nat.pos_of_ne_zero
 intro h0
 have:s=⟨#[]⟩:=by
  obtain⟨a⟩:=s
  have:a=#[]:=Qxp h0
  rw [this]
 subst this
 simp [QbW]at h
theorem QkN {a b:Int}:0<=min2 a b↔0<=a/\0<=b:=by unfold min2;split<;>omega
theorem QkO {a b n:Int}:max2 a b<n↔a<n/\b<n:=by unfold max2;split<;>omega
theorem QkP {a b n:Int}:max2 a b<=n↔a<=n/\b<=n:=by unfold max2;split<;>omega
abbrev T0:=@Qg.bind
abbrev T1:=@Qg.bif
abbrev T2:=@Qg.ok
abbrev T3:=@Qg.okT
abbrev T4:=@Qg.idx
abbrev T5:=@Qg.chk
abbrev T6:=@Qg.mono
end Go.Vm
namespace Go.Vm
open Go Go.RowKit
def Asc (l:List (Int×Int)):Prop:=l.Pairwise fun p q=>p.1<q.1
def Qnx (l:List (Int×Int)):Prop:=l.Pairwise fun p q=>p.1≠q.1
theorem Asc.nd {l:List (Int×Int)}(h:Asc l):Qnx l:=h.imp fun h=>by omega
theorem Qf9 {p:Int×Int}{l:List (Int×Int)}:Asc (p::l)↔(∀q∈l,p.1<q.1)/\Asc l:=List.pairwise_cons
theorem QzS {p:Int×Int}{l:List (Int×Int)}:Qnx (p::l)↔(∀q∈l,p.1≠q.1)/\Qnx l:=List.pairwise_cons
theorem QlK {l:List (Int×Int)}{k:Int}:Q0 l k=none↔∀p∈l,p.1≠k:=by
 induction l with
 | nil=>simp [Q0]
 | cons p l ih=>
  obtain⟨a,x⟩:=p
  rw [Qau]
  by_cases h:a=k
  ·simp [h]
  simp [h,ih]
theorem QbL {l:List (Int×Int)}(hn:Qnx l){k v:Int}:Q0 l k=some v↔(k,v)∈l:=by
 induction l with
 | nil=>simp [Q0]
 | cons p l ih=>
  obtain⟨a,x⟩:=p
  obtain⟨h1,h2⟩:=QzS.1 hn
  rw [Qau]
  by_cases h:a=k
  ·subst h
   rw [if_pos rfl]
   constructor
   ·intro e;cases e;simp
   intro e
   rcases QaK.1 e with e | e
   ·cases e;rfl
   exact absurd rfl (h1 (a,v) e)
  rw [if_neg h,ih h2]
  constructor
  ·intro e;exact Qb1 _ e
  intro e
  rcases QaK.1 e with e | e
  ·cases e;exact absurd rfl h
  exact e
theorem QBs {l m:List (Int×Int)}(hl:Qnx l)(h:l.Perm m)(k:Int):Q0 l k=Q0 m k:=by
 have hm:Qnx m:=(h.pairwise_iff (fun hab=>Ne.symm hab)).1 hl
 apply Option.ext
 intro v
 rw [QbL hl,QbL hm]
 exact h.mem_iff
theorem QxU {l m:List (Int×Int)}(hl:Asc l)(hm:Asc m)(h:∀k,Q0 l k=Q0 m k):l=m:=by
 induction l generalizing m with
 | nil=>
  cases m with
  | nil=>rfl
  | cons p m=>have:=h p.1;rw [Qau (κ:=Int)]at this;simp [Q0]at this
 | cons p l ih=>
  obtain⟨a,x⟩:=p
  cases m with
  | nil=>have:=h a;rw [Qau]at this;simp [Q0]at this
  | cons q m=>
   obtain⟨b,y⟩:=q
   obtain⟨l1,l2⟩:=Qf9.1 hl
   obtain⟨m1,m2⟩:=Qf9.1 hm
   have hab:a=b:=by
    rcases Int.lt_trichotomy a b with hc | hc | hc
    ·have e:=h a
     rw [Qau,Qau,if_pos rfl,if_neg (by omega),QlK.2 (fun p hp=>by have:=m1 p hp;simp at this;omega)]at e
     cases e
    ·exact hc
    have e:=h b
    rw [Qau,Qau,if_neg (by omega),if_pos rfl,QlK.2 (fun p hp=>by have:=l1 p hp;simp at this;omega)]at e
    cases e
   subst hab
   have e:=h a
   rw [Qau,Qau,if_pos rfl,if_pos rfl]at e
   cases e
   rw [ih l2 m2 fun k=>?_]
   by_cases hk:a=k
   ·subst hk
    rw [QlK.2 (fun p hp=>by have:=l1 p hp;simp at this;omega),QlK.2 (fun p hp=>by have:=m1 p hp;simp at this;omega)]
   have:=h k
   rwa [Qau,Qau,if_neg hk,if_neg hk]at this
theorem QDB {l:List (Int×Int)}{k v:Int}{p:Int×Int}(h:p∈QlO l k v):∃q∈l,q.1=p.1:=by
 induction l with
 | nil=>cases h
 | cons q l ih=>
  obtain⟨a,x⟩:=q
  rw [QlO]at h
  split at h
  ·rename_i e
   rcases QaK.1 h with rfl | h
   ·exact⟨_,Qbz,e⟩
   exact⟨p,Qb1 _ h,rfl⟩
  rcases QaK.1 h with rfl | h
  ·exact⟨_,Qbz,rfl⟩
  obtain⟨q,h1,h2⟩:=ih h
  exact⟨q,Qb1 _ h1,h2⟩
theorem QCk {lt:Int->Int->Bool}{l:List (Int×Int)}{k v:Int}{p:Int×Int}(h:p∈QlN lt l k v):p=(k,v)\/p∈l:=by
 induction l with
 | nil=>simp [QlN]at h;exact .inl h
 | cons q l ih=>
  obtain⟨a,x⟩:=q
  rw [QlN]at h
  split at h
  ·rcases QaK.1 h with h | h
   ·exact .inl h
   exact .inr h
  rcases QaK.1 h with h | h
  ·exact .inr (h▸Qbz)
  rcases ih h with h | h
  ·exact .inl h
  exact .inr (Qb1 _ h)
theorem Qzf {l:List (Int×Int)}(h:Asc l)(k v:Int):Asc (QcX ltI l k v):=by
 unfold QcX
 split
 ·rename_i x hx
  clear hx
  induction l with
  | nil=>exact h
  | cons p l ih=>
   obtain⟨a,x⟩:=p
   obtain⟨h1,h2⟩:=Qf9.1 h
   rw [QlO]
   split
   ·rename_i e;subst e;exact Qf9.2 ⟨h1,h2⟩
   refine Qf9.2 ⟨fun q hq=>?_,ih h2⟩
   obtain⟨q',hq',e⟩:=QDB hq
   rw [<-e];exact h1 _ hq'
 rename_i hn
 induction l with
 | nil=>exact List.pairwise_singleton _ _
 | cons p l ih=>
  obtain⟨a,x⟩:=p
  obtain⟨h1,h2⟩:=Qf9.1 h
  rw [Qau]at hn
  split at hn
  ·cases hn
  rename_i hne
  rw [QlN]
  split
  ·rename_i e
   have e:k<a:=Qap e
   refine Qf9.2 ⟨fun q hq=>?_,h⟩
   rcases QaK.1 hq with rfl | hq
   ·exact e
   have:=h1 q hq;simp at this ⊢;omega
  rename_i e
  have e:¬k<a:=fun c=>e (QI c)
  refine Qf9.2 ⟨fun q hq=>?_,ih h2 hn⟩
  rcases QCk hq with rfl | hq
  ·show a<k;omega
  exact h1 q hq
theorem QCl {l:List (Int×Int)}{k v:Int}:(QlO l k v).length=l.length:=by
 induction l with
 | nil=>rfl
 | cons p l ih=>
  obtain⟨a,x⟩:=p
  rw [QlO]
  split
  ·rfl
  simp [ih]
theorem QCm {lt:Int->Int->Bool}{l:List (Int×Int)}{k v:Int}:(QlN lt l k v).length=l.length+1:=by
 induction l with
 | nil=>rfl
 | cons p l ih=>
  obtain⟨a,x⟩:=p
  rw [QlN]
  split
  ·rfl
  simp [ih]
theorem QCn {l:List (Int×Int)}{k v:Int}:(QcX ltI l k v).length<=l.length+1:=by
 unfold QcX
 split
 ·rw [QCl];omega
 rw [QCm];exact Qb2 _
theorem QCo {l:List (Int×Int)}{k v:Int}(h:Asc (l++[(k,v)])):QcX ltI l k v=l++[(k,v)]:=by
 have hl:Asc l:=(List.pairwise_append.1 h).1
 refine QxU (Qzf hl k v) h fun j=>?_
 rw [Ql5]
 have hk:∀p∈l,p.1<k:=fun p hp=>(List.pairwise_append.1 h).2.2 p hp (k,v) (by simp)
 clear h
 induction l with
 | nil=>
  show(if j=k then some v else none)=(if k=j then some v else none)
  by_cases c:j=k
  ·rw [if_pos c,if_pos c.symm]
  rw [if_neg c,if_neg (fun e=>c e.symm)]
 | cons p l ih=>
  obtain⟨a,x⟩:=p
  have h1:=hk (a,x) Qbz
  simp only at h1
  rw [Qr7,Qau,Qau]
  rw [<-ih (Qf9.1 hl).2 fun p hp=>hk p (Qb1 _ hp)]
  by_cases c:j=k
  ·subst c;rw [if_pos rfl,if_pos rfl,if_neg (by omega)]
  rw [if_neg c,if_neg c]
section
variable {ρ:Type}{g:Int->Int->Int}{stop:Int->Bool}{q:Option ρ}{body:List (Int×Int)->Int×Int->Option (List (Int×Int)⊕ρ)}
def QK (s:List (Int×Int))(k:Int):Int:=(Q0 s k).getD 0
def QwZ (g:Int->Int->Int)(s l:List (Int×Int))(k:Int):Option Int:=match Q0 l k with
 | some v=>some (g (QK s k) v)
 | none=>Q0 s k
theorem QsS (hb:∀s p,body s p=bif stop (g (QK s p.1) p.2)then q.map Sum.inr else some (.inl (QcX ltI s p.1 (g (QK s p.1) p.2)))):
  ∀l s,Asc s->Qnx l->((∃p∈l,stop (g (QK s p.1) p.2)=true)/\Qem body s l=q.map Sum.inr)\/
   ((∀p∈l,stop (g (QK s p.1) p.2)=false)/\∃s',Qem body s l=some (.inl s')/\Asc s'/\s'.length<=s.length+l.length/\∀k,Q0 s' k=QwZ g s l k):=by
 intro l
 induction l with
 | nil=>intro s hs _;exact .inr ⟨fun p h=>(by cases h),s,rfl,hs,by simp,fun k=>rfl⟩
 | cons p l ih=>
  intro s hs hl
  obtain⟨h1,h2⟩:=QzS.1 hl
  simp only [Qem,hb]
  cases hst:stop (g (QK s p.1) p.2)with
  | true=>exact .inl ⟨⟨p,Qbz,hst⟩,by cases q<;>rfl⟩
  | false=>
   simp only [cond_false,Ql,Sum.elim_inl]
   have hc:∀r∈l,QK (QcX ltI s p.1 (g (QK s p.1) p.2)) r.1=QK s r.1:=fun r hr=>by
    unfold QK
    rw [Ql5,if_neg (fun e=>h1 r hr e.symm)]
   rcases ih _ (Qzf hs p.1 (g (QK s p.1) p.2)) h2 with⟨⟨r,hr,h3⟩,h4⟩|⟨h3,s',h4,h5,h6,h7⟩
   ·exact .inl ⟨⟨r,Qb1 _ hr,by rw [hc r hr]at h3;exact h3⟩,h4⟩
   refine .inr ⟨fun r hr=>?_,s',h4,h5,?_,fun k=>?_⟩
   ·rcases QaK.1 hr with rfl | hr
    ·exact hst
    have:=h3 r hr;rwa [hc r hr]at this
   ·have:=QCn (l:=s) (k:=p.1) (v:=g (QK s p.1) p.2)
    simp;omega
   rw [h7]
   obtain⟨a,x⟩:=p
   unfold QwZ
   rw [Qau]
   by_cases e:a=k
   ·subst e
    rw [if_pos rfl,QlK.2 (fun r hr=>Ne.symm (h1 r hr)),Ql5,if_pos rfl]
   rw [if_neg e]
   simp only [QK,Ql5,if_neg (fun e'=>e (Eq.symm e'):¬k=a)]
theorem QAD (hb:∀s p,body s p=bif stop (g (QK s p.1) p.2)then q.map Sum.inr else some (.inl (QcX ltI s p.1 (g (QK s p.1) p.2)))){l s:List (Int×Int)}(hs:Asc s)(hl:Qnx l):
  ((∃p∈l,stop (g (QK s p.1) p.2)=true)/\∀r,q=some r->Qmj body s l=some (.inr r))\/
   ((∀p∈l,stop (g (QK s p.1) p.2)=false)/\∃s',Qmj body s l=some (.inl s')/\Asc s'/\s'.length<=s.length+l.length/\∀k,Q0 s' k=QwZ g s l k):=by
 have key:∀l':List (Int×Int),l'.Perm l->Qem body s l'=Qem body s l:=fun l' hp=>by
  have hl':Qnx l':=(hp.pairwise_iff (fun hab=>Ne.symm hab)).2 hl
  rcases QsS hb l' s hs hl' with⟨⟨p,h1,h2⟩,h3⟩|⟨h1,s1,h3,h4,_,h5⟩
  ·rcases QsS hb l s hs hl with⟨_,g3⟩|⟨g1,_⟩
   ·rw [h3,g3]
   rw [g1 p (hp.mem_iff.1 h1)]at h2;cases h2
  rcases QsS hb l s hs hl with⟨⟨p,g1,g2⟩,g3⟩|⟨g1,s2,g3,g4,_,g5⟩
  ·rw [h1 p (hp.mem_iff.2 g1)]at g2;cases g2
  rw [h3,g3,QxU h4 g4 fun k=>?_]
  rw [h5,g5]
  unfold QwZ
  rw [QBs hl' hp k]
 rcases QsS hb l s hs hl with⟨h1,h3⟩|⟨h1,s1,h3,h4,h6,h5⟩
 ·exact .inl ⟨h1,fun r hr=>Qmk.2 ⟨key,by rw [h3,hr];rfl⟩⟩
 exact .inr ⟨h1,s1,Qmk.2 ⟨key,h3⟩,h4,h6,h5⟩
end
theorem QAE {ρ:Type}{bad:Int×Int->Bool}{q:ρ}{body:Unit->Int×Int->Option (Unit⊕ρ)}(hb:∀p,body () p=some (bif bad p then .inr q else .inl ()))(l:List (Int×Int)):
  Qmj body () l=some (bif l.any bad then .inr q else .inl ()):=by
 have h1:∀l:List (Int×Int),Qem body () l=some (bif l.any bad then .inr q else .inl ()):=by
  intro l
  induction l with
  | nil=>rfl
  | cons p l ih=>
   simp only [Qem,hb,Ql,List.any_cons]
   cases bad p with
   | true=>rfl
   | false=>exact ih
 refine Qmk.2 ⟨fun l' hp=>?_,h1 l⟩
 rw [h1,h1]
 congr 2
 rw [Qr6,Qma,Qma]
 exact⟨fun ⟨x,a,b⟩=>⟨x,hp.mem_iff.1 a,b⟩,fun ⟨x,a,b⟩=>⟨x,hp.mem_iff.2 a,b⟩⟩
def rtF (a:Int):List (Int×Int)->Bool
 | []=>true
 | p::r=>!(decide (p.1<=a)||(decide (p.2<1)||decide (1048576<p.2)))&&rtF p.1 r
theorem QCX {a:Int}{l:List (Int×Int)}:rtF a l=true↔Asc l/\∀p∈l,a<p.1/\1<=p.2/\p.2<=1048576:=by
 induction l generalizing a with
 | nil=>simp [rtF,Asc]
 | cons p l ih=>
  rw [rtF,QB,ih,Qf9]
  simp only [Qe4,QcV,Qal]
  constructor
  ·rintro ⟨⟨h1,h2,h3⟩,h4,h5⟩
   refine⟨⟨fun q hq=>(h5 q hq).1,h4⟩,fun q hq=>?_⟩
   rcases QaK.1 hq with rfl | hq
   ·omega
   have:=h5 q hq;omega
  rintro ⟨⟨h1,h2⟩,h3⟩
  have:=h3 p Qbz
  exact⟨by omega,h2,fun q hq=>⟨h1 q hq,(h3 q (Qb1 _ hq)).2⟩⟩
def Rt (l:List (Int×Int)):Prop:=Asc l/\∀p∈l,0<=p.1/\1<=p.2/\p.2<=1048576
theorem Qdl {l:List (Int×Int)}:rtF (-1) l=true↔Rt l:=by
 rw [QCX]
 constructor
 ·rintro ⟨h1,h2⟩;exact⟨h1,fun p hp=>by have:=h2 p hp;omega⟩
 rintro ⟨h1,h2⟩;exact⟨h1,fun p hp=>by have:=h2 p hp;omega⟩
theorem Rt.nil : Rt []:=⟨List.Pairwise.nil,fun p h=>by cases h⟩
theorem QiL {l:List (Int×Int)}(h:Qnx l){p:Int×Int}(hp:p∈l):QK l p.1=p.2:=by
 unfold QK;rw [(QbL h).2 (show(p.1,p.2)∈l from hp)];rfl
theorem Rt.cnt {l:List (Int×Int)}(h:Rt l)(k:Int):0<=QK l k/\QK l k<=1048576:=by
 unfold QK
 cases e:Q0 l k with
 | none=>simp
 | some v=>have:=h.2 _ ((QbL h.1.nd).1 e);simp at this ⊢;omega
theorem Rt.cnt_pos {l:List (Int×Int)}(h:Rt l){k:Int}(hk:0<QK l k):0<=k:=by
 unfold QK at hk
 cases e:Q0 l k with
 | none=>rw [e]at hk;simp at hk
 | some v=>exact(h.2 _ ((QbL h.1.nd).1 e)).1
theorem QDC {l m:List (Int×Int)}(hl:Rt l)(hm:Rt m)(h:∀k,QK l k=QK m k):l=m:=by
 refine QxU hl.1 hm.1 fun k=>?_
 have:=h k
 unfold QK at this
 cases e1:Q0 l k with
 | none=>
  cases e2:Q0 m k with
  | none=>rfl
  | some v=>have h3:=hm.2 _ ((QbL hm.1.nd).1 e2);rw [e1,e2]at this;simp at this h3;omega
 | some v=>
  have h3:=hl.2 _ ((QbL hl.1.nd).1 e1)
  cases e2:Q0 m k with
  | none=>rw [e1,e2]at this;simp at this h3;omega
  | some u=>rw [e1,e2]at this;simpa using this
def Qk0 (l:List (Int×Int)):List (Int×Int):=l.filter fun p=>decide (0<p.2)
theorem QCp {l:List (Int×Int)}(h:Asc l)(k:Int):QK (Qk0 l) k=if 0<QK l k then QK l k else 0:=by
 have hp:Asc (Qk0 l):=h.sublist List.filter_sublist
 by_cases c:0<QK l k
 ·rw [if_pos c]
  unfold QK at c
  cases e:Q0 l k with
  | none=>rw [e]at c;simp at c
  | some v=>
   rw [e]at c
   have h1:(k,v)∈Qk0 l:=Qnj.2 ⟨(QbL h.nd).1 e,by simpa using c⟩
   unfold QK
   rw [(QbL hp.nd).2 h1,e]
 rw [if_neg c]
 unfold QK
 cases e:Q0 (Qk0 l) k with
 | none=>rfl
 | some v=>
  have h1:=Qnj.1 ((QbL hp.nd).1 e)
  have h2:=(QbL h.nd).2 h1.1
  unfold QK at c
  rw [h2]at c
  simp at h1 c;omega
theorem QDD {l:List (Int×Int)}(h:Asc l)(hb:∀k,0<QK l k->0<=k/\QK l k<=1048576):Rt (Qk0 l):=by
 refine⟨h.sublist List.filter_sublist,fun p hp=>?_⟩
 obtain⟨h1,h2⟩:=Qnj.1 hp
 have h3:=QiL h.nd h1
 have h4:0<p.2:=Qap h2
 have:=hb p.1 (by omega)
 omega
theorem QBt {l:List (Int×Int)}(h:Asc l):Qep (l.map Prod.fst)=l.map Prod.fst:=by
 rw [QsC]
 refine List.mergeSort_of_pairwise ?_
 rw [Qqn]
 exact h.imp fun h=>by simp;omega
end Go.Vm
namespace Go.Vm
open Go Go.RowKit
def upL : Int->Nat->List Int
 | _,0=>[]
 | x,k+1=>x::upL (x+1) k
def binds : List Int->List (List Int)
 | []=>[[]]
 | s::r=>(0::upL 1 (s-1).toNat).flatMap fun x=>(binds r).map (x::·)
def Qbj : List Int->List Int->List (List Int)
 | s::r,x::d=>(Qbj r d).map (x::·)++(upL (x+1) (s-(x+1)).toNat).flatMap fun y=>(binds r).map (y::·)
 | _,_=>[]
def QiC (l:List Int):List Int:=List.replicate l.length 0
theorem Qro (l:List Int):binds l=QiC l::Qbj l (QiC l):=by
 induction l with
 | nil=>rfl
 | cons s r ih=>
  show(0::upL 1 (s-1).toNat).flatMap (fun x=>(binds r).map (x::·))=(0::QiC r)::((Qbj r (QiC r)).map (0::·)++(upL (0+1) (s-(0+1)).toNat).flatMap fun y=>(binds r).map (y::·))
  rw [QhV,Int.zero_add]
  have:(binds r).map (fun x=>(0:Int)::x)=(0::QiC r)::(Qbj r (QiC r)).map (0::·):=by rw [ih];rfl
  rw [this];rfl
def QoT : List Int->List Int->Option (List Int)
 | s::r,x::d=>match QoT r d with
  | some e=>some (x::e)
  | none=>if x+1<s then some ((x+1)::QiC r)else none
 | _,_=>none
theorem Qw0 : ∀l d:List Int,Qbj l d=match QoT l d with
  | none=>[]
  | some e=>e::Qbj l e:=by
 intro l
 induction l with
 | nil=>intro d;rfl
 | cons s r ih=>
  intro d
  cases d with
  | nil=>rfl
  | cons x d=>
   have h:=ih d
   rw [QoT]
   cases e:QoT r d with
   | some e'=>
    rw [e]at h
    simp only [Qbj,h];rfl
   | none=>
    rw [e]at h
    simp only at h
    simp only [Qbj,h,List.map_nil,List.nil_append]
    by_cases c:x+1<s
    ·rw [if_pos c]
     rw [show(s-(x+1)).toNat=(s-(x+1+1)).toNat+1 by omega,upL,QhV]
     have:(binds r).map (fun z=>(x+1)::z)=((x+1)::QiC r)::(Qbj r (QiC r)).map ((x+1)::·):=by rw [Qro r];rfl
     rw [this];rfl
    rw [if_neg c,show(s-(x+1)).toNat=0 by omega];rfl
theorem Quj : ∀l d:List Int,(∀(j:Nat) x s,d[j]? = some x->l[j]? = some s->¬x+1<s)->QoT l d=none:=by
 intro l
 induction l with
 | nil=>intro d _;cases d<;>rfl
 | cons s r ih=>
  intro d h
  cases d with
  | nil=>rfl
  | cons x d=>
   rw [QoT,ih d fun j y z h1 h2=>h (j+1) y z (by simpa using h1) (by simpa using h2)]
   simp only
   rw [if_neg (h 0 x s rfl rfl)]
theorem QzT : ∀(k:Nat) (l d:List Int) (x s:Int),l.length=d.length->d[k]? = some x->l[k]? = some s->x+1<s->(∀(j:Nat) y z,k<j->d[j]? = some y->l[j]? = some z->¬y+1<z)->
  QoT l d=some (d.take k++(x+1)::List.replicate (d.length-(k+1)) 0):=by
 intro k
 induction k with
 | zero=>
  intro l d x s hl hd hs hlt ha
  cases l with
  | nil=>cases hs
  | cons s' r=>
   cases d with
   | nil=>cases hd
   | cons x' d=>
    simp only [List.getElem?_cons_zero,Option.some.injEq]at hd hs
    subst hd;subst hs
    rw [QoT,Quj r d fun j y z h1 h2=>ha (j+1) y z (by omega) (by simpa using h1) (by simpa using h2)]
    simp only
    rw [if_pos hlt]
    simp only [QeP]at hl
    simp [QiC];omega
 | succ k ih=>
  intro l d x s hl hd hs hlt ha
  cases l with
  | nil=>cases hs
  | cons s' r=>
   cases d with
   | nil=>cases hd
   | cons x' d=>
    simp only [Qr8]at hd hs
    simp only [QeP,Nat.add_right_cancel_iff]at hl
    rw [QoT,ih r d x s hl hd hs hlt fun j y z h0 h1 h2=>ha (j+1) y z (by omega) (by simpa using h1) (by simpa using h2)]
    simp
def inB : List Int->List Int->Prop
 | [],[]=>True
 | s::r,x::d=>0<=x/\(x=0\/x<s)/\inB r d
 | _,_=>False
theorem QCY {y x:Int}{k:Nat}:y∈upL x k↔x<=y/\y<x+k:=by
 induction k generalizing x with
 | zero=>
  simp only [upL,List.not_mem_nil,false_iff];omega
 | succ k ih=>simp only [upL,QaK,ih];omega
theorem QBu {l d:List Int}:d∈binds l↔inB l d:=by
 induction l generalizing d with
 | nil=>cases d<;>simp [binds,inB]
 | cons s r ih=>
  cases d with
  | nil=>simp [binds,inB]
  | cons x d=>
   simp only [binds,List.mem_flatMap,QaK,QCY,QaE,List.cons.injEq,inB,<-ih]
   constructor
   ·rintro ⟨y,h1,e,h2,rfl,rfl⟩
    exact⟨by omega,by omega,h2⟩
   rintro ⟨h1,h2,h3⟩
   exact⟨x,by omega,d,h3,rfl,rfl⟩
section
variable {α:Type}
def adv (most:Nat)(acc X:List α):List α⊕List α:=if (acc++X).length<most then .inr (acc++X)else .inl ((acc++X).take most)
theorem Ql7 {most:Nat}{acc:List α}(h:acc.length<most):adv most acc []=.inr acc:=by
 unfold adv
 rw [List.append_nil,if_pos h]
theorem QCq {most:Nat}{acc X:List α}(h:acc.length=most):adv most acc X=.inl acc:=by
 unfold adv
 rw [if_neg (by simp;omega)]
 subst h
 rw [List.take_left]
theorem QCr {most:Nat}{acc X:List α}{x:α}:adv most acc (x::X)=adv most (acc++[x]) X:=by
 unfold adv
 rw [Qgb];rfl
theorem QuQ {most:Nat}{acc X Y:List α}:adv most acc (X++Y)=match adv most acc X with
  | .inl a=>.inl a
  | .inr a=>adv most a Y:=by
 unfold adv
 by_cases c:(acc++X).length<most
 ·rw [if_pos c]
  simp only [Qgb]
 rw [if_neg c,if_neg (by simp at c ⊢;omega),<-Qgb,Qsa (by omega)]
theorem Qw1 {most:Nat}{acc X a:List α}(h:adv most acc X=.inr a):a.length<most:=by
 unfold adv at h
 split at h
 ·cases h;assumption
 cases h
theorem QuR {most:Nat}{acc X a:List α}(h:adv most acc X=.inr a):a=acc++X:=by
 unfold adv at h
 split at h
 ·cases h;rfl
 cases h
theorem Qzg {most:Nat}{X:List α}(h:0<most):(match adv most [] X with | .inl a=>a | .inr a=>a)=X.take most:=by
 unfold adv
 rw [List.nil_append]
 by_cases c:X.length<most
 ·rw [if_pos c];simp only;rw [QgB (by omega)]
 rw [if_neg c]
end
end Go.Vm
noncomputable section
namespace Go.Proofs
open Go Go.RowKit Go.Vm
inductive QcG : Qh->Prop where
 | mk (e:Qh):e.Kids.length<=maxLen->(∀k∈e.Kids,QcG k)->QcG e
theorem QcR {e:Qh}(h:QcG e):QH QcG e.Kids:=by
 cases h with
 | mk _ h1 h2=>exact⟨h1,h2⟩
theorem QnQ {e k:Qh}(h:k∈e.Kids):SizeOf.sizeOf k<SizeOf.sizeOf e:=by
 obtain⟨a,b,l⟩:=e
 have:=List.sizeOf_lt_of_mem h
 simp only [Qh.mk.sizeOf_spec]at *
 omega
theorem Qh.pos (e:Qh):0<SizeOf.sizeOf e:=by
 obtain⟨a,b,l⟩:=e
 simp only [Qh.mk.sizeOf_spec];omega
inductive POk (v:Int):Qh->Prop where
 | mk (e:Qh):(e.Kind=1\/e.Kind=2\/e.Kind=3\/e.Kind=4\/e.Kind=5\/e.Kind=6)->(e.Kind=2->0<=e.Num/\e.Num<v)->(e.Kind=3\/e.Kind=4->e.Kids.length=1)->(e.Kind=5->e.Kids.length=2)->(e.Kind=6->e.Kids.length=3)->(∀k∈e.Kids,POk v k)->POk v e
def Qa5 (x:QD):Prop:=Qfe x.Name/\True/\True/\True/\(QH Qfe) x.Names/\True/\True
def Qda (x:Q4):Prop:=Qfe x.Name/\True/\(QH (fun _=>True)) x.First
def Qez (x:Qaw):Prop:=Qfe x.Name/\True
def QiD (x:Qat):Prop:=True/\QcG x.Expr
def QaO (x:QF):Prop:=Qfe x.Name/\(QH Qez) x.Vars/\QcG x.Guard/\True/\True/\(QH QiD) x.Ins/\(QH QiD) x.Outs/\(QH (fun _=>True)) x.Cancel/\True/\True
def QX (x:Qn):Prop:=(QH Qa5) x.Colours/\(QH Qda) x.Places/\(QH QaO) x.Tasks/\True/\True
def Qyz (x:QaA):Prop:=(QH Qa5) x.all/\(QH (fun _=>True)) x.sizes/\True
theorem Qw2 (v1:Qn)(h_v1:QX v1):Qg (Qlv v1) fun r=>True:=by
 unfold Qlv
 exact T3
theorem QcC (l1:(List Q4))(k2:Int)(h_l1:(QH Qda) l1):Qg (QaW l1 k2) fun r=>r=true->0<=k2/\k2<l1.length:=by
 unfold QaW
 exact T2 (by first | (intro hr;first | (cases hr;done) | omega | ((try simp only [QB,Qcs,QcV,Qe4,QiX,QQ,Qal,beq_iff_eq,bne_iff_ne,ne_eq,QiY,Qqm,Qb0,Qi0,Qln,Qll,QdI,QeP,QkN,QkO,QkP]at *);omega)) | ((try simp only [QB,Qcs,QcV,Qe4,QiX,QQ,Qal,beq_iff_eq,bne_iff_ne,ne_eq,QiY,Qqm,Qb0,Qi0,Qln,Qll,QdI,QeP,QkN,QkO,QkP]at *);omega) | simp_all)
theorem Qw3 (v1:Qn)(h_v1:QX v1):Qg (Qlw v1) fun r=>True:=by
 unfold Qlw
 refine T0 (P:=fun _=>True) ?_ (fun x_1 hv2=>?_)
 ·unfold Qpq
  refine T0 (QcC v1.Places v1.From (h_v1.2.1)) (fun x_3 hv4=>?_)
  refine T1 (fun hc5=>?_) (fun hc5=>?_)
  ·refine T0 (QcC v1.Places v1.To (h_v1.2.1)) (fun x_6 hv7=>?_)
   exact T3
  exact T3
 unfold Qh4
 exact T3
theorem Qw4 (v1:Qn)(h_v1:QX v1):Qg (Qlx v1) fun r=>True:=by
 unfold Qlx
 exact T3
theorem Qw5 (v1:Qn)(v2:Int)(v3:Int)(v4:Int)(h_v1:QX v1):Qg (Qly v1 v2 v3 v4) fun r=>True:=by
 unfold Qly
 refine T0 (Qw2 v1 (h_v1)) (fun x_1 hv2=>?_)
 refine T1 (fun hc3=>?_) (fun hc3=>?_)
 ·exact T3
 refine T0 (Qw3 v1 (h_v1)) (fun x_4 hv5=>?_)
 refine T1 (fun hc6=>?_) (fun hc6=>?_)
 ·exact T3
 refine T0 (Qw4 v1 (h_v1)) (fun x_7 hv8=>?_)
 refine T1 (fun hc9=>?_) (fun hc9=>?_)
 ·exact T3
 exact T3
theorem Qw6 (lo1:Int)(hi2:Int)  : Qg (Qgw lo1 hi2) fun r=>True:=by
 unfold Qgw
 refine T1 (fun hc1=>?_) (fun hc1=>?_)
 ·exact T3
 exact T3
theorem QoD (c1:Int)  : Qg (QdV c1) fun r=>True:=by
 unfold QdV
 exact T3
theorem QgU (s1:ByteArray)(h_s1:Qfe s1):Qg (Qdn s1) fun r=>True:=by
 unfold Qdn
 refine T0 (P:=fun _=>True) ?_ (fun x_1 hv2=>?_)
 ·unfold QhY
  refine T1 (fun hc3=>?_) (fun hc3=>?_)
  ·exact T3
  have hshc3:=QBr hc3
  refine T1 (fun hc4=>?_) (fun hc4=>?_)
  ·exact T3
  refine T0 (Qg.sidx (by omega) (by omega)) (fun c_5 hv6=>?_)
  refine T0 (QoD c_5 ) (fun x_7 hv8=>?_)
  exact T3
 unfold QfY
 refine T1 (fun hc9=>?_) (fun hc9=>?_)
 ·exact T3
 refine T0 (Qg.up (s1.size) (fun st=>st) (fun _=>True) (Q:=fun q=>True) rfl trivial (fun i11 st hi12 hn13 hj14=>?_)) (fun q15 hq16=>?_)
 ·obtain⟨x_10,hst⟩:∃y,y=st:=⟨_,rfl⟩
  subst hst
  replace hi12:x_10=(i11:Int):=hi12
  show Qg (Qdu s1 x_10) _
  unfold Qdu
  refine T1 (fun hc17=>?_) (fun hc17=>?_)
  ·refine T0 (Qg.sidx (by omega) (by simp_all)) (fun c_18 hv19=>?_)
   refine T0 (P:=fun _=>True) ?_ (fun x_20 hv21=>?_)
   ·unfold QlP
    refine T0 (QoD c_18 ) (fun x_22 hv23=>?_)
    refine T1 (fun hc24=>?_) (fun hc24=>?_)
    ·refine T1 (fun hc25=>?_) (fun hc25=>?_)
     ·exact T3
     refine T1 (fun hc26=>?_) (fun hc26=>?_)
     ·exact T3
     exact T3
    exact T3
   unfold QfX
   refine T1 (fun hc27=>?_) (fun hc27=>?_)
   ·exact T2 (Qt trivial)
   exact T2 (QN ⟨(by simp_all),by subst hi12;exact Qy (by simp_all) h_s1,trivial⟩)
  exact T2 (Qt trivial)
 rcases q15 with q15 | q15
 ·show Qg (QhZ) _
  unfold QhZ
  exact T3
 show Qg (Qh0) _
 unfold Qh0
 exact T3
theorem Qwa (l1:(List ByteArray))(h_l1:(QH Qfe) l1):Qg (QfM l1) fun r=>True:=by
 unfold QfM
 refine T0 (Qg.up (l1.length) (fun st=>st.1) (fun _=>True) (Q:=fun q=>True) rfl trivial (fun i3 st hi4 hn5 hj6=>?_)) (fun q7 hq8=>?_)
 ·obtain⟨x_1,m_2⟩:=st
  replace hi4:x_1=(i3:Int):=hi4
  show Qg (Qcn l1 x_1 m_2) _
  unfold Qcn
  refine T1 (fun hc9=>?_) (fun hc9=>?_)
  ·refine T0 (T4 (by omega) (by simp_all)) (fun e_10 hv11=>?_)
   refine T0 (P:=fun _=>True) ?_ (fun x_12 hv13=>?_)
   ·unfold QkW
    refine T0 (QgU e_10 (((h_l1).2 e_10 hv11))) (fun x_14 hv15=>?_)
    refine T1 (fun hc16=>?_) (fun hc16=>?_)
    ·exact T3
    exact T3
   unfold Qfm
   refine T1 (fun hc17=>?_) (fun hc17=>?_)
   ·exact T2 (Qt trivial)
   exact T2 (QN ⟨(by simp_all),by subst hi4;exact Qy (by simp_all) (h_l1).1,trivial⟩)
  exact T2 (Qt trivial)
 rcases q7 with q7 | q7
 ·show Qg (Qhc) _
  unfold Qhc
  exact T3
 show Qg (Qhd) _
 unfold Qhd
 exact T3
theorem Qw7 (c1:QD)(ahead2:(List Int))(h_c1:Qa5 c1)(h_ahead2:(QH (fun _=>True)) ahead2):Qg (Qgx c1 ahead2) fun r=>True:=by
 unfold Qgx
 refine T1 (fun hc1=>?_) (fun hc1=>?_)
 ·refine T0 (Qw6 c1.Lo c1.Hi ) (fun x_2 hv3=>?_)
  exact T3
 refine T1 (fun hc4=>?_) (fun hc4=>?_)
 ·refine T0 (Qwa c1.Names (h_c1.2.2.2.2.1)) (fun x_5 hv6=>?_)
  refine T1 (fun hc7=>?_) (fun hc7=>?_)
  ·exact T3
  unfold Qdv
  exact T3
 refine T1 (fun hc8=>?_) (fun hc8=>?_)
 ·refine T1 (fun hc9=>?_) (fun hc9=>?_)
  ·refine T0 (T4 (by(try simp only [QB,Qcs,QcV,Qe4,QiX,QQ,Qal,beq_iff_eq,bne_iff_ne,ne_eq,QiY,Qqm,Qb0,Qi0,Qln,Qll,QdI,QeP,QkN,QkO,QkP]at *);omega) (by(try simp only [QB,Qcs,QcV,Qe4,QiX,QQ,Qal,beq_iff_eq,bne_iff_ne,ne_eq,QiY,Qqm,Qb0,Qi0,Qln,Qll,QdI,QeP,QkN,QkO,QkP]at *);omega)) (fun e_10 hv11=>?_)
   refine T0 (T4 (by(try simp only [QB,Qcs,QcV,Qe4,QiX,QQ,Qal,beq_iff_eq,bne_iff_ne,ne_eq,QiY,Qqm,Qb0,Qi0,Qln,Qll,QdI,QeP,QkN,QkO,QkP]at *);omega) (by(try simp only [QB,Qcs,QcV,Qe4,QiX,QQ,Qal,beq_iff_eq,bne_iff_ne,ne_eq,QiY,Qqm,Qb0,Qi0,Qln,Qll,QdI,QeP,QkN,QkO,QkP]at *);omega)) (fun e_12 hv13=>?_)
   exact T3
  unfold Qdv
  exact T3
 unfold Qdv
 exact T3
theorem Qp3 (l1:(List QD))(h_l1:(QH Qa5) l1):Qg (QeD l1) fun r=>((QH (fun _=>True)) r.1/\True)/\(r.2=true->r.1.length=l1.length/\∀x∈r.1,1<=x/\x<=1024):=by
 unfold QeD
 refine T1 (fun hc=>T2 ⟨⟨QH.nil,trivial⟩,fun h=>by cases h⟩) (fun hc=>?_)
 have hl:l1.length<=32:=by simp only [Qal]at hc;omega
 refine T0 (Qg.up l1.length (fun st=>st.1) (fun st=>(st.2.2.length:Int)=st.1/\∀x∈st.2.2,1<=x/\x<=1024) (Q:=fun q=>∀l,q=.inr l->l.length=l1.length/\∀x∈l,1<=x/\x<=1024) rfl ⟨rfl,fun x h=>(by cases h)⟩ (fun i st hi hn hj=>?_)) (fun q hq=>?_)
 ·obtain⟨x,m,l⟩:=st
  replace hi:x=(i:Int):=hi
  replace hj:(l.length:Int)=x/\∀x∈l,1<=x/\x<=1024:=hj
  obtain⟨hj,hj2⟩:=hj
  show Qg (Qco l1 x m l) _
  unfold Qco
  refine T1 (fun hc2=>?_) (fun hc2=>?_)
  ·simp only [QQ]at hc2
   refine T0 (T4 (by omega) (by omega)) fun e he=>?_
   refine T0 (Qw7 e l (h_l1.2 e he) ⟨by unfold maxLen;omega,fun _ _=>trivial⟩) fun y _=>?_
   refine T0 (P:=fun z=>z=false->1<=y/\y<=1024) ?_ fun z hz=>?_
   ·unfold QkX
    refine T0 (QgU e.Name (h_l1.2 e he).1) fun z _=>?_
    refine T1 (fun _=>T2 (fun h=>by cases h)) fun _=>T1 (fun _=>T2 (fun h=>by cases h)) fun _=>T1 (fun _=>T2 (fun h=>by cases h)) fun h1=>T2 fun h2=>?_
    simp only [Qal]at h1 h2
    omega
   unfold Qfn
   refine T1 (fun _=>T2 (Qt fun l h=>by cases h)) fun hz0=>?_
   refine T0 (T5 (by simp;omega)) fun _ _=>?_
   exact T2 (QN ⟨by omega,by subst hi;exact Qy (by omega) (by unfold maxLen;omega:l1.length<=maxLen),by simp only [Qb0,Qi0];subst hi;rw [Qy (show i<l1.length by omega) (by unfold maxLen;omega)];omega,fun u hu=>by
    rcases QcH.1 hu with hu | hu
    ·exact hj2 u hu
    simp at hu;subst hu;exact hz hz0⟩)
  simp only [Qal]at hc2
  exact T2 (Qt fun l' h=>by cases h;exact⟨by omega,hj2⟩)
 rcases q with q | q
 ·exact T2 ⟨⟨QH.nil,trivial⟩,fun h=>by cases h⟩
 have:=hq q rfl
 exact T2 ⟨⟨⟨by show q.length<=maxLen;unfold maxLen;omega,fun _ _=>trivial⟩,trivial⟩,fun _=>this⟩
theorem Qwb (l1:(List QD))(h_l1:(QH Qa5) l1):Qg (Qkv l1) fun r=>True:=by
 unfold Qkv
 refine T0 (Qp3 l1 (h_l1)) (fun x_1 hv2=>?_)
 exact T3
theorem QrU (v1:Qn)(v2:Int)(h_v1:QX v1)(hp0:0<=v2)(hp1:v2<v1.Colours.length):Qg (Qgg v1 v2) fun r=>True:=by
 have hl:=h_v1.1.1
 unfold maxLen at hl
 unfold Qgg
 rw [Q7 (show -9223372036854775808<=v2+1/\v2+1<=9223372036854775807 by omega)]
 refine T0 (T5 (by simp only [QB,QQ];omega)) fun _ _=>?_
 exact T0 (Qwb _ ((h_v1.1.drop _).take _)) fun x _=>T3
def Qw8 : List ByteArray:=(Qix).getD []
set_option maxRecDepth 100000 in
theorem QCs : Qix=some Qw8:=by kernel_rfl
set_option maxRecDepth 100000 in
theorem QzK : (decide (Qw8.length<=1000)&&Qw8.all fun s=>decide (s.size<=1000))=true:=by kernel_rfl
theorem Qw9 : Qg (Qix) fun r=>QH Qfe r:=by
 have h:=QzK
 rw [QB,decide_eq_true_iff,Qad]at h
 refine⟨Qw8,QCs,by unfold maxLen;omega,fun x hx=>?_⟩
 have:=h.2 x hx
 rw [decide_eq_true_iff]at this
 unfold Qfe maxLen;omega
theorem QmO (s1:(List ByteArray))(v2:ByteArray)(h_s1:(QH Qfe) s1)(h_v2:Qfe v2):Qg (Qc3 s1 v2) fun r=>True:=by
 unfold Qc3
 refine T0 (Qg.up (s1.length) (fun st=>st) (fun _=>True) (Q:=fun q=>True) rfl trivial (fun i2 st hi3 hn4 hj5=>?_)) (fun q6 hq7=>?_)
 ·obtain⟨x_1,hst⟩:∃y,y=st:=⟨_,rfl⟩
  subst hst
  replace hi3:x_1=(i2:Int):=hi3
  show Qg (Qcg s1 v2 x_1) _
  unfold Qcg
  refine T1 (fun hc8=>?_) (fun hc8=>?_)
  ·refine T0 (T4 (by omega) (by simp_all)) (fun e_9 hv10=>?_)
   refine T1 (fun hc11=>?_) (fun hc11=>?_)
   ·exact T2 (Qt trivial)
   exact T2 (QN ⟨(by simp_all),by subst hi3;exact Qy (by simp_all) (h_s1).1,trivial⟩)
  exact T2 (Qt trivial)
 rcases q6 with q6 | q6
 ·show Qg (Qch q6) _
  unfold Qch
  exact T3
 show Qg (Qci) _
 unfold Qci
 exact T3
theorem Qlj (s1:(List ByteArray))(v2:ByteArray)(h_s1:(QH Qfe) s1)(h_v2:Qfe v2):Qg (Qcj s1 v2) fun r=>True:=by
 unfold Qcj
 refine T0 (QmO s1 v2 (h_s1) (h_v2)) (fun x_1 hv2=>?_)
 exact T3
theorem QxV (s1:ByteArray)(h_s1:Qfe s1):Qg (QmE s1) fun r=>True:=by
 unfold QmE
 refine T0 (Qw9  ) (fun x_1 hv2=>?_)
 refine T0 (Qlj x_1 s1 (hv2) (h_s1)) (fun x_3 hv4=>?_)
 exact T3
theorem QhL (s1:ByteArray)(h_s1:Qfe s1):Qg (Qe1 s1) fun r=>True:=by
 unfold Qe1
 refine T0 (P:=fun _=>True) ?_ (fun x_1 hv2=>?_)
 ·unfold QqI
  refine T0 (QgU s1 (h_s1)) (fun x_3 hv4=>?_)
  refine T1 (fun hc5=>?_) (fun hc5=>?_)
  ·refine T0 (QxV s1 (h_s1)) (fun x_6 hv7=>?_)
   exact T3
  exact T3
 unfold Qjk
 exact T3
theorem Qqf (s1:ByteArray)(h_s1:Qfe s1):Qg (Qe7 s1) fun r=>True:=by
 unfold Qe7
 refine T0 (QhL s1 (h_s1)) (fun x_1 hv2=>?_)
 exact T3
theorem Qk1 (s1:(List ByteArray))(h_s1:(QH Qfe) s1):Qg (Qb7 s1) fun r=>True:=by
 unfold Qb7
 refine T0 (Qg.up (s1.length) (fun st=>st) (fun _=>True) (Q:=fun q=>True) rfl trivial (fun i2 st hi3 hn4 hj5=>?_)) (fun q6 hq7=>?_)
 ·obtain⟨x_1,hst⟩:∃y,y=st:=⟨_,rfl⟩
  subst hst
  replace hi3:x_1=(i2:Int):=hi3
  show Qg (QbB s1 x_1) _
  unfold QbB
  refine T1 (fun hc8=>?_) (fun hc8=>?_)
  ·refine T0 (T4 (by omega) (by simp_all)) (fun e_9 hv10=>?_)
   refine T0 (Qqf e_9 (((h_s1).2 e_9 hv10))) (fun x_11 hv12=>?_)
   refine T1 (fun hc13=>?_) (fun hc13=>?_)
   ·exact T2 (Qt trivial)
   exact T2 (QN ⟨(by simp_all),by subst hi3;exact Qy (by simp_all) (h_s1).1,trivial⟩)
  exact T2 (Qt trivial)
 rcases q6 with q6 | q6
 ·show Qg (QbC q6) _
  unfold QbC
  exact T3
 show Qg (QbD) _
 unfold QbD
 exact T3
theorem QjI (s1:(List ByteArray))(h_s1:(QH Qfe) s1):Qg (QbE s1) fun r=>True:=by
 unfold QbE
 refine T0 (Qk1 s1 (h_s1)) (fun x_1 hv2=>?_)
 exact T3
theorem QrV (v1:QD)(h_v1:Qa5 v1):Qg (Qgh v1) fun r=>True:=by
 unfold Qgh
 refine T0 (P:=fun _=>True) ?_ (fun x_1 hv2=>?_)
 ·unfold Qlf
  refine T0 (QhL v1.Name (h_v1.1)) (fun x_3 hv4=>?_)
  refine T1 (fun hc5=>?_) (fun hc5=>?_)
  ·refine T1 (fun hc6=>?_) (fun hc6=>?_)
   ·exact T3
   refine T0 (QjI v1.Names (h_v1.2.2.2.2.1)) (fun x_7 hv8=>?_)
   exact T3
  exact T3
 unfold QeT
 exact T3
theorem Quk (v1:Qn)(v2:Int)(v3:Int)(v4:QD)(v5:Int)(h_v1:QX v1)(h_v4:Qa5 v4)(hp0:0<=v2)(hp1:v2<v1.Colours.length):Qg (Qh5 v1 v2 v3 v4 v5) fun r=>True:=by
 unfold Qh5
 refine T0 (QrU v1 v2 (h_v1) (by omega) (by omega)) (fun x_1 hv2=>?_)
 refine T1 (fun hc3=>?_) (fun hc3=>?_)
 ·exact T3
 refine T0 (QrV v4 (h_v4)) (fun x_4 hv5=>?_)
 refine T1 (fun hc6=>?_) (fun hc6=>?_)
 ·exact T3
 exact T3
theorem Qtx (k1:Int)(c2:QD)(v3:Qn)(h_c2:Qa5 c2)(h_v3:QX v3)(hp0:0<=k1)(hp1:k1<v3.Colours.length):Qg (Qhf k1 c2 v3) fun r=>True:=by
 unfold Qhf
 refine T0 (Quk v3 k1 8 c2 8 (h_v3) (h_c2) (by omega) (by omega)) (fun x_1 hv2=>?_)
 exact T3
theorem QoU (l1:(List QD))(v2:Qn)(h_l1:(QH Qa5) l1)(h_v2:QX v2)(hp0:l1.length<=v2.Colours.length):Qg (Qeq l1 v2) fun r=>True:=by
 unfold Qeq
 refine T0 (Qg.up (l1.length) (fun st=>st) (fun _=>True) (Q:=fun q=>True) rfl trivial (fun i2 st hi3 hn4 hj5=>?_)) (fun q6 hq7=>?_)
 ·obtain⟨x_1,hst⟩:∃y,y=st:=⟨_,rfl⟩
  subst hst
  replace hi3:x_1=(i2:Int):=hi3
  show Qg (Qdp l1 v2 x_1) _
  unfold Qdp
  refine T1 (fun hc8=>?_) (fun hc8=>?_)
  ·refine T0 (T4 (by omega) (by simp_all)) (fun e_9 hv10=>?_)
   refine T0 (Qtx x_1 e_9 v2 (((h_l1).2 e_9 hv10)) (h_v2) (by omega) (by simp_all;omega)) (fun x_11 hv12=>?_)
   refine T1 (fun hc13=>?_) (fun hc13=>?_)
   ·exact T2 (Qt trivial)
   exact T2 (QN ⟨(by simp_all),by subst hi3;exact Qy (by simp_all) (h_l1).1,trivial⟩)
  exact T2 (Qt trivial)
 rcases q6 with q6 | q6
 ·show Qg (Qdq q6.1 q6.2) _
  unfold Qdq
  exact T3
 show Qg (Qdr) _
 unfold Qdr
 exact T3
theorem QoE (n1:Qn)(h_n1:QX n1):Qg (QgI n1) fun r=>True:=by
 unfold QgI
 refine T0 (QoU n1.Colours n1 (h_n1.1) (h_n1) (by omega)) (fun x_1 hv2=>?_)
 exact T3
theorem Qvf (v1:Q4)(h_v1:Qda v1):Qg (Qjl v1) fun r=>True:=by
 unfold Qjl
 refine T0 (QhL v1.Name (h_v1.1)) (fun x_1 hv2=>?_)
 exact T3
theorem Qvg (p1:Q4)(v2:Q4)(h_p1:Qda p1)(h_v2:Qda v2):Qg (Qjm p1 v2) fun r=>True:=by
 unfold Qjm
 exact T3
theorem Qis (s1:(List Q4))(v2:Q4)(h_s1:(QH Qda) s1)(h_v2:Qda v2):Qg (Qbh s1 v2) fun r=>True:=by
 unfold Qbh
 refine T0 (Qg.up (s1.length) (fun st=>st) (fun _=>True) (Q:=fun q=>True) rfl trivial (fun i2 st hi3 hn4 hj5=>?_)) (fun q6 hq7=>?_)
 ·obtain⟨x_1,hst⟩:∃y,y=st:=⟨_,rfl⟩
  subst hst
  replace hi3:x_1=(i2:Int):=hi3
  show Qg (QaX s1 v2 x_1) _
  unfold QaX
  refine T1 (fun hc8=>?_) (fun hc8=>?_)
  ·refine T0 (T4 (by omega) (by simp_all)) (fun e_9 hv10=>?_)
   refine T0 (Qvg e_9 v2 (((h_s1).2 e_9 hv10)) (h_v2)) (fun x_11 hv12=>?_)
   refine T1 (fun hc13=>?_) (fun hc13=>?_)
   ·exact T2 (Qt trivial)
   exact T2 (QN ⟨(by simp_all),by subst hi3;exact Qy (by simp_all) (h_s1).1,trivial⟩)
  exact T2 (Qt trivial)
 rcases q6 with q6 | q6
 ·show Qg (QaY q6) _
  unfold QaY
  exact T3
 show Qg (QaZ) _
 unfold QaZ
 exact T3
theorem Qg6 (s1:(List Q4))(v2:Q4)(h_s1:(QH Qda) s1)(h_v2:Qda v2):Qg (Qa0 s1 v2) fun r=>True:=by
 unfold Qa0
 refine T0 (Qis s1 v2 (h_s1) (h_v2)) (fun x_1 hv2=>?_)
 exact T3
theorem Qvh (v1:Qn)(v2:Int)(v3:Q4)(h_v1:QX v1)(h_v3:Qda v3)(hp0:0<=v2)(hp1:v2<v1.Places.length):Qg (Qjn v1 v2 v3) fun r=>True:=by
 unfold Qjn
 refine T0 (T5 (by simp_all;omega)) (fun _ _=>?_)
 refine T0 (Qg6 ((v1.Places.drop 0).take (v2.toNat-0)) v3 (((h_v1.2.1).drop _).take _) (h_v3)) (fun x_1 hv2=>?_)
 exact T3
theorem QiE (l1:(List QD))(k2:Int)(h_l1:(QH Qa5) l1):Qg (QcN l1 k2) fun r=>True:=by
 unfold QcN
 exact T3
theorem Qvi (v1:Qn)(v2:Q4)(h_v1:QX v1)(h_v2:Qda v2):Qg (Qjo v1 v2) fun r=>True:=by
 unfold Qjo
 refine T0 (QiE v1.Colours v2.Colour (h_v1.1)) (fun x_1 hv2=>?_)
 exact T3
theorem QyA (b1:(List (Int×Int)))(h_b1:(QH (fun _=>True)) b1):Qg (QfJ b1) fun r=>True:=by
 unfold QfJ
 refine T0 (Qg.up (b1.length) (fun st=>st.2) (fun _=>True) (Q:=fun q=>True) rfl trivial (fun i3 st hi4 hn5 hj6=>?_)) (fun q7 hq8=>?_)
 ·obtain⟨last_1,x_2⟩:=st
  replace hi4:x_2=(i3:Int):=hi4
  show Qg (QcZ b1 last_1 x_2) _
  unfold QcZ
  refine T1 (fun hc9=>?_) (fun hc9=>?_)
  ·refine T0 (T4 (by omega) (by simp_all)) (fun e_10 hv11=>?_)
   refine T1 (fun hc12=>?_) (fun hc12=>?_)
   ·exact T2 (Qt trivial)
   exact T2 (QN ⟨(by simp_all),by subst hi4;exact Qy (by simp_all) (h_b1).1,trivial⟩)
  exact T2 (Qt trivial)
 rcases q7 with q7 | q7
 ·show Qg (Qkn) _
  unfold Qkn
  exact T3
 show Qg (Qko) _
 unfold Qko
 exact T3
theorem Qvj (v1:Q4)(h_v1:Qda v1):Qg (Qjp v1) fun r=>True:=by
 unfold Qjp
 refine T0 (QyA v1.First (h_v1.2.2)) (fun x_1 hv2=>?_)
 exact T3
theorem QiF (l1:(List QD))(k2:Int)(h_l1:(QH Qa5) l1):Qg (Qdg l1 k2) fun r=>(True/\Qyz r.2)/\(r.1=true->(0<=k2/\k2<r.2.sizes.length)/\r.2.k=k2/\r.2.all.length=r.2.sizes.length/\∀x∈r.2.sizes,1<=x/\x<=1024):=by
 unfold Qdg
 refine T0 (Qp3 l1 h_l1) fun x hx=>?_
 refine T1 (fun _=>T2 ⟨⟨trivial,QH.nil,QH.nil,trivial⟩,fun h=>by cases h⟩) fun hc=>?_
 simp only [QcV,QiX,Qal]at hc
 have:=hx.2 hc.1
 exact T2 ⟨⟨trivial,h_l1,hx.1.1,trivial⟩,fun _=>⟨⟨by omega,by show k2<(x.1.length:Int);omega⟩,rfl,this.1.symm,this.2⟩⟩
theorem Qff (l1:(List QD))(k2:Int)(h_l1:(QH Qa5) l1):Qg (QaJ l1 k2) fun r=>0<=r/\r<=1024:=by
 unfold QaJ
 refine T0 (QiF l1 k2 h_l1) (fun x hx=>?_)
 refine T1 (fun hc=>T2 (by omega)) (fun hc=>?_)
 have h:=hx.2 (by simpa using hc)
 exact T0 (T4 (by omega) (by omega)) fun e he=>T2 (by have:=h.2.2.2 e he;omega)
theorem Qty (row1:(Int×Int))(v2:Int)  : Qg (Qhg row1 v2) fun r=>True:=by
 unfold Qhg
 exact T3
theorem Qk2 (s1:(List (Int×Int)))(v2:Int)(h_s1:(QH (fun _=>True)) s1):Qg (Qb8 s1 v2) fun r=>True:=by
 unfold Qb8
 refine T0 (Qg.up (s1.length) (fun st=>st) (fun _=>True) (Q:=fun q=>True) rfl trivial (fun i2 st hi3 hn4 hj5=>?_)) (fun q6 hq7=>?_)
 ·obtain⟨x_1,hst⟩:∃y,y=st:=⟨_,rfl⟩
  subst hst
  replace hi3:x_1=(i2:Int):=hi3
  show Qg (QbF s1 v2 x_1) _
  unfold QbF
  refine T1 (fun hc8=>?_) (fun hc8=>?_)
  ·refine T0 (T4 (by omega) (by simp_all)) (fun e_9 hv10=>?_)
   refine T0 (Qty e_9 v2 ) (fun x_11 hv12=>?_)
   refine T1 (fun hc13=>?_) (fun hc13=>?_)
   ·exact T2 (Qt trivial)
   exact T2 (QN ⟨(by simp_all),by subst hi3;exact Qy (by simp_all) (h_s1).1,trivial⟩)
  exact T2 (Qt trivial)
 rcases q6 with q6 | q6
 ·show Qg (QbG q6) _
  unfold QbG
  exact T3
 show Qg (QbH) _
 unfold QbH
 exact T3
theorem QjJ (s1:(List (Int×Int)))(v2:Int)(h_s1:(QH (fun _=>True)) s1):Qg (QbI s1 v2) fun r=>True:=by
 unfold QbI
 refine T0 (Qk2 s1 v2 (h_s1)) (fun x_1 hv2=>?_)
 exact T3
theorem Qvk (v1:Qn)(v2:Q4)(h_v1:QX v1)(h_v2:Qda v2):Qg (Qjq v1 v2) fun r=>True:=by
 unfold Qjq
 refine T0 (Qff v1.Colours v2.Colour (h_v1.1)) (fun x_1 hv2=>?_)
 refine T0 (QjJ v2.First x_1 (h_v2.2.2)) (fun x_3 hv4=>?_)
 exact T3
theorem Qul (v1:Q4)(v2:Int)(v3:Qn)(v4:Int)(v5:Int)(v6:Int)(v7:Int)(v8:Int)(h_v1:Qda v1)(h_v3:QX v3)(hp0:0<=v4)(hp1:v4<v3.Places.length):Qg (Qh6 v1 v2 v3 v4 v5 v6 v7 v8) fun r=>True:=by
 unfold Qh6
 refine T0 (Qvf v1 (h_v1)) (fun x_1 hv2=>?_)
 refine T1 (fun hc3=>?_) (fun hc3=>?_)
 ·exact T3
 refine T0 (Qvh v3 v4 v1 (h_v3) (h_v1) (by omega) (by omega)) (fun x_4 hv5=>?_)
 refine T1 (fun hc6=>?_) (fun hc6=>?_)
 ·exact T3
 refine T0 (Qvi v3 v1 (h_v3) (h_v1)) (fun x_7 hv8=>?_)
 refine T1 (fun hc9=>?_) (fun hc9=>?_)
 ·exact T3
 refine T0 (Qvj v1 (h_v1)) (fun x_10 hv11=>?_)
 refine T1 (fun hc12=>?_) (fun hc12=>?_)
 ·exact T3
 refine T0 (Qvk v3 v1 (h_v3) (h_v1)) (fun x_13 hv14=>?_)
 refine T1 (fun hc15=>?_) (fun hc15=>?_)
 ·exact T3
 exact T3
theorem Qxa (n1:Qn)(k2:Int)(h_n1:QX n1):Qg (Qlz n1 k2) fun r=>True:=by
 unfold Qlz
 refine T0 (QcC n1.Places k2 (h_n1.2.1)) (fun x_1 hv2=>?_)
 refine T1 (fun hc3=>?_) (fun hc3=>?_)
 ·exact T3
 refine T0 (T4 (by simp_all) (by simp_all)) (fun e_4 hv5=>?_)
 refine T0 (Qul e_4 1 n1 k2 5 3 1 8 (((h_n1.2.1).2 e_4 hv5)) (h_n1) (by simp_all) (by simp_all)) (fun x_6 hv7=>?_)
 exact T3
theorem Qxb (k1:Int)(p2:Q4)(v3:Qn)(h_p2:Qda p2)(h_v3:QX v3):Qg (QlA k1 p2 v3) fun r=>True:=by
 unfold QlA
 refine T0 (Qxa v3 k1 (h_v3)) (fun x_1 hv2=>?_)
 exact T3
theorem Qp4 (l1:(List Q4))(v2:Qn)(h_l1:(QH Qda) l1)(h_v2:QX v2):Qg (QeU l1 v2) fun r=>True:=by
 unfold QeU
 refine T0 (Qg.up (l1.length) (fun st=>st) (fun _=>True) (Q:=fun q=>True) rfl trivial (fun i2 st hi3 hn4 hj5=>?_)) (fun q6 hq7=>?_)
 ·obtain⟨x_1,hst⟩:∃y,y=st:=⟨_,rfl⟩
  subst hst
  replace hi3:x_1=(i2:Int):=hi3
  show Qg (QdN l1 v2 x_1) _
  unfold QdN
  refine T1 (fun hc8=>?_) (fun hc8=>?_)
  ·refine T0 (T4 (by omega) (by simp_all)) (fun e_9 hv10=>?_)
   refine T0 (Qxb x_1 e_9 v2 (((h_l1).2 e_9 hv10)) (h_v2)) (fun x_11 hv12=>?_)
   refine T1 (fun hc13=>?_) (fun hc13=>?_)
   ·exact T2 (Qt trivial)
   exact T2 (QN ⟨(by simp_all),by subst hi3;exact Qy (by simp_all) (h_l1).1,trivial⟩)
  exact T2 (Qt trivial)
 rcases q6 with q6 | q6
 ·show Qg (QdO q6.1 q6.2) _
  unfold QdO
  exact T3
 show Qg (QdP) _
 unfold QdP
 exact T3
theorem Qj9 (l1:(List QF))(k2:Int)(h_l1:(QH QaO) l1):Qg (Qbw l1 k2) fun r=>r=true->0<=k2/\k2<l1.length:=by
 unfold Qbw
 exact T2 (by first | (intro hr;first | (cases hr;done) | omega | ((try simp only [QB,Qcs,QcV,Qe4,QiX,QQ,Qal,beq_iff_eq,bne_iff_ne,ne_eq,QiY,Qqm,Qb0,Qi0,Qln,Qll,QdI,QeP,QkN,QkO,QkP]at *);omega)) | ((try simp only [QB,Qcs,QcV,Qe4,QiX,QQ,Qal,beq_iff_eq,bne_iff_ne,ne_eq,QiY,Qqm,Qb0,Qi0,Qln,Qll,QdI,QeP,QkN,QkO,QkP]at *);omega) | simp_all)
theorem Qxc (v1:Int)(v2:Qn)(v3:QF)(h_v2:QX v2)(h_v3:QaO v3):Qg (QlB v1 v2 v3) fun r=>True:=by
 unfold QlB
 exact T3
theorem Qum (v1:Int)(v2:Qn)(v3:QF)(v4:Int)(h_v2:QX v2)(h_v3:QaO v3):Qg (Qh7 v1 v2 v3 v4) fun r=>True:=by
 unfold Qh7
 exact T3
theorem Qun (v1:Int)(v2:Qn)(v3:QF)(v4:Int)(h_v2:QX v2)(h_v3:QaO v3):Qg (Qh8 v1 v2 v3 v4) fun r=>True:=by
 unfold Qh8
 exact T3
theorem Quo (v1:Int)(v2:Qn)(v3:QF)(h_v2:QX v2)(h_v3:QaO v3):Qg (Qh9 v1 v2 v3) fun r=>True:=by
 unfold Qh9
 exact T3
theorem Qwc (v1:QF)(h_v1:QaO v1):Qg (Qky v1) fun r=>True:=by
 unfold Qky
 refine T0 (QhL v1.Name (h_v1.1)) (fun x_1 hv2=>?_)
 exact T3
theorem Qwd (p1:QF)(v2:QF)(h_p1:QaO p1)(h_v2:QaO v2):Qg (Qkz p1 v2) fun r=>True:=by
 unfold Qkz
 exact T3
theorem QiV (s1:(List QF))(v2:QF)(h_s1:(QH QaO) s1)(h_v2:QaO v2):Qg (Qbu s1 v2) fun r=>True:=by
 unfold Qbu
 refine T0 (Qg.up (s1.length) (fun st=>st) (fun _=>True) (Q:=fun q=>True) rfl trivial (fun i2 st hi3 hn4 hj5=>?_)) (fun q6 hq7=>?_)
 ·obtain⟨x_1,hst⟩:∃y,y=st:=⟨_,rfl⟩
  subst hst
  replace hi3:x_1=(i2:Int):=hi3
  show Qg (Qa6 s1 v2 x_1) _
  unfold Qa6
  refine T1 (fun hc8=>?_) (fun hc8=>?_)
  ·refine T0 (T4 (by omega) (by simp_all)) (fun e_9 hv10=>?_)
   refine T0 (Qwd e_9 v2 (((h_s1).2 e_9 hv10)) (h_v2)) (fun x_11 hv12=>?_)
   refine T1 (fun hc13=>?_) (fun hc13=>?_)
   ·exact T2 (Qt trivial)
   exact T2 (QN ⟨(by simp_all),by subst hi3;exact Qy (by simp_all) (h_s1).1,trivial⟩)
  exact T2 (Qt trivial)
 rcases q6 with q6 | q6
 ·show Qg (Qa7 q6) _
  unfold Qa7
  exact T3
 show Qg (Qa8) _
 unfold Qa8
 exact T3
theorem QhO (s1:(List QF))(v2:QF)(h_s1:(QH QaO) s1)(h_v2:QaO v2):Qg (Qa9 s1 v2) fun r=>True:=by
 unfold Qa9
 refine T0 (QiV s1 v2 (h_s1) (h_v2)) (fun x_1 hv2=>?_)
 exact T3
theorem Qwe (v1:Qn)(v2:Int)(v3:QF)(h_v1:QX v1)(h_v3:QaO v3)(hp0:0<=v2)(hp1:v2<v1.Tasks.length):Qg (QkA v1 v2 v3) fun r=>True:=by
 unfold QkA
 refine T0 (T5 (by simp_all;omega)) (fun _ _=>?_)
 refine T0 (QhO ((v1.Tasks.drop 0).take (v2.toNat-0)) v3 (((h_v1.2.2.1).drop _).take _) (h_v3)) (fun x_1 hv2=>?_)
 exact T3
theorem Qwf (v1:Int)(v2:QF)(h_v2:QaO v2):Qg (QhC v1 v2) fun r=>True:=by
 unfold QhC
 exact T3
theorem Qqg (v1:Qaw)(h_v1:Qez v1):Qg (Qe8 v1) fun r=>True:=by
 unfold Qe8
 refine T0 (QhL v1.Name (h_v1.1)) (fun x_1 hv2=>?_)
 exact T3
theorem Qqh (p1:Qaw)(v2:Qaw)(h_p1:Qez p1)(h_v2:Qez v2):Qg (Qe9 p1 v2) fun r=>True:=by
 unfold Qe9
 exact T3
theorem Qka (s1:(List Qaw))(v2:Qaw)(h_s1:(QH Qez) s1)(h_v2:Qez v2):Qg (QbQ s1 v2) fun r=>True:=by
 unfold QbQ
 refine T0 (Qg.up (s1.length) (fun st=>st) (fun _=>True) (Q:=fun q=>True) rfl trivial (fun i2 st hi3 hn4 hj5=>?_)) (fun q6 hq7=>?_)
 ·obtain⟨x_1,hst⟩:∃y,y=st:=⟨_,rfl⟩
  subst hst
  replace hi3:x_1=(i2:Int):=hi3
  show Qg (Qbk s1 v2 x_1) _
  unfold Qbk
  refine T1 (fun hc8=>?_) (fun hc8=>?_)
  ·refine T0 (T4 (by omega) (by simp_all)) (fun e_9 hv10=>?_)
   refine T0 (Qqh e_9 v2 (((h_s1).2 e_9 hv10)) (h_v2)) (fun x_11 hv12=>?_)
   refine T1 (fun hc13=>?_) (fun hc13=>?_)
   ·exact T2 (Qt trivial)
   exact T2 (QN ⟨(by simp_all),by subst hi3;exact Qy (by simp_all) (h_s1).1,trivial⟩)
  exact T2 (Qt trivial)
 rcases q6 with q6 | q6
 ·show Qg (Qbl q6) _
  unfold Qbl
  exact T3
 show Qg (Qbm) _
 unfold Qbm
 exact T3
theorem QiG (s1:(List Qaw))(v2:Qaw)(h_s1:(QH Qez) s1)(h_v2:Qez v2):Qg (Qbn s1 v2) fun r=>True:=by
 unfold Qbn
 refine T0 (Qka s1 v2 (h_s1) (h_v2)) (fun x_1 hv2=>?_)
 exact T3
theorem Qqi (v1:(List Qaw))(v2:Int)(v3:Qaw)(h_v1:(QH Qez) v1)(h_v3:Qez v3)(hp0:0<=v2)(hp1:v2<v1.length):Qg (Qfa v1 v2 v3) fun r=>True:=by
 unfold Qfa
 refine T0 (T5 (by simp_all;omega)) (fun _ _=>?_)
 refine T0 (QiG ((v1.drop 0).take (v2.toNat-0)) v3 (((h_v1).drop _).take _) (h_v3)) (fun x_1 hv2=>?_)
 exact T3
theorem Qqj (v1:Qn)(v2:Qaw)(h_v1:QX v1)(h_v2:Qez v2):Qg (Qfb v1 v2) fun r=>True:=by
 unfold Qfb
 refine T0 (QiE v1.Colours v2.Colour (h_v1.1)) (fun x_1 hv2=>?_)
 exact T3
theorem Qup (v1:Qaw)(v2:Int)(v3:(List Qaw))(v4:Int)(v5:Int)(v6:Qn)(v7:Int)(h_v1:Qez v1)(h_v3:(QH Qez) v3)(h_v6:QX v6)(hp0:0<=v4)(hp1:v4<v3.length):Qg (Qib v1 v2 v3 v4 v5 v6 v7) fun r=>True:=by
 unfold Qib
 refine T0 (Qqg v1 (h_v1)) (fun x_1 hv2=>?_)
 refine T1 (fun hc3=>?_) (fun hc3=>?_)
 ·exact T3
 refine T0 (Qqi v3 v4 v1 (h_v3) (h_v1) (by omega) (by omega)) (fun x_4 hv5=>?_)
 refine T1 (fun hc6=>?_) (fun hc6=>?_)
 ·exact T3
 refine T0 (Qqj v6 v1 (h_v6) (h_v1)) (fun x_7 hv8=>?_)
 refine T1 (fun hc9=>?_) (fun hc9=>?_)
 ·exact T3
 exact T3
theorem QrW (k1:Int)(v2:Qaw)(v3:(List Qaw))(v4:Qn)(h_v2:Qez v2)(h_v3:(QH Qez) v3)(h_v4:QX v4)(hp0:0<=k1)(hp1:k1<v3.length):Qg (Qgi k1 v2 v3 v4) fun r=>True:=by
 unfold Qgi
 refine T0 (Qup v2 1 v3 k1 5 v4 3 (h_v2) (h_v3) (h_v4) (by omega) (by omega)) (fun x_1 hv2=>?_)
 exact T3
theorem Qrp (l1:(List Qaw))(v2:(List Qaw))(v3:Qn)(h_l1:(QH Qez) l1)(h_v2:(QH Qez) v2)(h_v3:QX v3)(hp0:l1.length<=v2.length):Qg (QfB l1 v2 v3) fun r=>True:=by
 unfold QfB
 refine T0 (Qg.up (l1.length) (fun st=>st) (fun _=>True) (Q:=fun q=>True) rfl trivial (fun i2 st hi3 hn4 hj5=>?_)) (fun q6 hq7=>?_)
 ·obtain⟨x_1,hst⟩:∃y,y=st:=⟨_,rfl⟩
  subst hst
  replace hi3:x_1=(i2:Int):=hi3
  show Qg (Qer l1 v2 v3 x_1) _
  unfold Qer
  refine T1 (fun hc8=>?_) (fun hc8=>?_)
  ·refine T0 (T4 (by omega) (by simp_all)) (fun e_9 hv10=>?_)
   refine T0 (QrW x_1 e_9 v2 v3 (((h_l1).2 e_9 hv10)) (h_v2) (h_v3) (by omega) (by simp_all;omega)) (fun x_11 hv12=>?_)
   refine T1 (fun hc13=>?_) (fun hc13=>?_)
   ·exact T2 (Qt trivial)
   exact T2 (QN ⟨(by simp_all),by subst hi3;exact Qy (by simp_all) (h_l1).1,trivial⟩)
  exact T2 (Qt trivial)
 rcases q6 with q6 | q6
 ·show Qg (Qes q6.1 q6.2) _
  unfold Qes
  exact T3
 show Qg (Qet) _
 unfold Qet
 exact T3
theorem Qtz (n1:Qn)(l2:(List Qaw))(h_n1:QX n1)(h_l2:(QH Qez) l2):Qg (Qhh n1 l2) fun r=>True:=by
 unfold Qhh
 refine T0 (Qrp l2 l2 n1 (h_l2) (h_l2) (h_n1) (by omega)) (fun x_1 hv2=>?_)
 exact T3
theorem Qwg (v1:Qn)(v2:QF)(h_v1:QX v1)(h_v2:QaO v2):Qg (QkB v1 v2) fun r=>True:=by
 unfold QkB
 refine T0 (Qtz v1 v2.Vars (h_v1) (h_v2.2.1)) (fun x_1 hv2=>?_)
 exact T3
theorem Qvl (v1:Qn)(v2:QF)(v3:Int)(h_v1:QX v1)(h_v2:QaO v2):Qg (QgJ v1 v2 v3) fun r=>True:=by
 unfold QgJ
 refine T0 (Qwg v1 v2 (h_v1) (h_v2)) (fun x_1 hv2=>?_)
 exact T3
theorem Qq1 (n1:Qn)(k2:Int)(h_n1:QX n1):Qg (Qds n1 k2) fun r=>True:=by
 unfold Qds
 refine T0 (Qj9 n1.Tasks k2 (h_n1.2.2.1)) (fun x_1 hv2=>?_)
 refine T1 (fun hc3=>?_) (fun hc3=>?_)
 ·exact T3
 refine T0 (T4 (by simp_all) (by simp_all)) (fun e_4 hv5=>?_)
 refine T0 (Qg.up (e_4.Vars.length) (fun st=>st.2) (fun _=>True) (Q:=fun q=>True) rfl trivial (fun i8 st hi9 hn10 hj11=>?_)) (fun q12 hq13=>?_)
 ·obtain⟨out_6,x_7⟩:=st
  replace hi9:x_7=(i8:Int):=hi9
  show Qg (QeF e_4 n1 out_6 x_7) _
  unfold QeF
  refine T1 (fun hc14=>?_) (fun hc14=>?_)
  ·refine T0 (T4 (by omega) (by simp_all)) (fun e_15 hv16=>?_)
   refine T0 (Qff n1.Colours e_15.Colour (h_n1.1)) (fun x_17 hv18=>?_)
   refine T1 (fun hc19=>?_) (fun hc19=>?_)
   ·exact T2 (Qt trivial)
   exact T2 (QN ⟨(by simp_all),by subst hi9;exact Qy (by simp_all) (((h_n1.2.2.1).2 e_4 hv5).2.1).1,trivial⟩)
  exact T2 (Qt trivial)
 rcases q12 with q12 | q12
 ·show Qg (Qic) _
  unfold Qic
  exact T3
 show Qg (Qid q12) _
 unfold Qid
 exact T3
theorem Qwh (v1:Qn)(v2:Int)(h_v1:QX v1):Qg (QhD v1 v2) fun r=>True:=by
 unfold QhD
 refine T0 (Qq1 v1 v2 (h_v1)) (fun x_1 hv2=>?_)
 exact T3
theorem QyB (kind1:Int):Qg (Qk5 kind1) fun r=>0<=r->(kind1=1\/kind1=2\/kind1=3\/kind1=4\/kind1=5\/kind1=6)/\(kind1=3\/kind1=4->r=1)/\(kind1=5->r=2)/\(kind1=6->r=3):=by
 unfold Qk5
 refine T1 (fun hc=>?_) (fun hc=>?_)
 ·unfold QfO;rw [hc]
  simp only [beq_iff_eq]at hc
  exact T2 (by omega)
 simp only [beq_eq_false_iff_ne]at hc
 unfold QfO
 refine T1 (fun hc=>T2 (by simp only [beq_iff_eq]at hc;omega)) (fun hc2=>?_)
 simp only [beq_eq_false_iff_ne]at hc2
 refine T1 (fun hc3=>?_) (fun hc3=>?_)
 ·unfold QfN;rw [hc3]
  simp only [beq_iff_eq]at hc3
  exact T2 (by omega)
 simp only [beq_eq_false_iff_ne]at hc3
 unfold QfN
 refine T1 (fun hc=>T2 (by simp only [beq_iff_eq]at hc;omega)) (fun hc4=>?_)
 simp only [beq_eq_false_iff_ne]at hc4
 refine T1 (fun hc=>T2 (by simp only [beq_iff_eq]at hc;omega)) (fun hc5=>?_)
 simp only [beq_eq_false_iff_ne]at hc5
 exact T1 (fun hc=>T2 (by simp only [beq_iff_eq]at hc;omega)) (fun hc6=>T2 (by omega))
theorem QxW (op1:Int)  : Qg (QjS op1) fun r=>True:=by
 unfold QjS
 exact T3
theorem Qnc (rec_:Qh->Int->Option Bool)(s1:List Qh)(v2:Int)(h1:s1.length<=maxLen)(h:∀k∈s1,Qg (rec_ k v2) fun r=>r=true->POk v2 k):Qg (Qac rec_ s1 v2) fun r=>r=false->∀k∈s1,POk v2 k:=by
 unfold Qac Qbs
 refine T0 (P:=fun x=>x<0->∀k∈s1,POk v2 k) ?_ fun x hx=>T2 fun h=>hx (by simp only [Qal]at h;omega)
 refine T0 (Qg.up s1.length (fun st=>st) (fun st=>∀(j:Nat) k,(j:Int)<st->s1[j]? = some k->POk v2 k) (Q:=fun q=>(∀x,q=.inl x->0<=x)/\(q=.inr ()->∀k∈s1,POk v2 k)) rfl (fun j k hj=>by omega) (fun i st hi hn hj=>?_)) (fun q hq=>?_)
 ·show Qg (Q1 s1 rec_ v2 st) _
  unfold Q1 Qkk
  refine T1 (fun hc=>?_) (fun hc=>T2 (Qt ⟨fun x h=>(by cases h),fun _ k hk=>by
   obtain⟨j,hj1,hj2⟩:=Qr9.1 hk
   simp only [Qal]at hc
   exact hj j k (by omega) (by rw [QG hj1,hj2])⟩))
  simp only [QQ]at hc
  rw [QeN (by omega)]
  have hlt:st.toNat<s1.length:=by omega
  rw [QG hlt]
  refine T0 (P:=fun k=>k=s1[st.toNat]) (T2 rfl) fun k hk=>?_
  subst hk
  refine T0 (P:=fun r=>r=false->POk v2 s1[st.toNat]) (T0 (h _ (Qby hlt)) fun x hx=>T2 fun h=>hx (by simpa using h)) fun x hx=>?_
  refine T1 (fun _=>T2 (Qt ⟨fun x h=>(by cases h;omega),fun h=>(by cases h)⟩)) fun hxf=>T2 (QN ⟨by omega,by rw [hi];exact Qy (by omega) h1,?_⟩)
  rw [hi,Qy (show i<s1.length by omega) h1]
  intro j k hj' hk
  by_cases c:j=i
  ·subst c
   have e:st.toNat=j:=by omega
   have:=hx hxf
   rw [QG (by omega)]at hk
   cases hk
   simpa only [e] using this
  exact hj j k (by omega) hk
 rcases q with q | q
 ·exact T2 fun h=>absurd (hq.1 q rfl) (by omega)
 exact T2 fun _=>hq.2 rfl
theorem Ql2 : ∀(n:Nat) (e:Qh) (v:Int),QcG e->SizeOf.sizeOf e<=n->Qg (QaR n e v) fun r=>r=true->POk v e
 | 0,e,_,_,h=>absurd e.pos (by omega)
 | n+1,e,v,he,h=>by
  unfold QaR Qhy
  refine T0 (QyB e.Kind) fun x hx=>?_
  refine T1 (fun _=>T2 fun h=>by cases h) fun h1=>T1 (fun _=>T2 fun h=>by cases h) fun h2=>?_
  refine T0 (P:=fun _=>True) ?_ fun y _=>?_
  ·unfold Qmp
   exact T1 (fun _=>T0 (QxW e.Num) fun x _=>T3) fun _=>T3
  unfold QgF
  refine T1 (fun _=>T2 fun h=>by cases h) fun _=>?_
  refine T0 (Qnc (QaR n) e.Kids v (QcR he).1 fun k hk=>Ql2 n k v ((QcR he).2 k hk) (by have:=QnQ hk;omega)) fun x hx2=>T2 fun hx3=>?_
  simp only [bne_eq_false_iff_eq]at h1
  have h3:=hx (by omega)
  simp only [Bool.and_eq_false_iff,QcV,Qal,beq_eq_false_iff_ne]at h2
  exact .mk e h3.1 (fun hk=>by omega) (fun hk=>by have:=h3.2.1 hk;omega) (fun hk=>by have:=h3.2.2.1 hk;omega) (fun hk=>by have:=h3.2.2.2 hk;omega) (hx2 (by simpa using hx3))
theorem QxX (e1:Qh)(vars2:Int)(h_e1:QcG e1):Qg (Qmq e1 vars2) fun r=>r=true->POk vars2 e1:=Ql2 _ e1 vars2 h_e1 (Qb2 _)
theorem Qp5 : ∀(n:Nat) (e:Qh),QcG e->SizeOf.sizeOf e<=n->Qg (Qck n e) fun _=>True
 | 0,e,_,h=>absurd e.pos (by omega)
 | n+1,e,he,h=>by
  unfold Qck Qki
  refine T0 (Qg.up e.Kids.length (fun st=>st.2) (fun _=>True) (Q:=fun _=>True) rfl trivial (fun i st hi hn _=>?_)) (fun q _=>?_)
  ·obtain⟨a,x⟩:=st
   replace hi:x=(i:Int):=hi
   show Qg (Qi5 e (Qck n) a x) _
   unfold Qi5
   refine T1 (fun hc=>?_) (fun hc=>?_)
   ·simp only [QQ]at hc
    refine T0 (T4 (by omega) (by omega)) fun k hk=>?_
    have:=QnQ hk
    refine T0 (Qp5 n k ((QcR he).2 k hk) (by omega)) fun d _=>?_
    exact T2 (QN ⟨by omega,by subst hi;exact Qy (by omega) (QcR he).1,trivial⟩)
   exact T2 (Qt trivial)
  unfold Qmn
  exact T3
theorem QxY (e1:Qh)(h_e1:QcG e1):Qg (Qmo e1) fun _=>True:=Qp5 _ e1 h_e1 (Qb2 _)
theorem Qq2 : ∀(n:Nat) (e:Qh),QcG e->SizeOf.sizeOf e<=n->Qg (QcU n e) fun _=>True
 | 0,e,_,h=>absurd e.pos (by omega)
 | n+1,e,he,h=>by
  unfold QcU Qlu
  refine T0 (Qg.up e.Kids.length (fun st=>st.2) (fun _=>True) (Q:=fun _=>True) rfl trivial (fun i st hi hn _=>?_)) (fun q _=>?_)
  ·obtain⟨a,x⟩:=st
   replace hi:x=(i:Int):=hi
   show Qg (Qkj e (QcU n) a x) _
   unfold Qkj
   refine T1 (fun hc=>?_) (fun hc=>?_)
   ·simp only [QQ]at hc
    refine T0 (T4 (by omega) (by omega)) fun k hk=>?_
    have:=QnQ hk
    refine T0 (Qq2 n k ((QcR he).2 k hk) (by omega)) fun d _=>?_
    exact T2 (QN ⟨by omega,by subst hi;exact Qy (by omega) (QcR he).1,trivial⟩)
   exact T2 (Qt trivial)
  unfold Qm2
  exact T3
theorem QyC (e1:Qh)(h_e1:QcG e1):Qg (Qnq e1) fun _=>True:=Qq2 _ e1 h_e1 (Qb2 _)
theorem QkQ (e1:Qh)(vars2:Int)(h_e1:QcG e1):Qg (QeZ e1 vars2) fun r=>r=true->POk vars2 e1:=by
 unfold QeZ
 refine T0 (P:=fun r=>r=true->POk vars2 e1) ?_ (fun x hx=>T2 hx)
 unfold Qmr
 refine T0 (QxY e1 h_e1) (fun x _=>?_)
 refine T1 (fun _=>?_) (fun _=>T2 fun h=>by cases h)
 refine T0 (QyC e1 h_e1) (fun x _=>?_)
 refine T1 (fun _=>?_) (fun _=>T2 fun h=>by cases h)
 exact T0 (QxX e1 vars2 h_e1) (fun x hx=>T2 hx)
theorem Qwi (v1:QF)(v2:Int)(h_v1:QaO v1):Qg (QkC v1 v2) fun r=>True:=by
 unfold QkC
 refine T0 (P:=fun _=>True) ?_ (fun x_1 hv2=>?_)
 ·unfold Qoi
  refine T0 (QkQ v1.Guard v2 (h_v1.2.2.1)) (fun x_3 hv4=>?_)
  refine T1 (fun hc5=>?_) (fun hc5=>?_)
  ·refine T1 (fun hc6=>?_) (fun hc6=>?_)
   ·exact T3
   exact T3
  exact T3
 unfold Qhi
 exact T3
theorem Quq (v1:Qn)(v2:Qat)(h_v1:QX v1)(h_v2:QiD v2):Qg (Qie v1 v2) fun r=>True:=by
 unfold Qie
 refine T0 (QcC v1.Places v2.Place (h_v1.2.1)) (fun x_1 hv2=>?_)
 exact T3
theorem Qur (v1:Qat)(v2:Int)(h_v1:QiD v1):Qg (Qif v1 v2) fun r=>True:=by
 unfold Qif
 refine T0 (QkQ v1.Expr v2 (h_v1.2)) (fun x_1 hv2=>?_)
 exact T3
theorem Qus (v1:Qn)(v2:Qat)(v3:Int)(v4:Int)(v5:Int)(h_v1:QX v1)(h_v2:QiD v2):Qg (Qig v1 v2 v3 v4 v5) fun r=>True:=by
 unfold Qig
 refine T0 (Quq v1 v2 (h_v1) (h_v2)) (fun x_1 hv2=>?_)
 refine T1 (fun hc3=>?_) (fun hc3=>?_)
 ·exact T3
 refine T0 (Qur v2 v4 (h_v2)) (fun x_4 hv5=>?_)
 refine T1 (fun hc6=>?_) (fun hc6=>?_)
 ·exact T3
 exact T3
theorem Qwj (p1:Int)(a2:Qat)(v3:Qn)(v4:Int)(h_a2:QiD a2)(h_v3:QX v3):Qg (QkD p1 a2 v3 v4) fun r=>True:=by
 unfold QkD
 refine T0 (Qus v3 a2 3 v4 1 (h_v3) (h_a2)) (fun x_1 hv2=>?_)
 exact T3
theorem Qrq (l1:(List Qat))(v2:Qn)(v3:Int)(h_l1:(QH QiD) l1)(h_v2:QX v2):Qg (QfC l1 v2 v3) fun r=>True:=by
 unfold QfC
 refine T0 (Qg.up (l1.length) (fun st=>st) (fun _=>True) (Q:=fun q=>True) rfl trivial (fun i2 st hi3 hn4 hj5=>?_)) (fun q6 hq7=>?_)
 ·obtain⟨x_1,hst⟩:∃y,y=st:=⟨_,rfl⟩
  subst hst
  replace hi3:x_1=(i2:Int):=hi3
  show Qg (Qeu l1 v2 v3 x_1) _
  unfold Qeu
  refine T1 (fun hc8=>?_) (fun hc8=>?_)
  ·refine T0 (T4 (by omega) (by simp_all)) (fun e_9 hv10=>?_)
   refine T0 (Qwj x_1 e_9 v2 v3 (((h_l1).2 e_9 hv10)) (h_v2)) (fun x_11 hv12=>?_)
   refine T1 (fun hc13=>?_) (fun hc13=>?_)
   ·exact T2 (Qt trivial)
   exact T2 (QN ⟨(by simp_all),by subst hi3;exact Qy (by simp_all) (h_l1).1,trivial⟩)
  exact T2 (Qt trivial)
 rcases q6 with q6 | q6
 ·show Qg (Qev q6.1 q6.2) _
  unfold Qev
  exact T3
 show Qg (Qew) _
 unfold Qew
 exact T3
theorem QrX (n1:Qn)(l2:(List Qat))(vars3:Int)(h_n1:QX n1)(h_l2:(QH QiD) l2):Qg (Qj2 n1 l2 vars3) fun r=>True:=by
 unfold Qj2
 refine T0 (Qrq l2 n1 vars3 (h_l2) (h_n1)) (fun x_1 hv2=>?_)
 exact T3
theorem Qwk (v1:Qn)(v2:QF)(v3:Int)(h_v1:QX v1)(h_v2:QaO v2):Qg (QkE v1 v2 v3) fun r=>True:=by
 unfold QkE
 refine T0 (QrX v1 v2.Ins v3 (h_v1) (h_v2.2.2.2.2.2.1)) (fun x_1 hv2=>?_)
 exact T3
theorem QsT (v1:Qn)(v2:QF)(v3:Int)(v4:Int)(h_v1:QX v1)(h_v2:QaO v2):Qg (QgK v1 v2 v3 v4) fun r=>True:=by
 unfold QgK
 refine T0 (Qwk v1 v2 v3 (h_v1) (h_v2)) (fun x_1 hv2=>?_)
 exact T3
theorem Qwl (v1:Qn)(v2:QF)(v3:Int)(h_v1:QX v1)(h_v2:QaO v2):Qg (QkF v1 v2 v3) fun r=>True:=by
 unfold QkF
 refine T0 (QrX v1 v2.Outs v3 (h_v1) (h_v2.2.2.2.2.2.2.1)) (fun x_1 hv2=>?_)
 exact T3
theorem QsU (v1:Qn)(v2:QF)(v3:Int)(v4:Int)(h_v1:QX v1)(h_v2:QaO v2):Qg (QgL v1 v2 v3 v4) fun r=>True:=by
 unfold QgL
 refine T0 (Qwl v1 v2 v3 (h_v1) (h_v2)) (fun x_1 hv2=>?_)
 exact T3
theorem QrY (v1:Qn)(v2:Int)(h_v1:QX v1):Qg (Qgj v1 v2) fun r=>True:=by
 unfold Qgj
 refine T0 (QcC v1.Places v2 (h_v1.2.1)) (fun x_1 hv2=>?_)
 exact T3
theorem Qp6 (s1:(List Int))(v2:Int)(h_s1:(QH (fun _=>True)) s1):Qg (Qdj s1 v2) fun r=>True:=by
 unfold Qdj
 refine T0 (Qg.up (s1.length) (fun st=>st) (fun _=>True) (Q:=fun q=>True) rfl trivial (fun i2 st hi3 hn4 hj5=>?_)) (fun q6 hq7=>?_)
 ·obtain⟨x_1,hst⟩:∃y,y=st:=⟨_,rfl⟩
  subst hst
  replace hi3:x_1=(i2:Int):=hi3
  show Qg (QaG s1 v2 x_1) _
  unfold QaG
  refine T1 (fun hc8=>?_) (fun hc8=>?_)
  ·refine T0 (T4 (by omega) (by simp_all)) (fun e_9 hv10=>?_)
   refine T1 (fun hc11=>?_) (fun hc11=>?_)
   ·exact T2 (Qt trivial)
   exact T2 (QN ⟨(by simp_all),by subst hi3;exact Qy (by simp_all) (h_s1).1,trivial⟩)
  exact T2 (Qt trivial)
 rcases q6 with q6 | q6
 ·show Qg (QdL q6) _
  unfold QdL
  exact T3
 show Qg (QdM) _
 unfold QdM
 exact T3
theorem QhU (s1:(List Int))(v2:Int)(h_s1:(QH (fun _=>True)) s1):Qg (QaH s1 v2) fun r=>True:=by
 unfold QaH
 refine T0 (Qp6 s1 v2 (h_s1)) (fun x_1 hv2=>?_)
 exact T3
theorem QrZ (v1:(List Int))(v2:Int)(v3:Int)(h_v1:(QH (fun _=>True)) v1)(hp0:0<=v2)(hp1:v2<v1.length):Qg (Qgk v1 v2 v3) fun r=>True:=by
 unfold Qgk
 refine T0 (T5 (by simp_all;omega)) (fun _ _=>?_)
 refine T0 (QhU ((v1.drop 0).take (v2.toNat-0)) v3 (((h_v1).drop _).take _)) (fun x_1 hv2=>?_)
 exact T3
theorem Qut (v1:Qn)(v2:Int)(v3:Int)(v4:(List Int))(v5:Int)(v6:Int)(h_v1:QX v1)(h_v4:(QH (fun _=>True)) v4)(hp0:0<=v5)(hp1:v5<v4.length):Qg (Qih v1 v2 v3 v4 v5 v6) fun r=>True:=by
 unfold Qih
 refine T0 (QrY v1 v2 (h_v1)) (fun x_1 hv2=>?_)
 refine T1 (fun hc3=>?_) (fun hc3=>?_)
 ·exact T3
 refine T0 (QrZ v4 v5 v2 (h_v4) (by omega) (by omega)) (fun x_4 hv5=>?_)
 refine T1 (fun hc6=>?_) (fun hc6=>?_)
 ·exact T3
 exact T3
theorem QtA (k1:Int)(place2:Int)(v3:Qn)(v4:(List Int))(h_v3:QX v3)(h_v4:(QH (fun _=>True)) v4)(hp0:0<=k1)(hp1:k1<v4.length):Qg (Qhj k1 place2 v3 v4) fun r=>True:=by
 unfold Qhj
 refine T0 (Qut v3 place2 3 v4 k1 5 (h_v3) (h_v4) (by omega) (by omega)) (fun x_1 hv2=>?_)
 exact T3
theorem Quu (l1:(List Int))(v2:Qn)(v3:(List Int))(h_l1:(QH (fun _=>True)) l1)(h_v2:QX v2)(h_v3:(QH (fun _=>True)) v3)(hp0:l1.length<=v3.length):Qg (Qii l1 v2 v3) fun r=>True:=by
 unfold Qii
 refine T0 (Qg.up (l1.length) (fun st=>st) (fun _=>True) (Q:=fun q=>True) rfl trivial (fun i2 st hi3 hn4 hj5=>?_)) (fun q6 hq7=>?_)
 ·obtain⟨x_1,hst⟩:∃y,y=st:=⟨_,rfl⟩
  subst hst
  replace hi3:x_1=(i2:Int):=hi3
  show Qg (Qgl l1 v2 v3 x_1) _
  unfold Qgl
  refine T1 (fun hc8=>?_) (fun hc8=>?_)
  ·refine T0 (T4 (by omega) (by simp_all)) (fun e_9 hv10=>?_)
   refine T0 (QtA x_1 e_9 v2 v3 (h_v2) (h_v3) (by omega) (by simp_all;omega)) (fun x_11 hv12=>?_)
   refine T1 (fun hc13=>?_) (fun hc13=>?_)
   ·exact T2 (Qt trivial)
   exact T2 (QN ⟨(by simp_all),by subst hi3;exact Qy (by simp_all) (h_l1).1,trivial⟩)
  exact T2 (Qt trivial)
 rcases q6 with q6 | q6
 ·show Qg (Qgm q6.1 q6.2) _
  unfold Qgm
  exact T3
 show Qg (Qgn) _
 unfold Qgn
 exact T3
theorem Qvm (n1:Qn)(l2:(List Int))(h_n1:QX n1)(h_l2:(QH (fun _=>True)) l2):Qg (Qjs n1 l2) fun r=>True:=by
 unfold Qjs
 refine T0 (Quu l2 n1 l2 (h_l2) (h_n1) (h_l2) (by omega)) (fun x_1 hv2=>?_)
 exact T3
theorem Qvn (v1:Qn)(v2:QF)(h_v1:QX v1)(h_v2:QaO v2):Qg (Qjt v1 v2) fun r=>True:=by
 unfold Qjt
 refine T0 (Qvm v1 v2.Cancel (h_v1) (h_v2.2.2.2.2.2.2.2.1)) (fun x_1 hv2=>?_)
 exact T3
theorem QsV (v1:Qn)(v2:QF)(v3:Int)(h_v1:QX v1)(h_v2:QaO v2):Qg (QgM v1 v2 v3) fun r=>True:=by
 unfold QgM
 refine T0 (Qvn v1 v2 (h_v1) (h_v2)) (fun x_1 hv2=>?_)
 exact T3
theorem QoF (k1:Int)(l2:(List Qat))(h_l2:(QH QiD) l2):Qg (Qfc k1 l2) fun r=>True:=by
 unfold Qfc
 exact T3
theorem Qxd (t1:QF)(h_t1:QaO t1):Qg (Qiz t1) fun r=>True:=by
 unfold Qiz
 refine T0 (P:=fun _=>True) ?_ (fun x_1 hv2=>?_)
 ·unfold Qpy
  refine T0 (QoF t1.Join t1.Ins (h_t1.2.2.2.2.2.1)) (fun x_3 hv4=>?_)
  refine T1 (fun hc5=>?_) (fun hc5=>?_)
  ·refine T0 (QoF t1.Split t1.Outs (h_t1.2.2.2.2.2.2.1)) (fun x_6 hv7=>?_)
   refine T1 (fun hc8=>?_) (fun hc8=>?_)
   ·refine T1 (fun hc9=>?_) (fun hc9=>?_)
    ·refine T1 (fun hc10=>?_) (fun hc10=>?_)
     ·exact T3
     exact T3
    exact T3
   exact T3
  exact T3
 unfold Qij
 exact T3
theorem Qvo (v1:QF)(h_v1:QaO v1):Qg (Qju v1) fun r=>True:=by
 unfold Qju
 refine T0 (Qxd v1 (h_v1)) (fun x_1 hv2=>?_)
 exact T3
theorem Quv (v1:QF)(v2:Int)(v3:Qn)(v4:Int)(v5:Int)(v6:Int)(v7:Int)(v8:Int)(v9:Int)(v10:Int)(v11:Int)(v12:Int)(v13:Int)(v14:Int)(v15:Int)(h_v1:QaO v1)(h_v3:QX v3)(hp0:0<=v4)(hp1:v4<v3.Tasks.length):Qg (QeG v1 v2 v3 v4 v5 v6 v7 v8 v9 v10 v11 v12 v13 v14 v15) fun r=>True:=by
 unfold QeG
 refine T0 (Qwc v1 (h_v1)) (fun x_1 hv2=>?_)
 refine T1 (fun hc3=>?_) (fun hc3=>?_)
 ·exact T3
 refine T0 (Qwe v3 v4 v1 (h_v3) (h_v1) (by omega) (by omega)) (fun x_4 hv5=>?_)
 refine T1 (fun hc6=>?_) (fun hc6=>?_)
 ·exact T3
 refine T0 (Qwf v6 v1 (h_v1)) (fun x_7 hv8=>?_)
 refine T1 (fun hc9=>?_) (fun hc9=>?_)
 ·exact T3
 refine T0 (Qvl v3 v1 v8 (h_v3) (h_v1)) (fun x_10 hv11=>?_)
 refine T1 (fun hc12=>?_) (fun hc12=>?_)
 ·exact T3
 refine T0 (Qwh v3 v4 (h_v3)) (fun x_13 hv14=>?_)
 refine T1 (fun hc15=>?_) (fun hc15=>?_)
 ·exact T3
 refine T0 (Qwi v1 v6 (h_v1)) (fun x_16 hv17=>?_)
 refine T1 (fun hc18=>?_) (fun hc18=>?_)
 ·exact T3
 refine T0 (QsT v3 v1 v6 x_10.2 (h_v3) (h_v1)) (fun x_19 hv20=>?_)
 refine T1 (fun hc21=>?_) (fun hc21=>?_)
 ·exact T3
 refine T0 (QsU v3 v1 v6 x_19.2 (h_v3) (h_v1)) (fun x_22 hv23=>?_)
 refine T1 (fun hc24=>?_) (fun hc24=>?_)
 ·exact T3
 refine T0 (QsV v3 v1 x_22.2 (h_v3) (h_v1)) (fun x_25 hv26=>?_)
 refine T1 (fun hc27=>?_) (fun hc27=>?_)
 ·exact T3
 refine T0 (Qvo v1 (h_v1)) (fun x_28 hv29=>?_)
 refine T1 (fun hc30=>?_) (fun hc30=>?_)
 ·exact T3
 exact T3
theorem Qr0 (n1:Qn)(k2:Int)(h_n1:QX n1):Qg (Qce n1 k2) fun r=>True:=by
 unfold Qce
 refine T0 (Qj9 n1.Tasks k2 (h_n1.2.2.1)) (fun x_1 hv2=>?_)
 refine T1 (fun hc3=>?_) (fun hc3=>?_)
 ·exact T3
 refine T0 (QoE n1 (h_n1)) (fun x_4 hv5=>?_)
 refine T1 (fun hc6=>?_) (fun hc6=>?_)
 ·exact T3
 refine T0 (T4 (by simp_all) (by simp_all)) (fun e_7 hv8=>?_)
 refine T0 (T4 (by simp_all) (by simp_all)) (fun e_9 hv10=>?_)
 refine T0 (Qxc 0 n1 e_7 (h_n1) (((h_n1.2.2.1).2 e_7 hv8))) (fun x_11 hv12=>?_)
 refine T0 (Qum 0 n1 e_7 (e_9.Vars.length:Int) (h_n1) (((h_n1.2.2.1).2 e_7 hv8))) (fun x_13 hv14=>?_)
 refine T0 (Qun 0 n1 e_7 (e_9.Vars.length:Int) (h_n1) (((h_n1.2.2.1).2 e_7 hv8))) (fun x_15 hv16=>?_)
 refine T0 (Quo 0 n1 e_7 (h_n1) (((h_n1.2.2.1).2 e_7 hv8))) (fun x_17 hv18=>?_)
 refine T0 (Quv e_7 1 n1 k2 5 (e_9.Vars.length:Int) 2 0 (-1) 2 1 (-1) (-1) (-1) 11 (((h_n1.2.2.1).2 e_7 hv8)) (h_n1) (by simp_all) (by simp_all)) (fun x_19 hv20=>?_)
 refine T1 (fun hc21=>?_) (fun hc21=>?_)
 ·exact T3
 exact T3
theorem Qxe (k1:Int)(p2:QF)(v3:Qn)(h_p2:QaO p2)(h_v3:QX v3):Qg (QiA k1 p2 v3) fun r=>True:=by
 unfold QiA
 refine T0 (Qr0 v3 k1 (h_v3)) (fun x_1 hv2=>?_)
 exact T3
theorem Qqk (l1:(List QF))(v2:Qn)(h_l1:(QH QaO) l1)(h_v2:QX v2):Qg (QcF l1 v2) fun r=>True:=by
 unfold QcF
 refine T0 (Qg.up (l1.length) (fun st=>st) (fun _=>True) (Q:=fun q=>True) rfl trivial (fun i2 st hi3 hn4 hj5=>?_)) (fun q6 hq7=>?_)
 ·obtain⟨x_1,hst⟩:∃y,y=st:=⟨_,rfl⟩
  subst hst
  replace hi3:x_1=(i2:Int):=hi3
  show Qg (QbU l1 v2 x_1) _
  unfold QbU
  refine T1 (fun hc8=>?_) (fun hc8=>?_)
  ·refine T0 (T4 (by omega) (by simp_all)) (fun e_9 hv10=>?_)
   refine T0 (Qxe x_1 e_9 v2 (((h_l1).2 e_9 hv10)) (h_v2)) (fun x_11 hv12=>?_)
   refine T1 (fun hc13=>?_) (fun hc13=>?_)
   ·exact T2 (Qt trivial)
   exact T2 (QN ⟨(by simp_all),by subst hi3;exact Qy (by simp_all) (h_l1).1,trivial⟩)
  exact T2 (Qt trivial)
 rcases q6 with q6 | q6
 ·show Qg (Qd0 q6.1 q6.2) _
  unfold Qd0
  exact T3
 show Qg (Qd1) _
 unfold Qd1
 exact T3
theorem QyD (n1:Qn)(h_n1:QX n1):Qg (QfK n1) fun r=>True:=by
 unfold QfK
 refine T0 (Qw5 n1 2 3 1 (h_n1)) (fun x_1 hv2=>?_)
 refine T1 (fun hc3=>?_) (fun hc3=>?_)
 ·exact T3
 refine T0 (QoE n1 (h_n1)) (fun x_4 hv5=>?_)
 refine T1 (fun hc6=>?_) (fun hc6=>?_)
 ·exact T3
 refine T0 (Qp4 n1.Places n1 (h_n1.2.1) (h_n1)) (fun x_7 hv8=>?_)
 refine T1 (fun hc9=>?_) (fun hc9=>?_)
 ·exact T3
 refine T0 (Qqk n1.Tasks n1 (h_n1.2.2.1) (h_n1)) (fun x_10 hv11=>?_)
 refine T1 (fun hc12=>?_) (fun hc12=>?_)
 ·exact T3
 exact T3
theorem Qzh (a1:Int)(b2:Int)  : Qg (Qh1 a1 b2) fun r=>True:=by
 unfold Qh1
 refine T1 (fun hc1=>?_) (fun hc1=>?_)
 ·exact T3
 exact T3
theorem QtB (a1:Int)(b2:Int)  : Qg (Qc5 a1 b2) fun r=>True:=by
 unfold Qc5
 refine T1 (fun hc1=>?_) (fun hc1=>?_)
 ·exact T3
 exact T3
theorem Qti (a1:Int)  : Qg (Qg0 a1) fun r=>True:=by
 unfold Qg0
 refine T1 (fun hc1=>?_) (fun hc1=>?_)
 ·exact T3
 exact T3
theorem QtC (p1:Int)(y2:Int)  : Qg (Qd9 p1 y2) fun r=>True:=by
 unfold Qd9
 exact T3
theorem Qwm (a1:Int)(b2:Int)  : Qg (QfP a1 b2) fun r=>True:=by
 unfold QfP
 refine T0 (Qti a1 ) (fun x_1 hv2=>?_)
 refine T0 (Qti b2 ) (fun x_3 hv4=>?_)
 refine T0 (QtC x_1 x_3 ) (fun x_5 hv6=>?_)
 refine T1 (fun hc7=>?_) (fun hc7=>?_)
 ·unfold Qc6
  refine T1 (fun hc8=>?_) (fun hc8=>?_)
  ·exact T3
  exact T3
 unfold Qc6
 refine T1 (fun hc9=>?_) (fun hc9=>?_)
 ·exact T3
 exact T3
theorem QoG (a1:Int)(b2:Int)  : Qg (QcA a1 b2) fun r=>True:=by
 unfold QcA
 refine T1 (fun hc1=>?_) (fun hc1=>?_)
 ·exact T3
 refine T1 (fun hc2=>?_) (fun hc2=>?_)
 ·exact T3
 refine T0 (T5 (by simp_all)) (fun _ _=>?_)
 refine T0 (T5 (by simp_all)) (fun _ _=>?_)
 exact T3
theorem Qe3 (is1:Bool)  : Qg (QbP is1) fun r=>True:=by
 unfold QbP
 refine T1 (fun hc1=>?_) (fun hc1=>?_)
 ·exact T3
 exact T3
theorem Qg5 (op1:Int)(a2:Int)(b3:Int)  : Qg (QbK op1 a2 b3) fun r=>True:=by
 unfold QbK
 refine T1 (fun hc1=>?_) (fun hc1=>?_)
 ·refine T0 (Qzh a2 b3 ) (fun x_2 hv3=>?_)
  exact T3
 refine T1 (fun hc4=>?_) (fun hc4=>?_)
 ·refine T0 (QtB a2 b3 ) (fun x_5 hv6=>?_)
  exact T3
 refine T1 (fun hc7=>?_) (fun hc7=>?_)
 ·refine T0 (Qwm a2 b3 ) (fun x_8 hv9=>?_)
  exact T3
 refine T1 (fun hc10=>?_) (fun hc10=>?_)
 ·refine T0 (QoG a2 b3 ) (fun x_11 hv12=>?_)
  exact T3
 refine T1 (fun hc13=>?_) (fun hc13=>?_)
 ·refine T0 (QoG a2 b3 ) (fun x_14 hv15=>?_)
  exact T3
 refine T1 (fun hc16=>?_) (fun hc16=>?_)
 ·refine T0 (Qe3 (a2==b3) ) (fun x_17 hv18=>?_)
  exact T3
 refine T1 (fun hc19=>?_) (fun hc19=>?_)
 ·refine T0 (Qe3 (a2 != b3) ) (fun x_20 hv21=>?_)
  exact T3
 refine T1 (fun hc22=>?_) (fun hc22=>?_)
 ·refine T0 (Qe3 (decide (a2<b3)) ) (fun x_23 hv24=>?_)
  exact T3
 refine T1 (fun hc25=>?_) (fun hc25=>?_)
 ·refine T0 (Qe3 (decide (a2<=b3)) ) (fun x_26 hv27=>?_)
  exact T3
 refine T1 (fun hc28=>?_) (fun hc28=>?_)
 ·refine T0 (P:=fun _=>True) ?_ (fun v_29 hv30=>?_)
  ·unfold Qmu
   refine T1 (fun hc31=>?_) (fun hc31=>?_)
   ·refine T0 (Qe3 (b3 != 0) ) (fun x_32 hv33=>?_)
    exact T3
   refine T0 (Qe3 false ) (fun x_34 hv35=>?_)
   exact T3
  unfold QjT
  exact T3
 refine T1 (fun hc36=>?_) (fun hc36=>?_)
 ·refine T0 (P:=fun _=>True) ?_ (fun v_37 hv38=>?_)
  ·unfold Qmv
   refine T1 (fun hc39=>?_) (fun hc39=>?_)
   ·refine T0 (Qe3 true ) (fun x_40 hv41=>?_)
    exact T3
   refine T0 (Qe3 (b3 != 0) ) (fun x_42 hv43=>?_)
   exact T3
  unfold QjU
  exact T3
 exact T3
theorem Quw (a1:Int)  : Qg (Qmx a1) fun r=>True:=by
 unfold Qmx
 refine T0 (Qg5 2 0 a1 ) (fun x_1 hv2=>?_)
 exact T3
end Go.Proofs
noncomputable section
namespace Go.Proofs
open Go Go.RowKit Go.Vm
theorem Qux (b:List (Int×Int))(h:b.length<=maxLen):QfJ b=some (rtF (-1) b):=by
 unfold QfJ
 have h1:=Ql6 (body:=fun st=>QcZ b st.1 st.2) (l:=b) (ρ:=Unit⊕Unit) (fun i (t:Int)=>(t,(i:Int)))
  (fun i t x=>bif ((decide (x.1<=t))||((decide (x.2<1))||(decide (1048576<x.2))))then .inr (.inl ())else .inl x.1) (fun _=>.inr ())
  (fun i t x hi hx=>by
   show QcZ b t i=_
   unfold QcZ
   rw [QI (by omega:(i:Int)<b.length),cond_true,Qae,hx,Ql]
   cases ((decide (x.1<=t))||((decide (x.2<1))||(decide (1048576<x.2))))with
   | true=>rfl
   | false=>simp only [cond_false,Sum.elim_inl];rw [Qy hi h])
  (fun t=>by
   show QcZ b t b.length=_
   unfold QcZ
   rw [QP (by omega)];rfl) (-1) (s0:=(-1,0)) rfl
 rw [h1]
 have:∀(l:List (Int×Int)) (k:Nat) (t:Int),QgT (fun i t (x:Int×Int)=>(bif ((decide (x.1<=t))||((decide (x.2<1))||(decide (1048576<x.2))))then .inr (.inl ())else .inl x.1:Int⊕(Unit⊕Unit))) (fun _=>.inr ()) k t l=bif rtF t l then .inr ()else .inl ():=by
  intro l
  induction l with
  | nil=>intro k t;rfl
  | cons x l ih=>
   intro k t
   rw [QgT,rtF]
   cases ((decide (x.1<=t))||((decide (x.2<1))||(decide (1048576<x.2))))with
   | true=>rfl
   | false=>simp only [cond_false,Sum.elim_inl,Bool.not_false,QoH];exact ih _ _
 rw [this]
 cases rtF (-1) b<;>rfl
theorem Quy (b:List (Int×Int))(h:b.length<=maxLen):Qm5 b=some (bif rtF (-1) b then .inr b else .inl ()):=by
 unfold Qm5
 rw [Qux b h,Ql]
 cases hr:rtF (-1) b with
 | false=>rfl
 | true=>
  simp only [Qft,cond_false,cond_true]
  have ha:=(Qdl.1 hr).1
  obtain⟨r,h1,h2⟩:=Qnb (body:=fun st=>Qg2 b st.1 st.2) b.length (fun i s=>s=((i:Int),b.take i)) (fun r=>r=b)
   (fun i s hi hs=>by
    subst hs
    refine .inl ⟨(((i+1:Nat):Int),b.take (i+1)),?_,rfl⟩
    show Qg2 b i (b.take i)=_
    unfold Qg2
    rw [QI (by omega:(i:Int)<b.length),cond_true,Qae,QG hi,Ql,Qy hi h]
    have e:b.take (i+1)=b.take i++[b[i]]:=by rw [QhW,QG hi];rfl
    rw [e,<-QCo (by have:=(ha.sublist (List.take_sublist (i+1) b));rw [e]at this;exact this)])
   (fun s hs=>by
    subst hs
    refine⟨_,?_,rfl⟩
    show Qg2 b b.length (b.take b.length)=_
    unfold Qg2
    rw [QP (by omega),Qi2];rfl) (0,[]) rfl
  rw [h1,h2];rfl
theorem Qvx (a b:List (Int×Int))(ha:a.length<=maxLen)(hb:b.length<=maxLen):Qmz a b=some (bif rtF (-1) a then(bif rtF (-1) b then .inr (.inr (.inr (a,b)))else .inr (.inr (.inl a)))else(bif rtF (-1) b then .inr (.inl b)else .inl ())):=by
 unfold Qmz
 rw [Quy a ha]
 cases rtF (-1) a with
 | true=>
  simp only [cond_true,Ql,Sum.elim_inr]
  unfold QnW
  rw [Quy b hb]
  cases rtF (-1) b<;>rfl
 | false=>
  simp only [cond_false,Ql,Sum.elim_inl]
  unfold QnV
  rw [Quy b hb]
  cases rtF (-1) b<;>rfl
theorem Qn4 (m:List (Int×Int))(ha:Asc m)(h':m.length<=4294967296):QfZ m=some (Qk0 m):=by
 have h:m.length<=maxLen:=by unfold maxLen;omega
 unfold QfZ QdX QiQ
 simp only [QI h',Qq0 rfl,Ql,QBt ha]
 obtain⟨r,h1,h2⟩:=Qnb (body:=fun st=>Qcr (m.map Prod.fst) m st.1 st.2) m.length (fun i s=>s=((i:Int),Qk0 (m.take i))) (fun r=>r=Qk0 m)
  (fun i s hi hs=>by
   subst hs
   refine .inl ⟨(((i+1:Nat):Int),Qk0 (m.take (i+1))),?_,rfl⟩
   show Qcr (m.map Prod.fst) m i (Qk0 (m.take i))=_
   unfold Qcr
   have e:m.take (i+1)=m.take i++[m[i]]:=by rw [QhW,QG hi];rfl
   have ec:(Q0 m m[i].1).getD 0=m[i].2:=QiL ha.nd (Qby hi)
   rw [QI (by simp;omega),cond_true,Qae,Qak,QG hi,Qfu,Ql,ec]
   have hl:(Qk0 (m.take i)).length<=i:=QbM (Qwu _ _) (by simp;omega)
   cases hc:decide (0<m[i].2)with
   | true=>
    simp only [cond_true]
    rw [QkL (by simp;omega),Ql]
    unfold Qey
    rw [Qy hi h,e]
    unfold Qk0
    rw [List.filter_append,Qlk,if_pos hc];rfl
   | false=>
    simp only [cond_false]
    unfold Qey
    rw [Qy hi h,e]
    unfold Qk0
    rw [List.filter_append,Qlk,if_neg (by rw [hc];decide),List.filter_nil,List.append_nil])
  (fun s hs=>by
   subst hs
   refine⟨_,?_,rfl⟩
   show Qcr (m.map Prod.fst) m m.length (Qk0 (m.take m.length))=_
   unfold Qcr
   rw [QP (by simp),Qi2];rfl) (0,[]) rfl
 rw [h1,h2];rfl
theorem QCt (m:List (Int×Int)):(Qk0 m).length<=m.length:=Qwu _ _
theorem Qp7 (a b:List (Int×Int))(h:a.length+b.length<=4294967296):(¬(Rt a/\Rt b)/\QhS a b=some ([],1))\/(Rt a/\Rt b/\(∃k,1048576<QK a k+QK b k)/\QhS a b=some ([],2))\/
  (Rt a/\Rt b/\∃r,QhS a b=some (r,0)/\Rt r/\(∀k,QK r k=QK a k+QK b k)/\r.length<=a.length+b.length):=by
 unfold QhS
 rw [Qvx a b (by unfold maxLen;omega) (by unfold maxLen;omega),Ql]
 cases ra:rtF (-1) a with
 | false=>exact .inl ⟨fun hh=>(by rw [Qdl.2 hh.1]at ra;cases ra),by cases rtF (-1) b<;>rfl⟩
 | true=>
  cases rb:rtF (-1) b with
  | false=>exact .inl ⟨fun hh=>(by rw [Qdl.2 hh.2]at rb;cases rb),rfl⟩
  | true=>
   have hra:=Qdl.1 ra
   have hrb:=Qdl.1 rb
   simp only [cond_true,Sum.elim_inr]
   unfold Qpi
   have hw:∀p∈b,QK a p.1+p.2=QK a p.1+QK b p.1:=fun p hp=>by rw [QiL hrb.1.nd hp]
   rcases QAD (g:=fun x v=>w64 (x+v)) (stop:=fun x=>decide (1048576<x)) (q:=some ()) (body:=fun st p=>Qhz st p.1 p.2) (fun s p=>by
     show Qhz s p.1 p.2=_
     unfold Qhz
     rw [Ql5,if_pos rfl]
     unfold QK
     simp only [Option.getD_some]
     cases decide (1048576<w64 ((Q0 s p.1).getD 0+p.2))<;>rfl) hra.1 hrb.1.nd with⟨⟨p,h1,h2⟩,h3⟩|⟨h1,s',h3,h4,h5,h6⟩
   ·refine .inr (.inl ⟨hra,hrb,⟨p.1,?_⟩,?_⟩)
    ·have:=hra.cnt p.1
     have:=hrb.cnt p.1
     have h2:=Qap h2
     rw [QiL hrb.1.nd h1]
     rw [QiL hrb.1.nd h1]at this
     rwa [Q7 (by omega)]at h2
    simp only [h3 () rfl];rfl
   have hk:∀k,QK s' k=QK a k+QK b k/\QK s' k<=1048576:=fun k=>by
    have ca:=hra.cnt k
    have cb:=hrb.cnt k
    have e:=h6 k
    unfold QwZ at e
    cases hm:Q0 b k with
    | none=>
     rw [hm]at e
     simp only at e
     have:QK b k=0:=by unfold QK;rw [hm];rfl
     have e2:QK s' k=QK a k:=by unfold QK;rw [e]
     omega
    | some v=>
     rw [hm]at e
     simp only at e
     have e1:QK b k=v:=by unfold QK;rw [hm];rfl
     have e2:QK s' k=w64 (QK a k+v):=by unfold QK;rw [e];rfl
     have h7:=h1 (k,v) ((QbL hrb.1.nd).1 hm)
     simp only [Qal]at h7
     rw [Q7 (by omega)]at e2 h7
     omega
   refine .inr (.inr ⟨hra,hrb,Qk0 s',?_,QDD h4 (fun k hk0=>⟨?_,(hk k).2⟩),fun k=>?_,QbM (QCt s') h5⟩)
   ·simp only [h3,Ql,Sum.elim_inl]
    unfold Qph
    rw [Qn4 s' h4 (by omega)];rfl
   ·have:=(hk k).1
    have ca:=hra.cnt k
    have cb:=hrb.cnt k
    by_cases c:0<QK a k
    ·exact hra.cnt_pos c
    exact hrb.cnt_pos (by omega)
   rw [QCp h4,(hk k).1]
   have ca:=hra.cnt k
   have cb:=hrb.cnt k
   split<;>omega
theorem Qwn (m m':List (Int×Int)):Qgf m m'=some (!(m.any fun p=>decide (QK m' p.1<p.2))):=by
 unfold Qgf
 rw [QAE (bad:=fun p=>decide (QK m' p.1<p.2)) (q:=()) (fun p=>by
  show Qdi m' p.1 p.2=_
  unfold Qdi QK
  cases decide ((Q0 m' p.1).getD 0<p.2)<;>rfl)]
 cases m.any fun p=>decide (QK m' p.1<p.2)<;>rfl
theorem Qxf {a b:List (Int×Int)}(ha:Rt a)(hb:Rt b):(a.any fun p=>decide (QK b p.1<p.2))=false↔∀k,QK a k<=QK b k:=by
 rw [<-QiY,Qma]
 simp only [QQ,not_exists,not_and]
 constructor
 ·intro h k
  have cb:=hb.cnt k
  cases e:Q0 a k with
  | none=>
   have:QK a k=0:=by unfold QK;rw [e];rfl
   omega
  | some v=>
   have h1:=h _ ((QbL ha.1.nd).1 e)
   have:QK a k=v:=by unfold QK;rw [e];rfl
   simp only at h1
   omega
 intro h p hp hlt
 have:=h p.1
 rw [QiL ha.1.nd hp]at this
 omega
theorem Qq3 (a b:List (Int×Int))(ha:a.length<=maxLen)(hb:b.length<=maxLen):∃r,QjX a b=some r/\(r=true↔Rt a/\Rt b/\∀k,QK a k<=QK b k):=by
 unfold QjX
 rw [Qvx a b ha hb,Ql]
 cases ra:rtF (-1) a with
 | false=>exact⟨false,by cases rtF (-1) b<;>rfl,by simp;intro hh;rw [Qdl.2 hh]at ra;cases ra⟩
 | true=>
  cases rb:rtF (-1) b with
  | false=>exact⟨false,rfl,by simp;intro _ hh;rw [Qdl.2 hh]at rb;cases rb⟩
  | true=>
   have hra:=Qdl.1 ra
   have hrb:=Qdl.1 rb
   refine⟨!(a.any fun p=>decide (QK b p.1<p.2)),?_,?_⟩
   ·simp only [cond_true,Sum.elim_inr]
    unfold QmA
    rw [Qwn];rfl
   rw [Qe4,Qxf hra hrb]
   exact⟨fun h=>⟨hra,hrb,h⟩,fun h=>h.2.2⟩
theorem QsW (t:Int):QsK [t]=some (bif decide (0<=t)then [(t,1)]else []):=by
 unfold QsK
 rw [QaU]
 show((QfI [t] 0 []).bind _).bind _=_
 unfold QfI
 rw [QI (by simp),cond_true,show idx [t] 0=some t from rfl,Ql]
 unfold Qnr
 rw [show w64 (0+1)=1 from by decide]
 cases h:decide (0<=t)with
 | false=>
  simp only [cond_false,Ql,Sum.elim_inl]
  rw [QaU]
  show((QfI [t] 1 []).bind _).bind _=_
  unfold QfI
  rw [QP (by simp)]
  simp only [cond_false,Ql,Sum.elim_inr]
  unfold Qns
  rw [Qn4 [] List.Pairwise.nil (by simp)];rfl
 | true=>
  simp only [cond_true,Ql,Sum.elim_inl]
  rw [QaU]
  show((QfI [t] 1 [(t,min2 (w64 (0+1)) 1048576)]).bind _).bind _=_
  unfold QfI
  rw [QP (by simp)]
  simp only [cond_false,Ql,Sum.elim_inr]
  unfold Qns
  rw [Qn4 _ (List.pairwise_singleton _ _) (by simp [maxLen]),show min2 (w64 (0+1)) 1048576=1 from by decide];rfl
end Go.Proofs
noncomputable section
namespace Go.Proofs
open Go Go.RowKit Go.Vm
theorem QzU : ∀(n:Nat) (e:Qh) (d:Int),QcG e->SizeOf.sizeOf e<=n->Qg (Qfi n e d) fun _=>True
 | 0,e,_,_,h=>absurd e.pos (by omega)
 | n+1,e,d,he,h=>by
  unfold Qfi QnY
  refine T1 (fun _=>T3) fun _=>?_
  refine T0 (Qg.up e.Kids.length (fun st=>st.2) (fun _=>True) (Q:=fun _=>True) rfl trivial (fun i st hi hn _=>?_)) (fun q _=>?_)
  ·obtain⟨a,x⟩:=st
   replace hi:x=(i:Int):=hi
   show Qg (Qkp e (Qfi n) d a x) _
   unfold Qkp
   refine T1 (fun hc=>?_) (fun hc=>T2 (Qt trivial))
   simp only [QQ]at hc
   refine T0 (T4 (by omega) (by omega)) fun k hk=>?_
   have:=QnQ hk
   refine T0 (QzU n k _ ((QcR he).2 k hk) (by omega)) fun y _=>?_
   refine T1 (fun _=>T2 (Qt trivial)) fun _=>T1 (fun _=>T2 (Qt trivial)) fun _=>?_
   exact T2 (QN ⟨by omega,by subst hi;exact Qy (by omega) (QcR he).1,trivial⟩)
  rcases q with q | q
  ·exact T3
  exact T3
theorem QxZ (e:Qh)(he:QcG e):Qg (QiJ e) fun _=>True:=by
 unfold QiJ Qri
 exact T0 (QzU _ e 60 he (Qb2 _)) fun _ _=>T3
theorem QCZ (n1:Qn)(h:QX n1)(q0:Int):Qg (Qji n1 q0) fun r=>r=true->q0<=400:=by
 unfold Qji
 refine T0 (Qg.up n1.Tasks.length (fun st=>st.2) (fun _=>True) (Q:=fun _=>True) rfl trivial (fun i st hi hn _=>?_)) (fun q _=>?_)
 ·obtain⟨a,x⟩:=st
  replace hi:x=(i:Int):=hi
  show Qg (Qjh n1 a x) _
  unfold Qjh
  refine T1 (fun hc=>?_) (fun _=>T2 (Qt trivial))
  simp only [QQ]at hc
  refine T0 (T4 (by omega) (by omega)) fun e he=>?_
  have ke:=h.2.2.1.2 e he
  refine T1 (fun _=>T2 (Qt trivial)) fun _=>?_
  refine T0 (Qg.up e.Vars.length (fun st=>st) (fun _=>True) (Q:=fun _=>True) rfl trivial (fun i2 st hi2 hn2 _=>?_)) (fun q _=>?_)
  ·show Qg (Qjb e st) _
   unfold Qjb
   refine T1 (fun hc=>?_) (fun _=>T2 (Qt trivial))
   simp only [QQ]at hc
   refine T0 (T4 (by omega) (by omega)) fun s _=>?_
   exact T1 (fun _=>T2 (Qt trivial)) fun _=>T2 (QN ⟨by omega,by rw [hi2];exact Qy (by omega) ke.2.1.1,trivial⟩)
  rcases q with q | q
  ·exact T2 (Qt trivial)
  show Qg (Qjg e a x) _
  unfold Qjg
  refine T0 (QxZ e.Guard ke.2.2.1) fun g _=>?_
  refine T0 (Qg.up e.Ins.length (fun st=>st.2) (fun _=>True) (Q:=fun _=>True) rfl trivial (fun i2 st hi2 hn2 _=>?_)) (fun q _=>?_)
  ·obtain⟨b,y⟩:=st
   replace hi2:y=(i2:Int):=hi2
   show Qg (Qjc e b y) _
   unfold Qjc
   refine T1 (fun hc=>?_) (fun _=>T2 (Qt trivial))
   simp only [QQ]at hc
   refine T0 (T4 (by omega) (by omega)) fun s hs=>?_
   refine T0 (QxZ s.Expr (ke.2.2.2.2.2.1.2 s hs).2) fun g _=>?_
   exact T2 (QN ⟨by omega,by subst hi2;exact Qy (by omega) ke.2.2.2.2.2.1.1,trivial⟩)
  show Qg (Qjf e a x q) _
  unfold Qjf
  refine T0 (Qg.up e.Outs.length (fun st=>st.2) (fun _=>True) (Q:=fun _=>True) rfl trivial (fun i2 st hi2 hn2 _=>?_)) (fun q _=>?_)
  ·obtain⟨b,y⟩:=st
   replace hi2:y=(i2:Int):=hi2
   show Qg (Qjd e b y) _
   unfold Qjd
   refine T1 (fun hc=>?_) (fun _=>T2 (Qt trivial))
   simp only [QQ]at hc
   refine T0 (T4 (by omega) (by omega)) fun s hs=>?_
   refine T0 (QxZ s.Expr (ke.2.2.2.2.2.2.1.2 s hs).2) fun g _=>?_
   exact T2 (QN ⟨by omega,by subst hi2;exact Qy (by omega) ke.2.2.2.2.2.2.1.1,trivial⟩)
  show Qg (Qje a e x q) _
  unfold Qje
  exact T1 (fun _=>T2 (Qt trivial)) fun _=>T2 (QN ⟨by omega,by subst hi;exact Qy (by omega) h.2.2.1.1,trivial⟩)
 rcases q with q | q
 ·exact T2 fun h=>by cases h
 exact T2 fun h=>by simpa using h
theorem QC0 (n1:Qn)(h:QX n1):Qg (Qle n1) fun r=>r=true->n1.Colours.length<=40/\n1.Places.length<=70/\n1.Tasks.length<=70:=by
 unfold Qle
 refine T1 (fun _=>T2 fun h=>by cases h) fun hc=>?_
 simp only [QcV,Qal]at hc
 refine T6 (P:=fun _=>True) ?_ fun _ _ _=>by omega
 refine T0 (Qg.up n1.Colours.length (fun st=>st.2) (fun _=>True) (Q:=fun _=>True) rfl trivial (fun i st hi hn _=>?_)) (fun q _=>?_)
 ·obtain⟨a,x⟩:=st
  replace hi:x=(i:Int):=hi
  show Qg (Qks n1 a x) _
  unfold Qks
  refine T1 (fun hc=>?_) (fun _=>T2 (Qt trivial))
  simp only [QQ]at hc
  refine T0 (T4 (by omega) (by omega)).self fun e he=>?_
  obtain⟨he,hm⟩:=he
  refine T0 (P:=fun _=>True) ?_ fun y _=>?_
  ·unfold QrB
   rw [he,Ql]
   exact T1 (fun _=>T3) fun _=>T3
  unfold Qkr
  refine T1 (fun _=>T2 (Qt trivial)) fun _=>?_
  refine T0 (Qg.up e.Names.length (fun st=>st) (fun _=>True) (Q:=fun _=>True) rfl trivial (fun i2 st hi2 hn2 _=>?_)) (fun q _=>?_)
  ·show Qg (Qkq n1 x st) _
   unfold Qkq
   simp only [he,Ql]
   refine T1 (fun hc=>?_) (fun _=>T2 (Qt trivial))
   simp only [QQ]at hc
   refine T0 (T4 (by omega) (by omega)) fun s _=>?_
   refine T1 (fun _=>T2 (Qt trivial)) fun _=>?_
   exact T2 (QN ⟨by omega,by rw [hi2];exact Qy (by omega) (h.1.2 e hm).2.2.2.2.1.1,trivial⟩)
  rcases q with q | q
  ·exact T2 (Qt trivial)
  exact T2 (QN ⟨by omega,by subst hi;exact Qy (by omega) h.1.1,trivial⟩)
 rcases q with q | q
 ·exact T3
 show Qg (Qjj n1 q) _
 unfold Qjj
 refine T0 (Qg.up n1.Places.length (fun st=>st.2) (fun _=>True) (Q:=fun _=>True) rfl trivial (fun i st hi hn _=>?_)) (fun q _=>?_)
 ·obtain⟨a,x⟩:=st
  replace hi:x=(i:Int):=hi
  show Qg (Qkt n1 a x) _
  unfold Qkt
  refine T1 (fun hc=>?_) (fun _=>T2 (Qt trivial))
  simp only [QQ]at hc
  refine T0 (T4 (by omega) (by omega)) fun e _=>?_
  refine T0 (T4 (by omega) (by omega)) fun e2 _=>?_
  exact T1 (fun _=>T2 (Qt trivial)) fun _=>T2 (QN ⟨by omega,by subst hi;exact Qy (by omega) h.2.1.1,trivial⟩)
 rcases q with q | q
 ·exact T3
 exact(QCZ n1 h q).mono fun _ _=>trivial
theorem QC1 (m:List (List (Int×Int)))(h:m.length<=maxLen):Qg (Qnt m) fun _=>True:=by
 unfold Qnt
 refine T0 (Qg.up m.length (fun st=>st.2) (fun _=>True) (Q:=fun _=>True) rfl trivial (fun i st hi hn _=>?_)) (fun q _=>T3)
 obtain⟨a,x⟩:=st
 replace hi:x=(i:Int):=hi
 show Qg (Qku m a x) _
 unfold Qku
 refine T1 (fun hc=>?_) (fun _=>T2 (Qt trivial))
 simp only [QB,QQ]at hc
 refine T0 (T4 (by omega) (by omega)) fun e _=>?_
 exact T2 (QN ⟨by omega,by subst hi;exact Qy (by omega) h,trivial⟩)
theorem QC2 {l:List (Int×Int)}(h:Asc l):∀{a:Int},(∀p∈l,a<=p.1)->∀(i:Nat) (hi:i<l.length),a+i<=(l[i]).1:=by
 induction l with
 | nil=>intro a _ i hi;simp at hi
 | cons p l ih=>
  intro a ha i hi
  obtain⟨h1,h2⟩:=Qf9.1 h
  cases i with
  | zero=>have:=ha p Qbz;simpa using this
  | succ i=>
   have h3:=ih h2 (a:=a+1) (fun q hq=>by have:=h1 q hq;have:=ha p Qbz;omega) i (by simpa using hi)
   simp only [List.getElem_cons_succ]
   omega
theorem QCu {l:List (Int×Int)}(h:Asc l)(h0:0<l.length){k:Int}(hk:0<QK l k):k<=(l[l.length-1]).1:=by
 unfold QK at hk
 cases e:Q0 l k with
 | none=>rw [e]at hk;simp at hk
 | some v=>
  obtain⟨j,hj,hjk⟩:=Qr9.1 ((QbL h.nd).1 e)
  by_cases c:j=l.length-1
  ·subst c;rw [hjk];exact Int.le_refl _
  have:=List.pairwise_iff_getElem.1 h j (l.length-1) hj (by omega) (by omega)
  rw [hjk]at this
  simp only at this
  omega
def MOk (n:Qn)(c:Nat)(m:List (List (Int×Int))):Prop:=m.length=n.Places.length/\∀b∈m,Rt b/\b.length<=c
theorem MOk.mono {n:Qn}{c c':Nat}{m:List (List (Int×Int))}(h:MOk n c m)(hc:c<=c'):MOk n c' m:=⟨h.1,fun b hb=>⟨(h.2 b hb).1,QbM (h.2 b hb).2 hc⟩⟩
def Low (n:Qn)(m:List (List (Int×Int))):Prop:=∀(j:Nat) b p,m[j]? = some b->n.Places[j]? = some p->∀k,0<QK b k->∃z,QaJ n.Colours p.Colour=some z/\k<z
theorem Qzi (n1:Qn)(m:List (List (Int×Int)))(h:QX n1)(hm:QH (QH fun _=>True) m):Qg (QmF n1 m) fun r=>r=true->MOk n1 1024 m/\Low n1 m:=by
 unfold QmF
 refine T1 (fun _=>T2 fun h=>by cases h) fun hc=>?_
 have hl:m.length=n1.Places.length:=by simp only [bne_eq_false_iff_eq]at hc;omega
 refine T0 (Qg.up m.length (fun st=>st) (fun st=>∀(j:Nat) (hj:j<m.length),(j:Int)<st->(Rt m[j]/\(m[j]).length<=1024)/\∀p,n1.Places[j]? = some p->∀k,0<QK m[j] k->∃z,QaJ n1.Colours p.Colour=some z/\k<z) (Q:=fun q=>q=.inr ()->(∀b∈m,Rt b/\b.length<=1024)/\Low n1 m) rfl (fun j _ hj=>by omega) (fun i st hi hn hJ=>?_)) (fun q hq=>?_)
 ·show Qg (Qjw m n1 st) _
  unfold Qjw
  refine T1 (fun hc=>?_) (fun hc=>T2 (Qt fun _=>⟨fun b hb=>by
   obtain⟨j,hj,rfl⟩:=Qr9.1 hb
   simp only [Qal]at hc
   exact(hJ j hj (by omega)).1,fun j b p hb hp=>by
   obtain⟨hj,rfl⟩:=QT.1 hb
   simp only [Qal]at hc
   exact(hJ j hj (by omega)).2 p hp⟩))
  simp only [QQ]at hc
  have hlt:i<m.length:=by omega
  have hlp:i<n1.Places.length:=by omega
  rw [hi,Qae,QG hlt,Ql,Qae,QG hlp,Ql]
  refine T0 (Qff n1.Colours (n1.Places[i]).Colour h.1).self fun sz hsz=>?_
  obtain⟨hze,hsz⟩:=hsz
  have hb:=hm.2 _ (Qby hlt)
  have hbl:=hb.1
  refine T0 (P:=fun r=>r=false->(Rt m[i]/\(m[i]).length<=1024)/\∀k,0<QK m[i] k->k<sz) ?_ fun x hx=>?_
  ·unfold QqK
   rw [Qux _ hb.1,Ql]
   refine T1 (fun _=>T2 fun h=>by cases h) fun hr=>?_
   have hrt:=Qdl.1 (by simpa using hr:rtF (-1) m[i]=true)
   refine T1 (fun h0=>?_) (fun h0=>T2 fun _=>⟨⟨hrt,by simp only [Qal]at h0;omega⟩,fun k hk=>by
    simp only [Qal]at h0
    rw [show m[i]=[]from Qmb.1 (by omega)]at hk
    simp [QK,Q0]at hk⟩)
   simp only [QQ]at h0
   unfold maxLen at hbl
   rw [Q7 (by omega),show((m[i]).length:Int)-1=(((m[i]).length-1:Nat):Int) by omega,Qae,QG (by omega),Ql]
   refine T2 fun hf=>?_
   simp only [Qal]at hf
   have:=QC2 hrt.1 (a:=0) (fun p hp=>(hrt.2 p hp).1) ((m[i]).length-1) (by omega)
   refine⟨⟨hrt,by omega⟩,fun k hk=>?_⟩
   have:=QCu hrt.1 (by omega) hk
   omega
  unfold Qjv
  refine T1 (fun _=>T2 (Qt fun h=>by cases h)) fun hxf=>?_
  refine T2 (QN ⟨hlt,Qy hlt hm.1,fun j hj hjs=>?_⟩)
  rw [Qy hlt hm.1]at hjs
  by_cases c:j=i
  ·subst c
   refine⟨(hx hxf).1,fun p hp k hk=>⟨sz,?_,(hx hxf).2 k hk⟩⟩
   rw [QG hlp]at hp
   cases hp
   exact hze
  exact hJ j hj (by omega)
 rcases q with q | q
 ·exact T2 fun h=>by cases h
 exact T2 fun _=>⟨⟨hl,(hq rfl).1⟩,(hq rfl).2⟩
structure QaT (n:Qn):Prop where
 k:QX n
 pl:n.Places.length<=70
 tl:n.Tasks.length<=12
 tk:∀t∈n.Tasks,t.Vars.length<=16/\t.Ins.length<=16/\t.Outs.length<=16/\t.Cancel.length<=16
theorem QBv (n1:Qn)(k2:Int)(h:Qce n1 k2=some 0):∃t,idx n1.Tasks k2=some t/\t.Vars.length<=16/\t.Ins.length<=16/\t.Outs.length<=16/\t.Cancel.length<=16:=by
 unfold Qce at h
 obtain⟨x5,_,h⟩:=Qb h
 rcases Qm h with⟨_,h⟩|⟨_,h⟩
 ·cases h
 obtain⟨x7,_,h⟩:=Qb h
 rcases Qm h with⟨c,h⟩|⟨_,h⟩
 ·simp only [Option.some.injEq]at h;rw [h]at c;cases c
 obtain⟨e9,he9,h⟩:=Qb h
 obtain⟨e10,he10,h⟩:=Qb h
 rw [he9]at he10;cases he10
 obtain⟨_,_,h⟩:=Qb h
 obtain⟨_,_,h⟩:=Qb h
 obtain⟨_,_,h⟩:=Qb h
 obtain⟨_,_,h⟩:=Qb h
 obtain⟨x15,hx,h⟩:=Qb h
 have bad:∀a b:Int,0<a->x15=(a,b)->False:=fun a b ha e=>by
  subst e
  simp only at h
  rcases Qm h with⟨c,h⟩|⟨_,h⟩
  ·simp only [beq_iff_eq]at c;omega
  simp only [Option.some.injEq]at h;omega
 unfold QeG at hx
 obtain⟨x20,_,hx⟩:=Qb hx
 rcases Qm hx with⟨_,hx⟩|⟨_,hx⟩
 ·exact(bad _ _ (by decide) (Option.some.inj hx).symm).elim
 obtain⟨x22,_,hx⟩:=Qb hx
 rcases Qm hx with⟨_,hx⟩|⟨_,hx⟩
 ·exact(bad _ _ (by decide) (Option.some.inj hx).symm).elim
 obtain⟨x24,h24,hx⟩:=Qb hx
 rcases Qm hx with⟨_,hx⟩|⟨c,hx⟩
 ·exact(bad _ _ (by decide) (Option.some.inj hx).symm).elim
 unfold QhC at h24
 simp only [Option.some.injEq]at h24
 rw [<-h24]at c
 simp only [QiX,QB,QQ,QkP]at c
 exact⟨e9,he9,by omega,by omega,by omega,by omega⟩
theorem Qvy (l1:List QF)(n1:Qn)(h:QX n1)(hl:QH QaO l1):Qg (QcF l1 n1) fun r=>r.2=0->∀(j:Nat),j<l1.length->Qce n1 j=some 0:=by
 unfold QcF
 refine T0 (Qg.up l1.length (fun st=>st) (fun st=>∀(j:Nat),(j:Int)<st->Qce n1 j=some 0) (Q:=fun q=>(∀a b,q=.inl (a,b)->b≠0)/\(q=.inr ()->∀(j:Nat),j<l1.length->Qce n1 j=some 0)) rfl (fun j hj=>by omega) (fun i st hi hn hJ=>?_)) (fun q hq=>?_)
 ·show Qg (QbU l1 n1 st) _
  unfold QbU
  refine T1 (fun hc=>?_) (fun hc=>T2 (Qt ⟨fun a b h=>(by cases h),fun _ j hj=>by
   simp only [Qal]at hc
   exact hJ j (by omega)⟩))
  simp only [QQ]at hc
  refine T0 (T4 (by omega) (by omega)) fun e he=>?_
  refine T0 (P:=fun x=>Qce n1 st=some x) ?_ fun x hx=>?_
  ·unfold QiA
   exact T0 (Qr0 n1 st h).self fun x hx=>T2 hx.1
  refine T1 (fun hc=>T2 (Qt ⟨fun a b h=>(by cases h;simpa using hc),fun h=>(by cases h)⟩)) fun hc=>?_
  simp only [bne_eq_false_iff_eq]at hc
  refine T2 (QN ⟨by omega,by rw [hi];exact Qy (by omega) hl.1,fun j hj=>?_⟩)
  rw [hi,Qy (show i<l1.length by omega) hl.1]at hj
  by_cases c:j=i
  ·subst c;rw [<-hi,hx,hc]
  exact hJ j (by omega)
 rcases q with q | q
 ·exact T2 fun h=>absurd h (hq.1 q.1 q.2 rfl)
 exact T2 fun _=>hq.2 rfl
theorem QBw (n1:Qn)(h:QX n1){p:Qe6}(hn:QfK n1=some (0,p)):∀t∈n1.Tasks,t.Vars.length<=16/\t.Ins.length<=16/\t.Outs.length<=16/\t.Cancel.length<=16:=by
 unfold QfK at hn
 obtain⟨x6,_,hn⟩:=Qb hn
 rcases Qm hn with⟨c,hn⟩|⟨_,hn⟩
 ·simp only [Option.some.injEq,Prod.mk.injEq]at hn;rw [hn.1]at c;cases c
 obtain⟨x8,_,hn⟩:=Qb hn
 rcases Qm hn with⟨c,hn⟩|⟨_,hn⟩
 ·simp only [Option.some.injEq,Prod.mk.injEq]at hn;rw [hn.1]at c;cases c
 obtain⟨x10,_,hn⟩:=Qb hn
 rcases Qm hn with⟨c,hn⟩|⟨_,hn⟩
 ·simp only [Option.some.injEq,Prod.mk.injEq]at hn;rw [hn.1]at c;cases c
 obtain⟨x12,h12,hn⟩:=Qb hn
 rcases Qm hn with⟨c,hn⟩|⟨c,hn⟩
 ·simp only [Option.some.injEq,Prod.mk.injEq]at hn;rw [hn.1]at c;cases c
 simp only [bne_eq_false_iff_eq]at c
 obtain⟨r,hr,hr2⟩:=Qvy n1.Tasks n1 h h.2.2.1
 rw [h12]at hr;cases hr
 intro t ht
 obtain⟨j,hj,rfl⟩:=Qr9.1 ht
 obtain⟨t,h1,h2⟩:=QBv n1 j (hr2 c j hj)
 rw [Qae,QG hj]at h1
 cases h1
 exact h2
theorem QDE (n1:Qn)(m:List (List (Int×Int)))(h:QX n1)(hm:QH (QH fun _=>True) m):Qg (QhE n1 m) fun r=>r=true->QaT n1/\MOk n1 1024 m/\Low n1 m:=by
 unfold QhE
 refine T0 (QC0 n1 h) fun x5 h5=>?_
 refine T0 (QC1 m hm.1) fun x6 _=>?_
 refine T1 (fun _=>T2 fun h=>by cases h) fun hc=>?_
 simp only [QcV,QiX,Qal]at hc
 have h5:=h5 hc.1
 refine T0 (QyD n1 h).self fun x11 h11=>?_
 refine T0 (P:=fun r=>r=false->QaT n1/\MOk n1 1024 m/\Low n1 m) ?_ fun x12 h12=>?_
 ·unfold QmG
  refine T1 (fun _=>T2 fun h=>by cases h) fun hc1=>?_
  simp only [bne_eq_false_iff_eq]at hc1
  refine T0 (Qzi n1 m h hm) fun r hr=>T2 fun hrf=>⟨⟨h,h5.2.1,by omega,?_⟩,hr (by simpa using hrf)⟩
  obtain⟨a,b⟩:=x11
  simp only at hc1
  subst hc1
  exact QBw n1 h h11.1
 unfold QgN
 refine T1 (fun _=>T2 fun h=>by cases h) fun hx=>?_
 have hfin:=h12 hx
 refine T6 (P:=fun _=>True) ?_ fun _ _ _=>hfin
 refine T0 (Qg.up n1.Tasks.length (fun st=>st.2) (fun _=>True) (Q:=fun _=>True) rfl trivial (fun i st hi hn _=>?_)) (fun q _=>T3)
 obtain⟨a,x⟩:=st
 replace hi:x=(i:Int):=hi
 show Qg (Qjx n1 a x) _
 unfold Qjx
 refine T1 (fun hc=>?_) (fun _=>T2 (Qt trivial))
 simp only [QQ]at hc
 refine T0 (T4 (by omega) (by omega)) fun e _=>?_
 refine T0 (Qq1 n1 x h) fun y _=>?_
 exact T2 (QN ⟨by omega,by subst hi;exact Qy (by omega) h.2.2.1.1,trivial⟩)
end Go.Proofs
noncomputable section
namespace Go.Proofs
open Go Go.RowKit Go.Vm
theorem Qyi (s:QaA)(m:Int)(h:0<=s.k/\s.k<s.sizes.length):Qg (Qb5 s m) fun r=>r=true->0<=m:=by
 unfold Qb5
 refine T0 (P:=fun r=>r=true->0<=m) ?_ fun x hx=>T2 hx
 unfold Qex
 refine T1 (fun hc=>?_) fun _=>T2 fun h=>by cases h
 exact T0 (T4 h.1 h.2) fun _ _=>T2 fun _=>by simpa using hc
theorem QhM (s:QaA)(h:0<=s.k/\s.k<s.all.length):Qg (QbJ s) fun _=>True:=by
 unfold QbJ
 exact T0 (T4 h.1 h.2) fun _ _=>T3
theorem QCv (l:List QD)(k m:Int)(hl:QH Qa5 l):Qg (Qdd l k m) fun _=>True:=by
 unfold Qdd
 refine T0 (QiF l k hl) fun x hx=>?_
 refine T0 (P:=fun r=>r=false->x.1=true) ?_ fun r hr=>?_
 ·unfold QgE
  refine T1 (fun _=>T2 fun h=>by cases h) fun hc=>?_
  have hc:x.1=true:=by simpa using hc
  have h:=hx.2 hc
  exact T0 (Qyi x.2 m (by omega)) fun _ _=>T2 fun _=>hc
 unfold QdC
 refine T1 (fun _=>T3) fun hc=>?_
 have h:=hx.2 (hr hc)
 refine T0 (QhM x.2 (by omega)) fun _ _=>?_
 refine T1 (fun _=>?_) fun _=>T3
 exact T0 (QhM x.2 (by omega)) fun _ _=>T3
theorem Qzj (l:List QD)(k n:Int)(hl:QH Qa5 l):Qg (Qde l k n) fun r=>r.2=true->0<=r.1:=by
 unfold Qde
 refine T0 (QiF l k hl) fun x hx=>?_
 refine T1 (fun _=>T2 fun h=>by cases h) fun hc=>?_
 have h:=hx.2 (by simpa using hc)
 have k1:∀m,Qg (QbZ x m) fun r=>r.2=true->0<=r.1:=fun m=>by
  unfold QbZ
  refine T0 (Qyi x.2 m (by omega)) fun y hy=>?_
  exact T1 (fun _=>T2 fun h=>by cases h) fun hc=>T2 fun _=>hy (by simpa using hc)
 refine T0 (QhM x.2 (by omega)) fun _ _=>?_
 refine T1 (fun _=>?_) fun _=>k1 _
 exact T1 (fun _=>T2 fun h=>by cases h) fun _=>k1 _
theorem QBx (l:List QD)(k n:Int)(hl:QH Qa5 l):Qg (Qde l k n) fun r=>r.2=true->∃z,QaJ l k=some z/\r.1<z:=by
 unfold Qde QaJ
 refine T0 (QiF l k hl).self fun x hx=>?_
 obtain⟨hxe,hx⟩:=hx
 refine T1 (fun _=>T2 fun h=>by cases h) fun hc=>?_
 have h:=hx.2 (by simpa using hc)
 have hk:k.toNat<x.2.sizes.length:=by omega
 have ei:idx x.2.sizes k=some x.2.sizes[k.toNat]:=QmM h.1.1 h.1.2
 have k1:∀m,Qg (QbZ x m) fun r=>r.2=true->∃z,((Qdg l k).bind fun x5=>bif (!x5.1)then some 0 else(idx x5.2.sizes k).bind fun e7=>some e7)=some z/\r.1<z:=fun m=>by
  unfold QbZ
  refine T0 (P:=fun y=>y=true->m<x.2.sizes[k.toNat]) ?_ fun y hy=>?_
  ·unfold Qb5
   refine T0 (P:=fun y=>y=true->m<x.2.sizes[k.toNat]) ?_ fun y hy=>T2 hy
   unfold Qex
   refine T1 (fun _=>?_) fun _=>T2 fun h=>by cases h
   rw [h.2.1,ei,Ql]
   exact T2 fun h=>by simpa using h
  refine T1 (fun _=>T2 fun h=>by cases h) fun hc2=>T2 fun _=>⟨x.2.sizes[k.toNat],?_,hy (by simpa using hc2)⟩
  rw [hxe,Ql,hc,cond_false,ei];rfl
 refine T0 (QhM x.2 (by omega)) fun _ _=>?_
 refine T1 (fun _=>?_) fun _=>k1 _
 exact T1 (fun _=>T2 fun h=>by cases h) fun _=>k1 _
theorem Qr1 {α:Type}{o:Option α}{P:α->Prop}(h:Qg o P){r:α}(e:o=some r):P r:=by
 obtain⟨r',h1,h2⟩:=h
 rw [e]at h1;cases h1;exact h2
theorem Qzk : ∀(n:Nat) (v:List Int) (e:Qh),POk v.length e->SizeOf.sizeOf e<=n->Qg (Q9 n v e) fun _=>True
 | 0,_,e,_,h=>absurd e.pos (by omega)
 | n+1,v,e,he,h=>by
  cases he with
  | mk _ hk h2 h3 h5 h6 hr=>
  unfold Q9 Qfp
  have sub:∀(j:Nat) (hj:j<e.Kids.length),Qg (Q9 n v (e.Kids[j])) fun _=>True:=fun j hj=>
   Qzk n v _ (hr _ (Qby hj)) (by have:=QnQ (Qby hj);omega)
  have kid:∀(j:Nat) (hj:j<e.Kids.length),idx e.Kids (j:Int)=some e.Kids[j]:=fun j hj=>by rw [Qae,QG hj]
  rcases hk with hk | hk | hk | hk | hk | hk
  ·refine T0 (P:=fun x=>x=.inl v) (by unfold Qcz;rw [hk];exact T2 rfl) fun x hx=>?_
   subst hx
   exact T3
  ·refine T0 (P:=fun x=>x=.inr (.inl v)) (by unfold Qcz;rw [hk];exact T2 rfl) fun x hx=>?_
   subst hx
   show Qg (QdD e v) _
   unfold QdD Qge
   have:=h2 hk
   exact T0 (T0 (T4 (by omega) (by omega)) fun _ _=>T3) fun _ _=>T3
  ·refine T0 (P:=fun x=>x=.inr (.inr (.inl v))) (by unfold Qcz QbX;rw [hk];exact T2 rfl) fun x hx=>?_
   subst hx
   show Qg (QbY (Q9 n) e v) _
   unfold QbY Qfo
   have hl:=h3 (.inl hk)
   refine T0 (P:=fun _=>True) ?_ fun _ _=>T3
   rw [show idx e.Kids 0=some (e.Kids[0]'(by omega))from kid 0 (by omega),Ql]
   refine T0 (sub 0 (by omega)) fun x _=>?_
   refine T1 (fun _=>T3) fun _=>T1 (fun _=>T0 (Quw _) fun _ _=>T3) fun _=>T0 (Qg5 _ _ _) fun _ _=>T3
  ·refine T0 (P:=fun x=>x=.inr (.inr (.inl v))) (by unfold Qcz QbX;rw [hk];exact T2 rfl) fun x hx=>?_
   subst hx
   show Qg (QbY (Q9 n) e v) _
   unfold QbY Qfo
   have hl:=h3 (.inr hk)
   refine T0 (P:=fun _=>True) ?_ fun _ _=>T3
   rw [show idx e.Kids 0=some (e.Kids[0]'(by omega))from kid 0 (by omega),Ql]
   refine T0 (sub 0 (by omega)) fun x _=>?_
   refine T1 (fun _=>T3) fun _=>T1 (fun _=>T0 (Quw _) fun _ _=>T3) fun _=>T0 (Qg5 _ _ _) fun _ _=>T3
  ·refine T0 (P:=fun x=>x=.inr (.inr (.inr (.inl v)))) (by unfold Qcz QbX;rw [hk];exact T2 rfl) fun x hx=>?_
   subst hx
   show Qg (QdE (Q9 n) e v) _
   unfold QdE Qkl
   have hl:=h5 hk
   refine T0 (P:=fun _=>True) ?_ fun _ _=>T3
   rw [show idx e.Kids 0=some (e.Kids[0]'(by omega))from kid 0 (by omega),Ql]
   refine T0 (sub 0 (by omega)) fun x _=>?_
   have k1:∀b,Qg (Qc7 x e (Q9 n) v b) fun _=>True:=fun b=>by
    unfold Qc7
    refine T1 (fun _=>T0 (Qg5 _ _ _) fun _ _=>T3) fun _=>?_
    rw [show idx e.Kids 1=some (e.Kids[1]'(by omega))from kid 1 (by omega),Ql]
    refine T0 (sub 1 (by omega)) fun y _=>?_
    exact T1 (fun _=>T3) fun _=>T0 (Qg5 _ _ _) fun _ _=>T3
   exact T1 (fun _=>T3) fun _=>T1 (fun _=>k1 _) fun _=>T1 (fun _=>k1 _) fun _=>k1 _
  refine T0 (P:=fun x=>x=.inr (.inr (.inr (.inr v)))) (by unfold Qcz QbX;rw [hk];exact T2 rfl) fun x hx=>?_
  subst hx
  show Qg (QdF (Q9 n) e v) _
  unfold QdF Qhe
  have hl:=h6 hk
  refine T0 (P:=fun _=>True) ?_ fun _ _=>T3
  rw [show idx e.Kids 0=some (e.Kids[0]'(by omega))from kid 0 (by omega),Ql]
  refine T0 (sub 0 (by omega)) fun x _=>?_
  refine T1 (fun _=>T3) fun _=>T1 (fun _=>?_) fun _=>?_
  ·rw [show idx e.Kids 1=some (e.Kids[1]'(by omega))from kid 1 (by omega),Ql]
   exact T0 (sub 1 (by omega)) fun y _=>T3
  rw [show idx e.Kids 2=some (e.Kids[2]'(by omega))from kid 2 (by omega),Ql]
  exact T0 (sub 2 (by omega)) fun y _=>T3
theorem QBy (e:Qh)(v:List Int)(h:QcG e):Qg (Qg1 e v) fun _=>True:=by
 unfold Qg1
 refine T0 (QkQ e v.length h) fun x hx=>?_
 refine T1 (fun _=>T3) fun hc=>?_
 unfold Qi6
 exact T0 (Qzk _ v e (hx (by simpa using hc)) (Qb2 _)) fun _ _=>T3
theorem QEa (n:Qn)(task:Int)(vars:List Int)(h:QaT n):Qg (QdW n task vars) fun r=>r.2=0->0<=task/\task<n.Tasks.length:=by
 unfold QdW
 refine T1 (fun _=>T2 fun h=>by cases h) fun hc=>?_
 simp only [QcV,Qal]at hc
 refine T0 (T4 (by omega) (by omega)) fun e he=>?_
 have hv:=(h.tk e he).1
 have ke:=h.k.2.2.1.2 e he
 refine T1 (fun _=>T2 fun h=>by cases h) fun hl=>?_
 simp only [bne_eq_false_iff_eq]at hl
 refine T0 (T5 (by simp only [QB,QQ];omega)) fun _ _=>?_
 refine T6 (P:=fun _=>True) ?_ fun _ _ _=>by omega
 refine T0 (Qg.up e.Vars.length (fun st=>st.1) (fun st=>st.2.length=e.Vars.length) (Q:=fun _=>True) rfl (by simp) (fun i st hi hn hJ=>?_)) (fun q _=>?_)
 ·obtain⟨x,l⟩:=st
  replace hi:x=(i:Int):=hi
  replace hJ:l.length=e.Vars.length:=hJ
  show Qg (QcT e vars n x l) _
  unfold QcT
  refine T1 (fun hc=>?_) (fun _=>T2 (Qt trivial))
  simp only [QQ]at hc
  refine T0 (T4 (by omega) (by omega)) fun a _=>?_
  refine T0 (T4 (by omega) (by omega)) fun b _=>?_
  refine T0 (QCv _ _ _ h.k.1) fun c _=>?_
  refine T1 (fun _=>T2 (Qt trivial)) fun _=>?_
  refine T0 (T4 (by omega) (by omega)) fun d _=>?_
  exact T2 (QN ⟨by omega,by subst hi;exact Qy (by omega) (by unfold maxLen;omega:e.Vars.length<=maxLen),by simpa using hJ⟩)
 rcases q with q | q
 ·exact T3
 exact T3
theorem Qx0 {α:Type}{l:List α}{i:Nat}{x y:α}(h:y∈l.set i x):y=x\/y∈l:=by
 rcases List.mem_or_eq_of_mem_set h with h | h
 ·exact .inr h
 exact .inl h
theorem Qp8 (n:Qn)(l:List Qat)(which env:List Int)(h:QaT n)(hl:QH QiD l)(hw:which.length<=1000):Qg (Qaz n l which env) fun r=>r.2=0->MOk n which.length r.1/\Low n r.1:=by
 unfold Qaz
 have hpl:=h.pl
 refine T0 (T5 (by simp only [QB,QQ];omega)) fun _ _=>?_
 refine T0 (Qg.up which.length (fun st=>st.1) (fun st=>(st.2.length=n.Places.length/\∀b∈st.2,Rt b/\(b.length:Int)<=st.1)/\Low n st.2) (Q:=fun q=>(∀x,q=.inl x->x≠0)/\∀m,q=.inr m->MOk n which.length m/\Low n m) rfl ⟨⟨by simp,fun b hb=>?_⟩,fun j b p hb hp k hk=>?_⟩ (fun i st hi hn hJ=>?_)) (fun q hq=>?_)
 ·have:=Qni hb
  subst this
  exact⟨Rt.nil,by simp⟩
 ·have:=Qni (Qaa hb)
  subst this
  simp [QK,Q0]at hk
 ·obtain⟨x,m⟩:=st
  replace hi:x=(i:Int):=hi
  obtain⟨⟨hJ1,hJ2⟩,hJ3⟩:(m.length=n.Places.length/\∀b∈m,Rt b/\(b.length:Int)<=x)/\Low n m:=hJ
  have err:∀y:Int,y≠0->(∀s',(Sum.inr (Sum.inl y):(Int×List (List (Int×Int)))⊕(Int⊕List (List (Int×Int))))=.inl s'->i<which.length/\s'.1=((i+1:Nat):Int)/\(s'.2.length=n.Places.length/\∀b∈s'.2,Rt b/\(b.length:Int)<=s'.1)/\Low n s'.2)/\∀r,(Sum.inr (Sum.inl y):(Int×List (List (Int×Int)))⊕(Int⊕List (List (Int×Int))))=.inr r->(∀x,r=.inl x->x≠0)/\∀m,r=.inr m->MOk n which.length m/\Low n m:=
   fun y hy=>⟨fun s' e=>(by cases e),fun r e=>(by cases e;exact⟨fun x e=>(by cases e;exact hy),fun m e=>(by cases e)⟩)⟩
  show Qg (Qb6 which l env n x m) _
  unfold Qb6
  refine T1 (fun hc=>?_) (fun hc=>T2 (Qt ⟨fun x e=>(by cases e),fun m' e=>?_⟩))
  ·simp only [QQ]at hc
   refine T0 (T4 (by omega) (by omega)) fun e18 _=>?_
   refine T1 (fun _=>T2 (err _ (by decide))) fun hc1=>?_
   simp only [QcV,Qal]at hc1
   refine T0 (T4 (by omega) (by omega)) fun e22 h22=>?_
   refine T0 (QBy e22.Expr env (hl.2 e22 h22).2) fun x23 _=>?_
   refine T1 (fun hc2=>T2 (err _ (by simpa using hc2))) fun _=>?_
   refine T0 (T4 (by omega) (by omega)) fun e25 _=>?_
   refine T1 (fun _=>T2 (err _ (by decide))) fun hc3=>?_
   simp only [QcV,Qal]at hc3
   refine T0 (T4 (by omega) (by omega)).self fun e29 h29=>?_
   refine T0 (Qzj _ _ _ h.k.1).self fun x30 h30=>?_
   refine T1 (fun _=>T2 (err _ (by decide))) fun hc4=>?_
   have hz:=Qr1 (QBx _ _ _ h.k.1) h30.1 (by simpa using hc4)
   have h30:=h30.2 (by simpa using hc4)
   refine T0 (T4 (by omega) (by omega)).self fun e32 h32e=>?_
   have h32:=h32e.2
   have h32e:=h32e.1
   have h29:=h29.1
   rw [QsW,QI h30]
   simp only [cond_true,Ql]
   have hb:=hJ2 e32 h32
   have key:∃s,QhS e32 [(x30.1,1)]=some s/\(s.2=0->(Rt s.1/\s.1.length<=e32.length+1)/\∀k,QK s.1 k=QK e32 k+QK [(x30.1,1)] k):=by
    rcases Qp7 e32 [(x30.1,1)] (by simp;omega)with⟨_,e⟩|⟨_,_,_,e⟩|⟨_,_,r,e,h1,hcn,h2⟩
    ·exact⟨_,e,fun h=>by cases h⟩
    ·exact⟨_,e,fun h=>by cases h⟩
    exact⟨_,e,fun _=>⟨⟨h1,by simpa using h2⟩,hcn⟩⟩
   obtain⟨s,es,hs⟩:=key
   rw [es,Ql]
   refine T0 (T4 (by omega) (by omega)) fun _ _=>?_
   refine T1 (fun hc5=>T2 (err _ (by simpa using hc5))) fun hc5=>?_
   obtain⟨hs,hcn⟩:=hs (by simpa using hc5)
   refine T2 (QN ⟨by omega,by subst hi;exact Qy (by omega) (by unfold maxLen;omega:which.length<=maxLen),⟨by simpa using hJ1,fun b hb'=>?_⟩,fun j b p hb' hp k hk=>?_⟩)
   ·subst hi
    show Rt b/\(b.length:Int)<=w64 ((i:Int)+1)
    rw [Qy (by omega) (by unfold maxLen;omega:which.length<=maxLen)]
    rcases Qx0 hb' with rfl | hb'
    ·exact⟨hs.1,by omega⟩
    have:=hJ2 b hb'
    exact⟨this.1,by omega⟩
   have hb':(m.set e25.Place.toNat s.1)[j]? = some b:=hb'
   by_cases cj:e25.Place.toNat=j
   ·subst cj
    rw [List.getElem?_set_self (by omega)]at hb'
    cases hb'
    rw [QeN (by omega)]at h29 h32e
    rw [h29]at hp
    cases hp
    rw [hcn]at hk
    by_cases c0:0<QK e32 k
    ·exact hJ3 _ e32 e29 h32e h29 k c0
    have h9:0<QK [(x30.1,1)] k:=by omega
    have h8:x30.1=k:=by
     apply Decidable.byContradiction
     intro hne
     simp [QK,Q0,hne]at h9
    obtain⟨z,hz1,hz2⟩:=hz
    exact⟨z,hz1,by omega⟩
   rw [List.getElem?_set_ne cj]at hb'
   exact hJ3 j b p hb' hp k hk
  cases e
  exact⟨⟨hJ1,fun b hb=>⟨(hJ2 b hb).1,by have:=(hJ2 b hb).2;omega⟩⟩,hJ3⟩
 rcases q with q | q
 ·exact T2 fun h=>absurd h (hq.1 q rfl)
 exact T2 fun _=>hq.2 q rfl
theorem Qwo (a m:List (List (Int×Int)))(ha:QH (QH fun _=>True) a)(hm:QH (QH fun _=>True) m):Qg (Qfh a m) fun _=>True:=by
 unfold Qfh Qag
 refine T0 (P:=fun _=>True) ?_ fun _ _=>T3
 refine T1 (fun _=>T3) fun hc=>?_
 simp only [bne_eq_false_iff_eq]at hc
 refine T0 (Qg.up a.length (fun st=>st) (fun _=>True) (Q:=fun _=>True) rfl trivial (fun i st hi hn hJ=>?_)) (fun q _=>?_)
 ·show Qg (QL a m st) _
  unfold QL
  refine T1 (fun hc=>?_) (fun _=>T2 (Qt trivial))
  simp only [QQ]at hc
  refine T0 (T4 (by omega) (by omega)) fun x hx=>?_
  refine T0 (T4 (by omega) (by omega)) fun y hy=>?_
  refine T0 (P:=fun _=>True) (by obtain⟨r,hr,_⟩:=Qq3 x y (ha.2 x hx).1 (hm.2 y hy).1;exact⟨r,hr,trivial⟩) fun _ _=>?_
  exact T1 (fun _=>T2 (Qt trivial)) fun _=>T2 (QN ⟨by omega,by rw [hi];exact Qy (by omega) ha.1,trivial⟩)
 rcases q with q | q
 ·exact T3
 exact T3
theorem MOk.len {n:Qn}{c:Nat}{m:List (List (Int×Int))}(h:MOk n c m)(hn:QaT n)(hc:c<=1000000):QH (QH fun _=>True) m:=
 ⟨by have:=h.1;have:=hn.pl;unfold maxLen;omega,fun b hb=>⟨by have:=(h.2 b hb).2;unfold maxLen;omega,fun _ _=>trivial⟩⟩
end Go.Proofs
noncomputable section
namespace Go.Proofs
open Go Go.RowKit Go.Vm
structure BOk (n:Qn) (m:List (List (Int×Int))) (b:QM):Prop where
 net:b.net=n
 mm:b.m=m
 task:b.task∈n.Tasks
theorem Qx1 (n:Qn)(m:List (List (Int×Int)))(task:Int)(vars:List Int)(h:QaT n):Qg (Qa1 n m task vars) fun r=>r.1=0->BOk n m r.2:=by
 unfold Qa1
 refine T0 (QEa n task vars h) fun x hx=>?_
 refine T1 (fun hc=>T2 fun h=>absurd h (by simpa using hc)) fun hc=>?_
 have:=hx (by simpa using hc)
 exact T0 (T4 this.1 this.2) fun e he=>T2 fun _=>⟨rfl,rfl,he⟩
theorem Quz (n:Qn)(m:List (List (Int×Int)))(b:QM)(h:QaT n)(hb:BOk n m b):Qg (Q5 b) fun _=>True:=by
 unfold Q5
 refine T0 (QBy _ _ (h.k.2.2.1.2 _ hb.task).2.2.1) fun x _=>?_
 exact T1 (fun _=>T3) fun _=>T1 (fun _=>T3) fun _=>T3
theorem Qr2 (n:Qn)(m:List (List (Int×Int)))(b:QM)(outs:List Int)(h:QaT n)(hb:BOk n m b)(ho:outs.length<=1000):Qg (Qam b outs) fun _=>True:=by
 unfold Qam
 rw [hb.net]
 exact T0 (Qp8 n _ outs _ h (h.k.2.2.1.2 _ hb.task).2.2.2.2.2.2.1 ho) fun x _=>T3
theorem QAF (l:List Int)(x:Int)(h:l.length<=maxLen):Qg (QaH l x) fun _=>True:=QhU l x ⟨h,fun _ _=>trivial⟩
theorem QfL (l:List Int)(h:l.length<=4294967296):QaN l=some l:=by
 unfold QaN
 rw [QkL (by simp;omega)];rfl
theorem Qzl (l:List Int)(h:l.length<=4294967296):QcD l=some (Qep l):=by
 unfold QcD
 rw [QkL (by omega)];rfl
theorem Qx2 (n:Qn)(m:List (List (Int×Int)))(b:QM)(ins:List Int)(h:QaT n)(hb:BOk n m b)(hm:QH (QH fun _=>True) m)(hi:ins.length<=100):Qg (Q3 b ins) fun _=>True:=by
 have ki:=(h.k.2.2.1.2 _ hb.task).2.2.2.2.2.1
 have kl:=(h.tk _ hb.task).2.1
 unfold Q3
 rw [hb.net,hb.mm]
 refine T0 (Qp8 n _ ins _ h ki (by omega)) fun x hx=>?_
 refine T1 (fun _=>T3) fun hc=>?_
 have hx:=hx (by simpa using hc)
 refine T0 (Qwo _ _ (hx.1.len h (by omega)) hm) fun y _=>?_
 refine T1 (fun _=>T3) fun _=>T1 (fun _=>T3) fun _=>?_
 refine T0 (Qg.up b.task.Ins.length (fun st=>st) (fun _=>True) (Q:=fun _=>True) rfl trivial (fun i st hi hn _=>?_)) (fun q _=>?_)
 ·show Qg (Qan b ins st) _
  unfold Qan
  refine T1 (fun hc=>?_) (fun _=>T2 (Qt trivial))
  simp only [QQ]at hc
  have step:Qg (Qcl st) fun o=>(∀s',o=.inl s'->i<b.task.Ins.length/\s'=((i+1:Nat):Int)/\True)/\∀r:Unit⊕Unit,o=.inr r->True:=
   T2 (QN (ix:=fun st=>st) (J:=fun _=>True) (Q:=fun _=>True) ⟨by omega,by rw [hi];exact Qy (by omega) ki.1,trivial⟩)
  refine T0 (QAF ins st (by unfold maxLen;omega)) fun z _=>?_
  refine T1 (fun _=>step) fun _=>?_
  rw [QfL ins (by omega),Ql]
  refine T0 (T5 (by simp;omega)) fun _ _=>?_
  rw [Qzl _ (by simp;omega),Ql]
  refine T0 (T5 (by simp [QhR])) fun _ _=>?_
  rw [hb.net]
  refine T0 (Qp8 n _ _ _ h ki (by rw [QhR];simp;omega)) fun u hu=>?_
  refine T0 (P:=fun _=>True) ?_ fun v _=>?_
  ·unfold Qg3
   rw [hb.mm]
   refine T1 (fun hc2=>?_) fun _=>T3
   have hu:=hu (by simpa using hc2)
   refine T0 (Qwo _ _ (hu.1.len h (by rw [QhR];simp;omega)) hm) fun _ _=>T3
  unfold Qdk
  exact T1 (fun _=>T2 (Qt trivial)) fun _=>step
 rcases q with q | q
 ·exact T3
 exact T3
def Qd8 (r:List (List Int)):Prop:=r.length<=16/\∀row∈r,row.length<=16
def chB (o:Option (List (List Int))):Bool:=match o with
 | some r=>decide (r.length<=16)&&r.all fun row=>decide (row.length<=16)
 | none=>false
theorem Qzm {o:Option (List (List Int))}(h:chB o=true):Qg o Qd8:=by
 cases o with
 | none=>cases h
 | some r=>
  simp only [chB,QB,QQ,Qad]at h
  exact T2 h
theorem Qzn {arcs:Int}(h0:¬arcs<0)(h1:¬16<arcs):arcs=0\/arcs=1\/arcs=2\/arcs=3\/arcs=4\/arcs=5\/arcs=6\/arcs=7\/arcs=8\/arcs=9\/arcs=10\/arcs=11\/arcs=12\/arcs=13\/arcs=14\/arcs=15\/arcs=16:=by omega
set_option maxRecDepth 100000 in
theorem Ql8 (kind arcs:Int):Qg (Qay kind arcs) Qd8:=by
 by_cases hg:((decide (arcs<0))||((decide (16<arcs))||((kind==3)&&(decide (4<arcs)))))=true
 ·unfold Qay
  rw [hg]
  exact T2 ⟨by simp,fun r h=>by cases h⟩
 simp only [Qcs,QB,QQ,beq_iff_eq,not_or,not_and]at hg
 obtain⟨h0,h1,h2⟩:=hg
 by_cases e1:kind=1
 ·subst e1
  rcases Qzn h0 h1 with rfl | rfl | rfl | rfl | rfl | rfl | rfl | rfl | rfl | rfl | rfl | rfl | rfl | rfl | rfl | rfl | rfl<;>exact Qzm (by kernel_rfl)
 by_cases e2:kind=2
 ·subst e2
  rcases Qzn h0 h1 with rfl | rfl | rfl | rfl | rfl | rfl | rfl | rfl | rfl | rfl | rfl | rfl | rfl | rfl | rfl | rfl | rfl<;>exact Qzm (by kernel_rfl)
 by_cases e3:kind=3
 ·subst e3
  have h3:=h2 rfl
  have:arcs=0\/arcs=1\/arcs=2\/arcs=3\/arcs=4:=by omega
  rcases this with rfl | rfl | rfl | rfl | rfl<;>exact Qzm (by kernel_rfl)
 have f1:(kind==1)=false:=by simpa using e1
 have f2:(kind==2)=false:=by simpa using e2
 have f3:(kind==3)=false:=by simpa using e3
 unfold Qay Qfl
 rw [f1,f2,f3]
 exact T1 (fun _=>T2 ⟨by simp,fun r h=>by cases h⟩) fun _=>T2 ⟨by simp,fun r h=>by cases h⟩
theorem QC3 (a b:List Int)(ha:a.length<=maxLen):Qg (Qbv a b) fun _=>True:=by
 unfold Qbv
 refine T1 (fun _=>T3) fun hc=>?_
 simp only [bne_eq_false_iff_eq]at hc
 refine T0 (Qg.up a.length (fun st=>st) (fun _=>True) (Q:=fun _=>True) rfl trivial (fun i st hi hn hJ=>?_)) (fun q _=>?_)
 ·show Qg (QbA a b st) _
  unfold QbA
  refine T1 (fun hc=>?_) (fun _=>T2 (Qt trivial))
  simp only [QQ]at hc
  refine T0 (T4 (by omega) (by omega)) fun x hx=>?_
  refine T0 (T4 (by omega) (by omega)) fun y hy=>?_
  exact T1 (fun _=>T2 (Qt trivial)) fun _=>T2 (QN ⟨by omega,by rw [hi];exact Qy (by omega) ha,trivial⟩)
 rcases q with q | q
 ·exact T3
 exact T3
theorem Qzo (kind arcs:Int)(row:List Int):Qg (Qeh kind arcs row) fun _=>True:=by
 unfold Qeh QcK QcJ
 refine T0 (Ql8 kind arcs) fun x hx=>?_
 refine T0 (P:=fun _=>True) ?_ fun _ _=>T3
 refine T0 (P:=fun _=>True) ?_ fun _ _=>T3
 have hl:=hx.1
 refine T0 (Qg.up x.length (fun st=>st) (fun _=>True) (Q:=fun _=>True) rfl trivial (fun i st hi hn hJ=>?_)) (fun q _=>?_)
 ·show Qg (Qar x row st) _
  unfold Qar Qja
  refine T1 (fun hc=>?_) (fun _=>T2 (Qt trivial))
  simp only [QQ]at hc
  refine T0 (T4 (by omega) (by omega)) fun e he=>?_
  have:=hx.2 e he
  refine T0 (T0 (QC3 e row (by unfold maxLen;omega)) fun _ _=>T3) fun _ _=>?_
  exact T1 (fun _=>T2 (Qt trivial)) fun _=>T2 (QN ⟨by omega,by rw [hi];exact Qy (by omega) (by unfold maxLen;omega:x.length<=maxLen),trivial⟩)
 rcases q with q | q
 ·exact T3
 exact T3
def Qfs (n:Qn)(o:Qi):Prop:=o.Vars.length<=20/\o.Ins.length<=20/\o.Outs.length<=20
theorem QC4 (n:Qn)(m:List (List (Int×Int)))(o:Qi)(h:QaT n)(hm:QH (QH fun _=>True) m)(ho:Qfs n o):Qg (Qcc n m o) fun _=>True:=by
 unfold Qcc
 refine T0 (Qx1 n m o.Task o.Vars h) fun x hx=>?_
 have k3:∀e,(e=0->x.1=0)->Qg (Qbt x o e) fun _=>True:=fun e he=>by
  unfold Qbt
  refine T1 (fun _=>T3) fun hc=>?_
  have hb:=hx (he (by simpa using hc))
  refine T0 (P:=fun _=>True) ?_ fun y _=>?_
  ·unfold QgG
   refine T0 (Qzo _ _ _) fun z _=>?_
   exact T1 (fun _=>T3) fun _=>T0 (Qzo _ _ _) fun _ _=>T3
  unfold QdZ
  refine T1 (fun _=>T3) fun _=>?_
  refine T0 (Qx2 n m x.2 o.Ins h hb hm (by have:=ho.2.1;omega)) fun z _=>?_
  refine T1 (fun _=>T3) fun _=>?_
  exact T0 (Qr2 n m x.2 o.Outs h hb (by have:=ho.2.2;omega)) fun _ _=>T3
 refine T1 (fun hc=>?_) fun hc=>k3 _ fun h=>h
 have hc:x.1=0:=by simpa using hc
 exact T0 (Quz n m x.2 h (hx hc)) fun e _=>k3 e fun _=>hc
end Go.Proofs
