/- A part of the proof; what it holds is told at each theorem. -/
import Derived.Test.YtpijolohkdchcaaGreatDoorR1XPlA
import Derived.Test.YtpijolohkdchcaaGreatDoorR1V3
import Derived.Test.YtpijolohkdchcaaGreatDoorR1T3
import Derived.KernelRfl
set_option linter.unusedVariables false
set_option linter.unusedSimpArgs false
set_option linter.unusedSectionVars false
set_option linter.deprecated false
namespace Go.Vm
open Go Go.RowKit
def Qj {α:Type}(o:Option α)(Q:α->Prop):Prop:=∃r,o=some r/\Q r
section
variable {α β σ ρ:Type}
theorem Qj.ok {a:α}{Q:α->Prop}(h:Q a):Qj (some a) Q:=⟨a,rfl,h⟩
theorem Qj.okT {a:α}:Qj (some a) fun _=>True:=⟨a,rfl,trivial⟩
theorem Qj.bind {o:Option α}{f:α->Option β}{P:α->Prop}{Q:β->Prop}(h:Qj o P)(k:∀x,P x->Qj (f x) Q):Qj (o.bind f) Q:=by
 obtain⟨x,rfl,hx⟩:=h
 exact k x hx
theorem Qj.bif {c:Bool}{a b:Option α}{Q:α->Prop}(h1:c=true->Qj a Q)(h2:c=false->Qj b Q):Qj (bif c then a else b) Q:=by
 cases c with
 | true=>exact h1 rfl
 | false=>exact h2 rfl
theorem Qj.chk {c:Bool}(h:c=true):Qj (chk c) fun _=>True:=⟨(),Qor h,trivial⟩
theorem Qj.idx {l:List α}{j:Int}(h0:0<=j)(h1:j<l.length):Qj (idx l j) fun x=>x∈l:=by
 rw [Ql7 h0 h1]
 exact⟨_,rfl,QaI _⟩
theorem Qj.get {l:List α}{j:Nat}(h1:j<l.length):Qj (l[j]?) fun x=>x∈l:=by
 rw [QH h1]
 exact⟨_,rfl,QaI _⟩
theorem Qj.sidx {s:ByteArray}{j:Int}(h0:0<=j)(h1:j<s.size):Qj (sidx s j) fun _=>True:=by
 unfold Vm.sidx
 rw [if_pos h0]
 have:j.toNat<s.size:=by omega
 rw [getElem?_pos s j.toNat this]
 exact⟨_,rfl,trivial⟩
theorem Qj.mono {o:Option α}{P Q:α->Prop}(h:Qj o P)(k:∀x,P x->Q x):Qj o Q:=let ⟨r,h1,h2⟩:=h;⟨r,h1,k r h2⟩
theorem Qj.tot {o:Option α}{P:α->Prop}(h:Qj o P):∃r,o=some r:=let ⟨r,h1,_⟩:=h;⟨r,h1⟩
theorem Qj.self {o:Option α}{P:α->Prop}(h:Qj o P):Qj o fun x=>o=some x/\P x:=let ⟨r,h1,h2⟩:=h;⟨r,h1,h1,h2⟩
theorem Qj.up {body:σ->Option (σ⊕ρ)}(n:Nat)(ix:σ->Int)(J:σ->Prop){Q:ρ->Prop}{s0:σ}(h0:ix s0=0)(hJ:J s0)
  (step:∀(i:Nat) s,ix s=(i:Int)->i<=n->J s->Qj (body s) fun o=>(∀s',o=.inl s'->i<n/\ix s'=((i+1:Nat):Int)/\J s')/\∀r,o=.inr r->Q r):Qj (Qw body s0) Q:=by
 have key:∀k i s,i+k=n->ix s=(i:Int)->J s->∃r,Qw body s=some r/\Q r:=by
  intro k
  induction k with
  | zero=>
   intro i s hk hi hj
   obtain⟨o,ho,h1,h2⟩:=step i s hi (by omega) hj
   rw [QaR,ho]
   cases o with
   | inl s'=>have:=(h1 s' rfl).1;omega
   | inr r=>exact⟨r,rfl,h2 r rfl⟩
  | succ k ih=>
   intro i s hk hi hj
   obtain⟨o,ho,h1,h2⟩:=step i s hi (by omega) hj
   rw [QaR,ho]
   cases o with
   | inl s'=>
    obtain⟨_,h3,h4⟩:=h1 s' rfl
    exact ih (i+1) s' (by omega) h3 h4
   | inr r=>exact⟨r,rfl,h2 r rfl⟩
 exact key n 0 s0 (by omega) h0 hJ
theorem QL {s:σ}{n i:Nat}{ix:σ->Int}{J:σ->Prop}{Q:ρ->Prop}(h:i<n/\ix s=((i+1:Nat):Int)/\J s):
  (∀s',(Sum.inl s:σ⊕ρ)=.inl s'->i<n/\ix s'=((i+1:Nat):Int)/\J s')/\∀r,(Sum.inl s:σ⊕ρ)=.inr r->Q r:=
 ⟨fun s' e=>(by cases e;exact h),fun r e=>(by cases e)⟩
theorem Qt {r:ρ}{n i:Nat}{ix:σ->Int}{J:σ->Prop}{Q:ρ->Prop}(h:Q r):
  (∀s',(Sum.inr r:σ⊕ρ)=.inl s'->i<n/\ix s'=((i+1:Nat):Int)/\J s')/\∀r',(Sum.inr r:σ⊕ρ)=.inr r'->Q r':=
 ⟨fun s' e=>(by cases e),fun r' e=>(by cases e;exact h)⟩
end
def QJ {α:Type}(ok:α->Prop)(l:List α):Prop:=l.length<=maxLen/\∀x∈l,ok x
theorem QJ.drop {α:Type}{ok:α->Prop}{l:List α}(h:QJ ok l)(k:Nat):QJ ok (l.drop k):=⟨by have:=h.1;rw [Qmc];omega,fun x hx=>h.2 x (QpK hx)⟩
theorem QJ.take {α:Type}{ok:α->Prop}{l:List α}(h:QJ ok l)(k:Nat):QJ ok (l.take k):=⟨by have:=h.1;rw [Qe0];omega,fun x hx=>h.2 x (QfC hx)⟩
theorem QJ.nil {α:Type}{ok:α->Prop}:QJ ok ([]:List α):=⟨by simp,fun x h=>by cases h⟩
theorem QJ.app {α:Type}{ok:α->Prop}{l m:List α}(h:QJ ok l)(hm:QJ ok m)(hs:l.length+m.length<=maxLen):QJ ok (l++m):=⟨by simpa using hs,fun x hx=>by rcases Qcm.1 hx with h1 | h1;exact h.2 x h1;exact hm.2 x h1⟩
def Qfn (s:ByteArray):Prop:=s.size<=maxLen
theorem QC5 {s:ByteArray}(h:Qb6 s (⟨#[]⟩:ByteArray)=false):0<s.size:=by
 apply Nat.pos_of_ne_zero
 intro h0
 have:s=⟨#[]⟩:=by
  obtain⟨a⟩:=s
  have:a=#[]:=QBG h0
  rw [this]
 subst this
 simp [Qb6]at h
theorem Qly {a b:Int}:0<=min2 a b↔0<=a/\0<=b:=by unfold min2;split<;>omega
theorem Qlz {a b n:Int}:max2 a b<n↔a<n/\b<n:=by unfold max2;split<;>omega
theorem QlA {a b n:Int}:max2 a b<=n↔a<=n/\b<=n:=by unfold max2;split<;>omega
abbrev T0:=@Qj.bind
abbrev T1:=@Qj.bif
abbrev T2:=@Qj.ok
abbrev T3:=@Qj.okT
abbrev T4:=@Qj.idx
abbrev T5:=@Qj.chk
abbrev T6:=@Qj.mono
end Go.Vm
namespace Go.Vm
open Go Go.RowKit
def Asc (l:List (Int×Int)):Prop:=l.Pairwise fun p q=>p.1<q.1
def Qos (l:List (Int×Int)):Prop:=l.Pairwise fun p q=>p.1≠q.1
theorem Asc.nd {l:List (Int×Int)}(h:Asc l):Qos l:=h.imp fun h=>by omega
theorem Qgk {p:Int×Int}{l:List (Int×Int)}:Asc (p::l)↔(∀q∈l,p.1<q.1)/\Asc l:=List.pairwise_cons
theorem QBw {p:Int×Int}{l:List (Int×Int)}:Qos (p::l)↔(∀q∈l,p.1≠q.1)/\Qos l:=List.pairwise_cons
theorem Qmu {l:List (Int×Int)}{k:Int}:QX l k=none↔∀p∈l,p.1≠k:=by
 induction l with
 | nil=>simp [QX]
 | cons p l ih=>
  obtain⟨a,x⟩:=p
  rw [Qat]
  by_cases h:a=k
  ·simp [h]
  simp [h,ih]
theorem QbT {l:List (Int×Int)}(hn:Qos l){k v:Int}:QX l k=some v↔(k,v)∈l:=by
 induction l with
 | nil=>simp [QX]
 | cons p l ih=>
  obtain⟨a,x⟩:=p
  obtain⟨h1,h2⟩:=QBw.1 hn
  rw [Qat]
  by_cases h:a=k
  ·subst h
   rw [if_pos rfl]
   constructor
   ·intro e;cases e;simp
   intro e
   rcases Qbm.1 e with e | e
   ·cases e;rfl
   exact absurd rfl (h1 (a,v) e)
  rw [if_neg h,ih h2]
  constructor
  ·intro e;exact Qca _ e
  intro e
  rcases Qbm.1 e with e | e
  ·cases e;exact absurd rfl h
  exact e
theorem QC6 {l m:List (Int×Int)}(hl:Qos l)(h:l.Perm m)(k:Int):QX l k=QX m k:=by
 have hm:Qos m:=(h.pairwise_iff (fun hab=>Ne.symm hab)).1 hl
 apply Option.ext
 intro v
 rw [QbT hl,QbT hm]
 exact h.mem_iff
theorem Qzn {l m:List (Int×Int)}(hl:Asc l)(hm:Asc m)(h:∀k,QX l k=QX m k):l=m:=by
 induction l generalizing m with
 | nil=>
  cases m with
  | nil=>rfl
  | cons p m=>have:=h p.1;rw [Qat (κ:=Int)]at this;simp [QX]at this
 | cons p l ih=>
  obtain⟨a,x⟩:=p
  cases m with
  | nil=>have:=h a;rw [Qat]at this;simp [QX]at this
  | cons q m=>
   obtain⟨b,y⟩:=q
   obtain⟨l1,l2⟩:=Qgk.1 hl
   obtain⟨m1,m2⟩:=Qgk.1 hm
   have hab:a=b:=by
    rcases Int.lt_trichotomy a b with hc | hc | hc
    ·have e:=h a
     rw [Qat,Qat,if_pos rfl,if_neg (by omega),Qmu.2 (fun p hp=>by have:=m1 p hp;simp at this;omega)]at e
     cases e
    ·exact hc
    have e:=h b
    rw [Qat,Qat,if_neg (by omega),if_pos rfl,Qmu.2 (fun p hp=>by have:=l1 p hp;simp at this;omega)]at e
    cases e
   subst hab
   have e:=h a
   rw [Qat,Qat,if_pos rfl,if_pos rfl]at e
   cases e
   rw [ih l2 m2 fun k=>?_]
   by_cases hk:a=k
   ·subst hk
    rw [Qmu.2 (fun p hp=>by have:=l1 p hp;simp at this;omega),Qmu.2 (fun p hp=>by have:=m1 p hp;simp at this;omega)]
   have:=h k
   rwa [Qat,Qat,if_neg hk,if_neg hk]at this
theorem QFh {l:List (Int×Int)}{k v:Int}{p:Int×Int}(h:p∈QmA l k v):∃q∈l,q.1=p.1:=by
 induction l with
 | nil=>cases h
 | cons q l ih=>
  obtain⟨a,x⟩:=q
  rw [QmA]at h
  split at h
  ·rename_i e
   rcases Qbm.1 h with rfl | h
   ·exact⟨_,QbE,e⟩
   exact⟨p,Qca _ h,rfl⟩
  rcases Qbm.1 h with rfl | h
  ·exact⟨_,QbE,rfl⟩
  obtain⟨q,h1,h2⟩:=ih h
  exact⟨q,Qca _ h1,h2⟩
theorem QD2 {lt:Int->Int->Bool}{l:List (Int×Int)}{k v:Int}{p:Int×Int}(h:p∈Qmz lt l k v):p=(k,v)\/p∈l:=by
 induction l with
 | nil=>simp [Qmz]at h;exact .inl h
 | cons q l ih=>
  obtain⟨a,x⟩:=q
  rw [Qmz]at h
  split at h
  ·rcases Qbm.1 h with h | h
   ·exact .inl h
   exact .inr h
  rcases Qbm.1 h with h | h
  ·exact .inr (h▸QbE)
  rcases ih h with h | h
  ·exact .inl h
  exact .inr (Qca _ h)
theorem QAL {l:List (Int×Int)}(h:Asc l)(k v:Int):Asc (QcJ ltI l k v):=by
 unfold QcJ
 split
 ·rename_i x hx
  clear hx
  induction l with
  | nil=>exact h
  | cons p l ih=>
   obtain⟨a,x⟩:=p
   obtain⟨h1,h2⟩:=Qgk.1 h
   rw [QmA]
   split
   ·rename_i e;subst e;exact Qgk.2 ⟨h1,h2⟩
   refine Qgk.2 ⟨fun q hq=>?_,ih h2⟩
   obtain⟨q',hq',e⟩:=QFh hq
   rw [<-e];exact h1 _ hq'
 rename_i hn
 induction l with
 | nil=>exact List.pairwise_singleton _ _
 | cons p l ih=>
  obtain⟨a,x⟩:=p
  obtain⟨h1,h2⟩:=Qgk.1 h
  rw [Qat]at hn
  split at hn
  ·cases hn
  rename_i hne
  rw [Qmz]
  split
  ·rename_i e
   have e:k<a:=Qak e
   refine Qgk.2 ⟨fun q hq=>?_,h⟩
   rcases Qbm.1 hq with rfl | hq
   ·exact e
   have:=h1 q hq;simp at this ⊢;omega
  rename_i e
  have e:¬k<a:=fun c=>e (QI c)
  refine Qgk.2 ⟨fun q hq=>?_,ih h2 hn⟩
  rcases QD2 hq with rfl | hq
  ·show a<k;omega
  exact h1 q hq
theorem QD3 {l:List (Int×Int)}{k v:Int}:(QmA l k v).length=l.length:=by
 induction l with
 | nil=>rfl
 | cons p l ih=>
  obtain⟨a,x⟩:=p
  rw [QmA]
  split
  ·rfl
  simp [ih]
theorem QD4 {lt:Int->Int->Bool}{l:List (Int×Int)}{k v:Int}:(Qmz lt l k v).length=l.length+1:=by
 induction l with
 | nil=>rfl
 | cons p l ih=>
  obtain⟨a,x⟩:=p
  rw [Qmz]
  split
  ·rfl
  simp [ih]
theorem QD5 {l:List (Int×Int)}{k v:Int}:(QcJ ltI l k v).length<=l.length+1:=by
 unfold QcJ
 split
 ·rw [QD3];omega
 rw [QD4];exact QcR _
theorem QD6 {l:List (Int×Int)}{k v:Int}(h:Asc (l++[(k,v)])):QcJ ltI l k v=l++[(k,v)]:=by
 have hl:Asc l:=(List.pairwise_append.1 h).1
 refine Qzn (QAL hl k v) h fun j=>?_
 rw [QmR]
 have hk:∀p∈l,p.1<k:=fun p hp=>(List.pairwise_append.1 h).2.2 p hp (k,v) (by simp)
 clear h
 induction l with
 | nil=>
  show(if j=k then some v else none)=(if k=j then some v else none)
  by_cases c:j=k
  ·rw [if_pos c,if_pos c.symm]
  rw [if_neg c,if_neg (fun e=>c e.symm)]
 | cons p l ih=>
  obtain⟨a,x⟩:=p
  have h1:=hk (a,x) QbE
  simp only at h1
  rw [Qti,Qat,Qat]
  rw [<-ih (Qgk.1 hl).2 fun p hp=>hk p (Qca _ hp)]
  by_cases c:j=k
  ·subst c;rw [if_pos rfl,if_pos rfl,if_neg (by omega)]
  rw [if_neg c,if_neg c]
section
variable {ρ:Type}{g:Int->Int->Int}{stop:Int->Bool}{q:Option ρ}{body:List (Int×Int)->Int×Int->Option (List (Int×Int)⊕ρ)}
def QB (s:List (Int×Int))(k:Int):Int:=(QX s k).getD 0
def Qwb (g:Int->Int->Int)(s l:List (Int×Int))(k:Int):Option Int:=match QX l k with
 | some v=>some (g (QB s k) v)
 | none=>QX s k
theorem Qt1 (hb:∀s p,body s p=bif stop (g (QB s p.1) p.2)then q.map Sum.inr else some (.inl (QcJ ltI s p.1 (g (QB s p.1) p.2)))):
  ∀l s,Asc s->Qos l->((∃p∈l,stop (g (QB s p.1) p.2)=true)/\QeA body s l=q.map Sum.inr)\/
   ((∀p∈l,stop (g (QB s p.1) p.2)=false)/\∃s',QeA body s l=some (.inl s')/\Asc s'/\s'.length<=s.length+l.length/\∀k,QX s' k=Qwb g s l k):=by
 intro l
 induction l with
 | nil=>intro s hs _;exact .inr ⟨fun p h=>(by cases h),s,rfl,hs,by simp,fun k=>rfl⟩
 | cons p l ih=>
  intro s hs hl
  obtain⟨h1,h2⟩:=QBw.1 hl
  simp only [QeA,hb]
  cases hst:stop (g (QB s p.1) p.2)with
  | true=>exact .inl ⟨⟨p,QbE,hst⟩,by cases q<;>rfl⟩
  | false=>
   simp only [cond_false,Ql,Sum.elim_inl]
   have hc:∀r∈l,QB (QcJ ltI s p.1 (g (QB s p.1) p.2)) r.1=QB s r.1:=fun r hr=>by
    unfold QB
    rw [QmR,if_neg (fun e=>h1 r hr e.symm)]
   rcases ih _ (QAL hs p.1 (g (QB s p.1) p.2)) h2 with⟨⟨r,hr,h3⟩,h4⟩|⟨h3,s',h4,h5,h6,h7⟩
   ·exact .inl ⟨⟨r,Qca _ hr,by rw [hc r hr]at h3;exact h3⟩,h4⟩
   refine .inr ⟨fun r hr=>?_,s',h4,h5,?_,fun k=>?_⟩
   ·rcases Qbm.1 hr with rfl | hr
    ·exact hst
    have:=h3 r hr;rwa [hc r hr]at this
   ·have:=QD5 (l:=s) (k:=p.1) (v:=g (QB s p.1) p.2)
    simp;omega
   rw [h7]
   obtain⟨a,x⟩:=p
   unfold Qwb
   rw [Qat]
   by_cases e:a=k
   ·subst e
    rw [if_pos rfl,Qmu.2 (fun r hr=>Ne.symm (h1 r hr)),QmR,if_pos rfl]
   rw [if_neg e]
   simp only [QB,QmR,if_neg (fun e'=>e (Eq.symm e'):¬k=a)]
theorem Qyr (hb:∀s p,body s p=bif stop (g (QB s p.1) p.2)then q.map Sum.inr else some (.inl (QcJ ltI s p.1 (g (QB s p.1) p.2)))){l s:List (Int×Int)}(hs:Asc s)(hl:Qos l):
  ((∃p∈l,stop (g (QB s p.1) p.2)=true)/\∀r,q=some r->QlQ body s l=some (.inr r))\/
   ((∀p∈l,stop (g (QB s p.1) p.2)=false)/\∃s',QlQ body s l=some (.inl s')/\Asc s'/\s'.length<=s.length+l.length/\∀k,QX s' k=Qwb g s l k):=by
 have key:∀l':List (Int×Int),l'.Perm l->QeA body s l'=QeA body s l:=fun l' hp=>by
  have hl':Qos l':=(hp.pairwise_iff (fun hab=>Ne.symm hab)).2 hl
  rcases Qt1 hb l' s hs hl' with⟨⟨p,h1,h2⟩,h3⟩|⟨h1,s1,h3,h4,_,h5⟩
  ·rcases Qt1 hb l s hs hl with⟨_,g3⟩|⟨g1,_⟩
   ·rw [h3,g3]
   rw [g1 p (hp.mem_iff.1 h1)]at h2;cases h2
  rcases Qt1 hb l s hs hl with⟨⟨p,g1,g2⟩,g3⟩|⟨g1,s2,g3,g4,_,g5⟩
  ·rw [h1 p (hp.mem_iff.2 g1)]at g2;cases g2
  rw [h3,g3,Qzn h4 g4 fun k=>?_]
  rw [h5,g5]
  unfold Qwb
  rw [QC6 hl' hp k]
 rcases Qt1 hb l s hs hl with⟨h1,h3⟩|⟨h1,s1,h3,h4,h6,h5⟩
 ·exact .inl ⟨h1,fun r hr=>Qm6.2 ⟨key,by rw [h3,hr];rfl⟩⟩
 exact .inr ⟨h1,s1,Qm6.2 ⟨key,h3⟩,h4,h6,h5⟩
end
theorem QCh {ρ:Type}{bad:Int×Int->Bool}{q:ρ}{body:Unit->Int×Int->Option (Unit⊕ρ)}(hb:∀p,body () p=some (bif bad p then .inr q else .inl ()))(l:List (Int×Int)):
  QlQ body () l=some (bif l.any bad then .inr q else .inl ()):=by
 have h1:∀l:List (Int×Int),QeA body () l=some (bif l.any bad then .inr q else .inl ()):=by
  intro l
  induction l with
  | nil=>rfl
  | cons p l ih=>
   simp only [QeA,hb,Ql,List.any_cons]
   cases bad p with
   | true=>rfl
   | false=>exact ih
 refine Qm6.2 ⟨fun l' hp=>?_,h1 l⟩
 rw [h1,h1]
 congr 2
 rw [Qth,Ql9,Ql9]
 exact⟨fun ⟨x,a,b⟩=>⟨x,hp.mem_iff.1 a,b⟩,fun ⟨x,a,b⟩=>⟨x,hp.mem_iff.2 a,b⟩⟩
def rtF (a:Int):List (Int×Int)->Bool
 | []=>true
 | p::r=>!(decide (p.1<=a)||(decide (p.2<1)||decide (1048576<p.2)))&&rtF p.1 r
theorem QED {a:Int}{l:List (Int×Int)}:rtF a l=true↔Asc l/\∀p∈l,a<p.1/\1<=p.2/\p.2<=1048576:=by
 induction l generalizing a with
 | nil=>simp [rtF,Asc]
 | cons p l ih=>
  rw [rtF,QA,ih,Qgk]
  simp only [Qfd,QcP,Qah]
  constructor
  ·rintro ⟨⟨h1,h2,h3⟩,h4,h5⟩
   refine⟨⟨fun q hq=>(h5 q hq).1,h4⟩,fun q hq=>?_⟩
   rcases Qbm.1 hq with rfl | hq
   ·omega
   have:=h5 q hq;omega
  rintro ⟨⟨h1,h2⟩,h3⟩
  have:=h3 p QbE
  exact⟨by omega,h2,fun q hq=>⟨h1 q hq,(h3 q (Qca _ hq)).2⟩⟩
def Rt (l:List (Int×Int)):Prop:=Asc l/\∀p∈l,0<=p.1/\1<=p.2/\p.2<=1048576
theorem Qbf {l:List (Int×Int)}:rtF (-1) l=true↔Rt l:=by
 rw [QED]
 constructor
 ·rintro ⟨h1,h2⟩;exact⟨h1,fun p hp=>by have:=h2 p hp;omega⟩
 rintro ⟨h1,h2⟩;exact⟨h1,fun p hp=>by have:=h2 p hp;omega⟩
theorem Rt.nil : Rt []:=⟨List.Pairwise.nil,fun p h=>by cases h⟩
theorem QgU {l:List (Int×Int)}(h:Qos l){p:Int×Int}(hp:p∈l):QB l p.1=p.2:=by
 unfold QB;rw [(QbT h).2 (show(p.1,p.2)∈l from hp)];rfl
theorem Rt.cnt {l:List (Int×Int)}(h:Rt l)(k:Int):0<=QB l k/\QB l k<=1048576:=by
 unfold QB
 cases e:QX l k with
 | none=>simp
 | some v=>have:=h.2 _ ((QbT h.1.nd).1 e);simp at this ⊢;omega
theorem Rt.cnt_pos {l:List (Int×Int)}(h:Rt l){k:Int}(hk:0<QB l k):0<=k:=by
 unfold QB at hk
 cases e:QX l k with
 | none=>rw [e]at hk;simp at hk
 | some v=>exact(h.2 _ ((QbT h.1.nd).1 e)).1
theorem QC7 {l m:List (Int×Int)}(hl:Rt l)(hm:Rt m)(h:∀k,QB l k=QB m k):l=m:=by
 refine Qzn hl.1 hm.1 fun k=>?_
 have:=h k
 unfold QB at this
 cases e1:QX l k with
 | none=>
  cases e2:QX m k with
  | none=>rfl
  | some v=>have h3:=hm.2 _ ((QbT hm.1.nd).1 e2);rw [e1,e2]at this;simp at this h3;omega
 | some v=>
  have h3:=hl.2 _ ((QbT hl.1.nd).1 e1)
  cases e2:QX m k with
  | none=>rw [e1,e2]at this;simp at this h3;omega
  | some u=>rw [e1,e2]at this;simpa using this
def QkM (l:List (Int×Int)):List (Int×Int):=l.filter fun p=>decide (0<p.2)
theorem QAM {l:List (Int×Int)}(h:Asc l)(k:Int):QB (QkM l) k=if 0<QB l k then QB l k else 0:=by
 have hp:Asc (QkM l):=h.sublist List.filter_sublist
 by_cases c:0<QB l k
 ·rw [if_pos c]
  unfold QB at c
  cases e:QX l k with
  | none=>rw [e]at c;simp at c
  | some v=>
   rw [e]at c
   have h1:(k,v)∈QkM l:=QpJ.2 ⟨(QbT h.nd).1 e,by simpa using c⟩
   unfold QB
   rw [(QbT hp.nd).2 h1,e]
 rw [if_neg c]
 unfold QB
 cases e:QX (QkM l) k with
 | none=>rfl
 | some v=>
  have h1:=QpJ.1 ((QbT hp.nd).1 e)
  have h2:=(QbT h.nd).2 h1.1
  unfold QB at c
  rw [h2]at c
  simp at h1 c;omega
theorem QC8 {l:List (Int×Int)}(h:Asc l)(hb:∀k,0<QB l k->0<=k/\QB l k<=1048576):Rt (QkM l):=by
 refine⟨h.sublist List.filter_sublist,fun p hp=>?_⟩
 obtain⟨h1,h2⟩:=QpJ.1 hp
 have h3:=QgU h.nd h1
 have h4:0<p.2:=Qak h2
 have:=hb p.1 (by omega)
 omega
theorem QC9 {l:List (Int×Int)}(h:Asc l):QeD (l.map Prod.fst)=l.map Prod.fst:=by
 rw [QtM]
 refine List.mergeSort_of_pairwise ?_
 rw [Qrp]
 exact h.imp fun h=>by simp;omega
end Go.Vm
namespace Go.Vm
open Go Go.RowKit
def upL : Int->Nat->List Int
 | _,0=>[]
 | x,k+1=>x::upL (x+1) k
def binds : List Int->List (List Int)
 | []=>[[]]
 | s::r=>(0::upL 1 (s-1).toNat).flatMap fun x=>(binds r).map (x::·)
def Qbl : List Int->List Int->List (List Int)
 | s::r,x::d=>(Qbl r d).map (x::·)++(upL (x+1) (s-(x+1)).toNat).flatMap fun y=>(binds r).map (y::·)
 | _,_=>[]
def Qi8 (l:List Int):List Int:=List.replicate l.length 0
theorem Qsv (l:List Int):binds l=Qi8 l::Qbl l (Qi8 l):=by
 induction l with
 | nil=>rfl
 | cons s r ih=>
  show(0::upL 1 (s-1).toNat).flatMap (fun x=>(binds r).map (x::·))=(0::Qi8 r)::((Qbl r (Qi8 r)).map (0::·)++(upL (0+1) (s-(0+1)).toNat).flatMap fun y=>(binds r).map (y::·))
  rw [Qjy,Int.zero_add]
  have:(binds r).map (fun x=>(0:Int)::x)=(0::Qi8 r)::(Qbl r (Qi8 r)).map (0::·):=by rw [ih];rfl
  rw [this];rfl
def QpU : List Int->List Int->Option (List Int)
 | s::r,x::d=>match QpU r d with
  | some e=>some (x::e)
  | none=>if x+1<s then some ((x+1)::Qi8 r)else none
 | _,_=>none
theorem Qys : ∀l d:List Int,Qbl l d=match QpU l d with
  | none=>[]
  | some e=>e::Qbl l e:=by
 intro l
 induction l with
 | nil=>intro d;rfl
 | cons s r ih=>
  intro d
  cases d with
  | nil=>rfl
  | cons x d=>
   have h:=ih d
   rw [QpU]
   cases e:QpU r d with
   | some e'=>
    rw [e]at h
    simp only [Qbl,h];rfl
   | none=>
    rw [e]at h
    simp only at h
    simp only [Qbl,h,List.map_nil,Qoe]
    by_cases c:x+1<s
    ·rw [if_pos c]
     rw [show(s-(x+1)).toNat=(s-(x+1+1)).toNat+1 by omega,upL,Qjy]
     have:(binds r).map (fun z=>(x+1)::z)=((x+1)::Qi8 r)::(Qbl r (Qi8 r)).map ((x+1)::·):=by rw [Qsv r];rfl
     rw [this];rfl
    rw [if_neg c,show(s-(x+1)).toNat=0 by omega];rfl
theorem QvA : ∀l d:List Int,(∀(j:Nat) x s,d[j]? = some x->l[j]? = some s->¬x+1<s)->QpU l d=none:=by
 intro l
 induction l with
 | nil=>intro d _;cases d<;>rfl
 | cons s r ih=>
  intro d h
  cases d with
  | nil=>rfl
  | cons x d=>
   rw [QpU,ih d fun j y z h1 h2=>h (j+1) y z (by simpa using h1) (by simpa using h2)]
   simp only
   rw [if_neg (h 0 x s rfl rfl)]
theorem QBx : ∀(k:Nat) (l d:List Int) (x s:Int),l.length=d.length->d[k]? = some x->l[k]? = some s->x+1<s->(∀(j:Nat) y z,k<j->d[j]? = some y->l[j]? = some z->¬y+1<z)->
  QpU l d=some (d.take k++(x+1)::List.replicate (d.length-(k+1)) 0):=by
 intro k
 induction k with
 | zero=>
  intro l d x s hl hd hs hlt ha
  cases l with
  | nil=>cases hs
  | cons s' r=>
   cases d with
   | nil=>cases hd
   | cons x' d=>
    simp only [List.getElem?_cons_zero,Option.some.injEq]at hd hs
    subst hd;subst hs
    rw [QpU,QvA r d fun j y z h1 h2=>ha (j+1) y z (by omega) (by simpa using h1) (by simpa using h2)]
    simp only
    rw [if_pos hlt]
    simp only [Qfg]at hl
    simp [Qi8];omega
 | succ k ih=>
  intro l d x s hl hd hs hlt ha
  cases l with
  | nil=>cases hs
  | cons s' r=>
   cases d with
   | nil=>cases hd
   | cons x' d=>
    simp only [Qtj]at hd hs
    simp only [Qfg,Nat.add_right_cancel_iff]at hl
    rw [QpU,ih r d x s hl hd hs hlt fun j y z h0 h1 h2=>ha (j+1) y z (by omega) (by simpa using h1) (by simpa using h2)]
    simp
def inB : List Int->List Int->Prop
 | [],[]=>True
 | s::r,x::d=>0<=x/\(x=0\/x<s)/\inB r d
 | _,_=>False
theorem QEE {y x:Int}{k:Nat}:y∈upL x k↔x<=y/\y<x+k:=by
 induction k generalizing x with
 | zero=>
  simp only [upL,List.not_mem_nil,false_iff];omega
 | succ k ih=>simp only [upL,Qbm,ih];omega
theorem QDa {l d:List Int}:d∈binds l↔inB l d:=by
 induction l generalizing d with
 | nil=>cases d<;>simp [binds,inB]
 | cons s r ih=>
  cases d with
  | nil=>simp [binds,inB]
  | cons x d=>
   simp only [binds,List.mem_flatMap,Qbm,QEE,QbF,List.cons.injEq,inB,<-ih]
   constructor
   ·rintro ⟨y,h1,e,h2,rfl,rfl⟩
    exact⟨by omega,by omega,h2⟩
   rintro ⟨h1,h2,h3⟩
   exact⟨x,by omega,d,h3,rfl,rfl⟩
section
variable {α:Type}
def adv (most:Nat)(acc X:List α):List α⊕List α:=if (acc++X).length<most then .inr (acc++X)else .inl ((acc++X).take most)
theorem QmT {most:Nat}{acc:List α}(h:acc.length<most):adv most acc []=.inr acc:=by
 unfold adv
 rw [List.append_nil,if_pos h]
theorem QD7 {most:Nat}{acc X:List α}(h:acc.length=most):adv most acc X=.inl acc:=by
 unfold adv
 rw [if_neg (by simp;omega)]
 subst h
 rw [List.take_left]
theorem QD8 {most:Nat}{acc X:List α}{x:α}:adv most acc (x::X)=adv most (acc++[x]) X:=by
 unfold adv
 rw [Qgl];rfl
theorem Qwc {most:Nat}{acc X Y:List α}:adv most acc (X++Y)=match adv most acc X with
  | .inl a=>.inl a
  | .inr a=>adv most a Y:=by
 unfold adv
 by_cases c:(acc++X).length<most
 ·rw [if_pos c]
  simp only [Qgl]
 rw [if_neg c,if_neg (by simp at c ⊢;omega),<-Qgl,Qtl (by omega)]
theorem Qyt {most:Nat}{acc X a:List α}(h:adv most acc X=.inr a):a.length<most:=by
 unfold adv at h
 split at h
 ·cases h;assumption
 cases h
theorem Qwd {most:Nat}{acc X a:List α}(h:adv most acc X=.inr a):a=acc++X:=by
 unfold adv at h
 split at h
 ·cases h;rfl
 cases h
theorem QAN {most:Nat}{X:List α}(h:0<most):(match adv most [] X with | .inl a=>a | .inr a=>a)=X.take most:=by
 unfold adv
 rw [Qoe]
 by_cases c:X.length<most
 ·rw [if_pos c];simp only;rw [Qip (by omega)]
 rw [if_neg c]
end
end Go.Vm
noncomputable section
namespace Go.Proofs
open Go Go.RowKit Go.Vm
inductive QcO : Qk->Prop where
 | mk (e:Qk):e.Kids.length<=maxLen->(∀k∈e.Kids,QcO k)->QcO e
theorem QcZ {e:Qk}(h:QcO e):QJ QcO e.Kids:=by
 cases h with
 | mk _ h1 h2=>exact⟨h1,h2⟩
theorem QoL {e k:Qk}(h:k∈e.Kids):SizeOf.sizeOf k<SizeOf.sizeOf e:=by
 obtain⟨a,b,l⟩:=e
 have:=List.sizeOf_lt_of_mem h
 simp only [Qk.mk.sizeOf_spec]at *
 omega
theorem Qk.pos (e:Qk):0<SizeOf.sizeOf e:=by
 obtain⟨a,b,l⟩:=e
 simp only [Qk.mk.sizeOf_spec];omega
inductive POk (v:Int):Qk->Prop where
 | mk (e:Qk):(e.Kind=1\/e.Kind=2\/e.Kind=3\/e.Kind=4\/e.Kind=5\/e.Kind=6)->(e.Kind=2->0<=e.Num/\e.Num<v)->(e.Kind=3\/e.Kind=4->e.Kids.length=1)->(e.Kind=5->e.Kids.length=2)->(e.Kind=6->e.Kids.length=3)->(∀k∈e.Kids,POk v k)->POk v e
def Qa3 (x:QF):Prop:=Qfn x.Name/\True/\True/\True/\(QJ Qfn) x.Names/\True/\True
def Qdk (x:QZ):Prop:=Qfn x.Name/\True/\(QJ (fun _=>True)) x.First
def QeO (x:Qau):Prop:=Qfn x.Name/\True
def Qi9 (x:Qas):Prop:=True/\QcO x.Expr
def QaM (x:QG):Prop:=Qfn x.Name/\(QJ QeO) x.Vars/\QcO x.Guard/\True/\True/\(QJ Qi9) x.Ins/\(QJ Qi9) x.Outs/\(QJ (fun _=>True)) x.Cancel/\True/\True
def QY (x:Qq):Prop:=(QJ Qa3) x.Colours/\(QJ Qdk) x.Places/\(QJ QaM) x.Tasks/\True/\True
def Qz5 (x:Qax):Prop:=(QJ Qa3) x.all/\(QJ (fun _=>True)) x.sizes/\True
theorem Qyu (v1:Qq)(h_v1:QY v1):Qj (Qmg v1) fun r=>True:=by
 unfold Qmg
 exact T3
theorem QcI (l1:(List QZ))(k2:Int)(h_l1:(QJ Qdk) l1):Qj (QaT l1 k2) fun r=>r=true->0<=k2/\k2<l1.length:=by
 unfold QaT
 exact T2 (by first | (intro hr;first | (cases hr;done) | omega | ((try simp only [QA,Qcz,QcP,Qfd,Qio,QN,Qah,beq_iff_eq,bne_iff_ne,ne_eq,Qjx,Qro,QcQ,Qjz,QkU,Qmc,Qe0,Qfg,Qly,Qlz,QlA]at *);omega)) | ((try simp only [QA,Qcz,QcP,Qfd,Qio,QN,Qah,beq_iff_eq,bne_iff_ne,ne_eq,Qjx,Qro,QcQ,Qjz,QkU,Qmc,Qe0,Qfg,Qly,Qlz,QlA]at *);omega) | simp_all)
theorem Qyv (v1:Qq)(h_v1:QY v1):Qj (Qmh v1) fun r=>True:=by
 unfold Qmh
 refine T0 (P:=fun _=>True) ?_ (fun x_1 hv2=>?_)
 ·unfold Qqp
  refine T0 (QcI v1.Places v1.From (h_v1.2.1)) (fun x_3 hv4=>?_)
  refine T1 (fun hc5=>?_) (fun hc5=>?_)
  ·refine T0 (QcI v1.Places v1.To (h_v1.2.1)) (fun x_6 hv7=>?_)
   exact T3
  exact T3
 unfold Qiy
 exact T3
theorem Qyw (v1:Qq)(h_v1:QY v1):Qj (Qmi v1) fun r=>True:=by
 unfold Qmi
 exact T3
theorem Qyx (v1:Qq)(v2:Int)(v3:Int)(v4:Int)(h_v1:QY v1):Qj (Qmj v1 v2 v3 v4) fun r=>True:=by
 unfold Qmj
 refine T0 (Qyu v1 (h_v1)) (fun x_1 hv2=>?_)
 refine T1 (fun hc3=>?_) (fun hc3=>?_)
 ·exact T3
 refine T0 (Qyv v1 (h_v1)) (fun x_4 hv5=>?_)
 refine T1 (fun hc6=>?_) (fun hc6=>?_)
 ·exact T3
 refine T0 (Qyw v1 (h_v1)) (fun x_7 hv8=>?_)
 refine T1 (fun hc9=>?_) (fun hc9=>?_)
 ·exact T3
 exact T3
theorem Qyy (lo1:Int)(hi2:Int)  : Qj (QgL lo1 hi2) fun r=>True:=by
 unfold QgL
 refine T1 (fun hc1=>?_) (fun hc1=>?_)
 ·exact T3
 exact T3
theorem QpB (c1:Int)  : Qj (Qed c1) fun r=>True:=by
 unfold Qed
 exact T3
theorem Qhc (s1:ByteArray)(h_s1:Qfn s1):Qj (QdA s1) fun r=>True:=by
 unfold QdA
 refine T0 (P:=fun _=>True) ?_ (fun x_1 hv2=>?_)
 ·unfold Qit
  refine T1 (fun hc3=>?_) (fun hc3=>?_)
  ·exact T3
  have hshc3:=QC5 hc3
  refine T1 (fun hc4=>?_) (fun hc4=>?_)
  ·exact T3
  refine T0 (Qj.sidx (by omega) (by omega)) (fun c_5 hv6=>?_)
  refine T0 (QpB c_5 ) (fun x_7 hv8=>?_)
  exact T3
 unfold Qf5
 refine T1 (fun hc9=>?_) (fun hc9=>?_)
 ·exact T3
 refine T0 (Qj.up (s1.size) (fun st=>st) (fun _=>True) (Q:=fun q=>True) rfl trivial (fun i11 st hi12 hn13 hj14=>?_)) (fun q15 hq16=>?_)
 ·obtain⟨x_10,hst⟩:∃y,y=st:=⟨_,rfl⟩
  subst hst
  replace hi12:x_10=(i11:Int):=hi12
  show Qj (QdI s1 x_10) _
  unfold QdI
  refine T1 (fun hc17=>?_) (fun hc17=>?_)
  ·refine T0 (Qj.sidx (by omega) (by simp_all)) (fun c_18 hv19=>?_)
   refine T0 (P:=fun _=>True) ?_ (fun x_20 hv21=>?_)
   ·unfold QmC
    refine T0 (QpB c_18 ) (fun x_22 hv23=>?_)
    refine T1 (fun hc24=>?_) (fun hc24=>?_)
    ·refine T1 (fun hc25=>?_) (fun hc25=>?_)
     ·exact T3
     refine T1 (fun hc26=>?_) (fun hc26=>?_)
     ·exact T3
     exact T3
    exact T3
   unfold Qf4
   refine T1 (fun hc27=>?_) (fun hc27=>?_)
   ·exact T2 (Qt trivial)
   exact T2 (QL ⟨(by simp_all),by subst hi12;exact Qx (by simp_all) h_s1,trivial⟩)
  exact T2 (Qt trivial)
 rcases q15 with q15 | q15
 ·show Qj (Qiu) _
  unfold Qiu
  exact T3
 show Qj (Qiv) _
 unfold Qiv
 exact T3
theorem Qxy (l1:(List ByteArray))(h_l1:(QJ Qfn) l1):Qj (QfQ l1) fun r=>True:=by
 unfold QfQ
 refine T0 (Qj.up (l1.length) (fun st=>st.1) (fun _=>True) (Q:=fun q=>True) rfl trivial (fun i3 st hi4 hn5 hj6=>?_)) (fun q7 hq8=>?_)
 ·obtain⟨x_1,m_2⟩:=st
  replace hi4:x_1=(i3:Int):=hi4
  show Qj (Qcu l1 x_1 m_2) _
  unfold Qcu
  refine T1 (fun hc9=>?_) (fun hc9=>?_)
  ·refine T0 (T4 (by omega) (by simp_all)) (fun e_10 hv11=>?_)
   refine T0 (P:=fun _=>True) ?_ (fun x_12 hv13=>?_)
   ·unfold QlG
    refine T0 (Qhc e_10 (((h_l1).2 e_10 hv11))) (fun x_14 hv15=>?_)
    refine T1 (fun hc16=>?_) (fun hc16=>?_)
    ·exact T3
    exact T3
   unfold Qfw
   refine T1 (fun hc17=>?_) (fun hc17=>?_)
   ·exact T2 (Qt trivial)
   exact T2 (QL ⟨(by simp_all),by subst hi4;exact Qx (by simp_all) (h_l1).1,trivial⟩)
  exact T2 (Qt trivial)
 rcases q7 with q7 | q7
 ·show Qj (Qhz) _
  unfold Qhz
  exact T3
 show Qj (QhA) _
 unfold QhA
 exact T3
theorem Qyz (c1:QF)(ahead2:(List Int))(h_c1:Qa3 c1)(h_ahead2:(QJ (fun _=>True)) ahead2):Qj (QgM c1 ahead2) fun r=>True:=by
 unfold QgM
 refine T1 (fun hc1=>?_) (fun hc1=>?_)
 ·refine T0 (Qyy c1.Lo c1.Hi ) (fun x_2 hv3=>?_)
  exact T3
 refine T1 (fun hc4=>?_) (fun hc4=>?_)
 ·refine T0 (Qxy c1.Names (h_c1.2.2.2.2.1)) (fun x_5 hv6=>?_)
  refine T1 (fun hc7=>?_) (fun hc7=>?_)
  ·exact T3
  unfold QdJ
  exact T3
 refine T1 (fun hc8=>?_) (fun hc8=>?_)
 ·refine T1 (fun hc9=>?_) (fun hc9=>?_)
  ·refine T0 (T4 (by(try simp only [QA,Qcz,QcP,Qfd,Qio,QN,Qah,beq_iff_eq,bne_iff_ne,ne_eq,Qjx,Qro,QcQ,Qjz,QkU,Qmc,Qe0,Qfg,Qly,Qlz,QlA]at *);omega) (by(try simp only [QA,Qcz,QcP,Qfd,Qio,QN,Qah,beq_iff_eq,bne_iff_ne,ne_eq,Qjx,Qro,QcQ,Qjz,QkU,Qmc,Qe0,Qfg,Qly,Qlz,QlA]at *);omega)) (fun e_10 hv11=>?_)
   refine T0 (T4 (by(try simp only [QA,Qcz,QcP,Qfd,Qio,QN,Qah,beq_iff_eq,bne_iff_ne,ne_eq,Qjx,Qro,QcQ,Qjz,QkU,Qmc,Qe0,Qfg,Qly,Qlz,QlA]at *);omega) (by(try simp only [QA,Qcz,QcP,Qfd,Qio,QN,Qah,beq_iff_eq,bne_iff_ne,ne_eq,Qjx,Qro,QcQ,Qjz,QkU,Qmc,Qe0,Qfg,Qly,Qlz,QlA]at *);omega)) (fun e_12 hv13=>?_)
   exact T3
  unfold QdJ
  exact T3
 unfold QdJ
 exact T3
theorem Qq5 (l1:(List QF))(h_l1:(QJ Qa3) l1):Qj (QeP l1) fun r=>((QJ (fun _=>True)) r.1/\True)/\(r.2=true->r.1.length=l1.length/\∀x∈r.1,1<=x/\x<=1024):=by
 unfold QeP
 refine T1 (fun hc=>T2 ⟨⟨QJ.nil,trivial⟩,fun h=>by cases h⟩) (fun hc=>?_)
 have hl:l1.length<=32:=by simp only [Qah]at hc;omega
 refine T0 (Qj.up l1.length (fun st=>st.1) (fun st=>(st.2.2.length:Int)=st.1/\∀x∈st.2.2,1<=x/\x<=1024) (Q:=fun q=>∀l,q=.inr l->l.length=l1.length/\∀x∈l,1<=x/\x<=1024) rfl ⟨rfl,fun x h=>(by cases h)⟩ (fun i st hi hn hj=>?_)) (fun q hq=>?_)
 ·obtain⟨x,m,l⟩:=st
  replace hi:x=(i:Int):=hi
  replace hj:(l.length:Int)=x/\∀x∈l,1<=x/\x<=1024:=hj
  obtain⟨hj,hj2⟩:=hj
  show Qj (Qcv l1 x m l) _
  unfold Qcv
  refine T1 (fun hc2=>?_) (fun hc2=>?_)
  ·simp only [QN]at hc2
   refine T0 (T4 (by omega) (by omega)) fun e he=>?_
   refine T0 (Qyz e l (h_l1.2 e he) ⟨by unfold maxLen;omega,fun _ _=>trivial⟩) fun y _=>?_
   refine T0 (P:=fun z=>z=false->1<=y/\y<=1024) ?_ fun z hz=>?_
   ·unfold QlH
    refine T0 (Qhc e.Name (h_l1.2 e he).1) fun z _=>?_
    refine T1 (fun _=>T2 (fun h=>by cases h)) fun _=>T1 (fun _=>T2 (fun h=>by cases h)) fun _=>T1 (fun _=>T2 (fun h=>by cases h)) fun h1=>T2 fun h2=>?_
    simp only [Qah]at h1 h2
    omega
   unfold Qfx
   refine T1 (fun _=>T2 (Qt fun l h=>by cases h)) fun hz0=>?_
   refine T0 (T5 (by simp;omega)) fun _ _=>?_
   exact T2 (QL ⟨by omega,by subst hi;exact Qx (by omega) (by unfold maxLen;omega:l1.length<=maxLen),by simp only [QcQ,Qjz];subst hi;rw [Qx (show i<l1.length by omega) (by unfold maxLen;omega)];omega,fun u hu=>by
    rcases Qcm.1 hu with hu | hu
    ·exact hj2 u hu
    simp at hu;subst hu;exact hz hz0⟩)
  simp only [Qah]at hc2
  exact T2 (Qt fun l' h=>by cases h;exact⟨by omega,hj2⟩)
 rcases q with q | q
 ·exact T2 ⟨⟨QJ.nil,trivial⟩,fun h=>by cases h⟩
 have:=hq q rfl
 exact T2 ⟨⟨⟨by show q.length<=maxLen;unfold maxLen;omega,fun _ _=>trivial⟩,trivial⟩,fun _=>this⟩
theorem Qxz (l1:(List QF))(h_l1:(QJ Qa3) l1):Qj (Qlg l1) fun r=>True:=by
 unfold Qlg
 refine T0 (Qq5 l1 (h_l1)) (fun x_1 hv2=>?_)
 exact T3
theorem Qs5 (v1:Qq)(v2:Int)(h_v1:QY v1)(hp0:0<=v2)(hp1:v2<v1.Colours.length):Qj (Qgq v1 v2) fun r=>True:=by
 have hl:=h_v1.1.1
 unfold maxLen at hl
 unfold Qgq
 rw [Q4 (show -9223372036854775808<=v2+1/\v2+1<=9223372036854775807 by omega)]
 refine T0 (T5 (by simp only [QA,QN];omega)) fun _ _=>?_
 exact T0 (Qxz _ ((h_v1.1.drop _).take _)) fun x _=>T3
def QyA : List ByteArray:=(Qi1).getD []
set_option maxRecDepth 100000 in
theorem QD9 : Qi1=some QyA:=by kernel_rfl
set_option maxRecDepth 100000 in
theorem QBo : (decide (QyA.length<=1000)&&QyA.all fun s=>decide (s.size<=1000))=true:=by kernel_rfl
theorem QyB : Qj (Qi1) fun r=>QJ Qfn r:=by
 have h:=QBo
 rw [QA,decide_eq_true_iff,Qad]at h
 refine⟨QyA,QD9,by unfold maxLen;omega,fun x hx=>?_⟩
 have:=h.2 x hx
 rw [decide_eq_true_iff]at this
 unfold Qfn maxLen;omega
theorem QnF (s1:(List ByteArray))(v2:ByteArray)(h_s1:(QJ Qfn) s1)(h_v2:Qfn v2):Qj (Qdc s1 v2) fun r=>True:=by
 unfold Qdc
 refine T0 (Qj.up (s1.length) (fun st=>st) (fun _=>True) (Q:=fun q=>True) rfl trivial (fun i2 st hi3 hn4 hj5=>?_)) (fun q6 hq7=>?_)
 ·obtain⟨x_1,hst⟩:∃y,y=st:=⟨_,rfl⟩
  subst hst
  replace hi3:x_1=(i2:Int):=hi3
  show Qj (Qcn s1 v2 x_1) _
  unfold Qcn
  refine T1 (fun hc8=>?_) (fun hc8=>?_)
  ·refine T0 (T4 (by omega) (by simp_all)) (fun e_9 hv10=>?_)
   refine T1 (fun hc11=>?_) (fun hc11=>?_)
   ·exact T2 (Qt trivial)
   exact T2 (QL ⟨(by simp_all),by subst hi3;exact Qx (by simp_all) (h_s1).1,trivial⟩)
  exact T2 (Qt trivial)
 rcases q6 with q6 | q6
 ·show Qj (Qco q6) _
  unfold Qco
  exact T3
 show Qj (Qcp) _
 unfold Qcp
 exact T3
theorem Ql8 (s1:(List ByteArray))(v2:ByteArray)(h_s1:(QJ Qfn) s1)(h_v2:Qfn v2):Qj (Qcq s1 v2) fun r=>True:=by
 unfold Qcq
 refine T0 (QnF s1 v2 (h_s1) (h_v2)) (fun x_1 hv2=>?_)
 exact T3
theorem Qzo (s1:ByteArray)(h_s1:Qfn s1):Qj (Qnt s1) fun r=>True:=by
 unfold Qnt
 refine T0 (QyB  ) (fun x_1 hv2=>?_)
 refine T0 (Ql8 x_1 s1 (hv2) (h_s1)) (fun x_3 hv4=>?_)
 exact T3
theorem Qie (s1:ByteArray)(h_s1:Qfn s1):Qj (Qfa s1) fun r=>True:=by
 unfold Qfa
 refine T0 (P:=fun _=>True) ?_ (fun x_1 hv2=>?_)
 ·unfold QrL
  refine T0 (Qhc s1 (h_s1)) (fun x_3 hv4=>?_)
  refine T1 (fun hc5=>?_) (fun hc5=>?_)
  ·refine T0 (Qzo s1 (h_s1)) (fun x_6 hv7=>?_)
   exact T3
  exact T3
 unfold QjR
 exact T3
theorem Qri (s1:ByteArray)(h_s1:Qfn s1):Qj (Qfh s1) fun r=>True:=by
 unfold Qfh
 refine T0 (Qie s1 (h_s1)) (fun x_1 hv2=>?_)
 exact T3
theorem QlN (s1:(List ByteArray))(h_s1:(QJ Qfn) s1):Qj (Qcg s1) fun r=>True:=by
 unfold Qcg
 refine T0 (Qj.up (s1.length) (fun st=>st) (fun _=>True) (Q:=fun q=>True) rfl trivial (fun i2 st hi3 hn4 hj5=>?_)) (fun q6 hq7=>?_)
 ·obtain⟨x_1,hst⟩:∃y,y=st:=⟨_,rfl⟩
  subst hst
  replace hi3:x_1=(i2:Int):=hi3
  show Qj (QbI s1 x_1) _
  unfold QbI
  refine T1 (fun hc8=>?_) (fun hc8=>?_)
  ·refine T0 (T4 (by omega) (by simp_all)) (fun e_9 hv10=>?_)
   refine T0 (Qri e_9 (((h_s1).2 e_9 hv10))) (fun x_11 hv12=>?_)
   refine T1 (fun hc13=>?_) (fun hc13=>?_)
   ·exact T2 (Qt trivial)
   exact T2 (QL ⟨(by simp_all),by subst hi3;exact Qx (by simp_all) (h_s1).1,trivial⟩)
  exact T2 (Qt trivial)
 rcases q6 with q6 | q6
 ·show Qj (QbJ q6) _
  unfold QbJ
  exact T3
 show Qj (QbK) _
 unfold QbK
 exact T3
theorem Qkl (s1:(List ByteArray))(h_s1:(QJ Qfn) s1):Qj (QbL s1) fun r=>True:=by
 unfold QbL
 refine T0 (QlN s1 (h_s1)) (fun x_1 hv2=>?_)
 exact T3
theorem Qs6 (v1:QF)(h_v1:Qa3 v1):Qj (Qgr v1) fun r=>True:=by
 unfold Qgr
 refine T0 (P:=fun _=>True) ?_ (fun x_1 hv2=>?_)
 ·unfold Ql4
  refine T0 (Qie v1.Name (h_v1.1)) (fun x_3 hv4=>?_)
  refine T1 (fun hc5=>?_) (fun hc5=>?_)
  ·refine T1 (fun hc6=>?_) (fun hc6=>?_)
   ·exact T3
   refine T0 (Qkl v1.Names (h_v1.2.2.2.2.1)) (fun x_7 hv8=>?_)
   exact T3
  exact T3
 unfold Qe2
 exact T3
theorem QvB (v1:Qq)(v2:Int)(v3:Int)(v4:QF)(v5:Int)(h_v1:QY v1)(h_v4:Qa3 v4)(hp0:0<=v2)(hp1:v2<v1.Colours.length):Qj (Qiz v1 v2 v3 v4 v5) fun r=>True:=by
 unfold Qiz
 refine T0 (Qs5 v1 v2 (h_v1) (by omega) (by omega)) (fun x_1 hv2=>?_)
 refine T1 (fun hc3=>?_) (fun hc3=>?_)
 ·exact T3
 refine T0 (Qs6 v4 (h_v4)) (fun x_4 hv5=>?_)
 refine T1 (fun hc6=>?_) (fun hc6=>?_)
 ·exact T3
 exact T3
theorem QuO (k1:Int)(c2:QF)(v3:Qq)(h_c2:Qa3 c2)(h_v3:QY v3)(hp0:0<=k1)(hp1:k1<v3.Colours.length):Qj (QhC k1 c2 v3) fun r=>True:=by
 unfold QhC
 refine T0 (QvB v3 k1 8 c2 8 (h_v3) (h_c2) (by omega) (by omega)) (fun x_1 hv2=>?_)
 exact T3
theorem QpV (l1:(List QF))(v2:Qq)(h_l1:(QJ Qa3) l1)(h_v2:QY v2)(hp0:l1.length<=v2.Colours.length):Qj (QeE l1 v2) fun r=>True:=by
 unfold QeE
 refine T0 (Qj.up (l1.length) (fun st=>st) (fun _=>True) (Q:=fun q=>True) rfl trivial (fun i2 st hi3 hn4 hj5=>?_)) (fun q6 hq7=>?_)
 ·obtain⟨x_1,hst⟩:∃y,y=st:=⟨_,rfl⟩
  subst hst
  replace hi3:x_1=(i2:Int):=hi3
  show Qj (QdE l1 v2 x_1) _
  unfold QdE
  refine T1 (fun hc8=>?_) (fun hc8=>?_)
  ·refine T0 (T4 (by omega) (by simp_all)) (fun e_9 hv10=>?_)
   refine T0 (QuO x_1 e_9 v2 (((h_l1).2 e_9 hv10)) (h_v2) (by omega) (by simp_all;omega)) (fun x_11 hv12=>?_)
   refine T1 (fun hc13=>?_) (fun hc13=>?_)
   ·exact T2 (Qt trivial)
   exact T2 (QL ⟨(by simp_all),by subst hi3;exact Qx (by simp_all) (h_l1).1,trivial⟩)
  exact T2 (Qt trivial)
 rcases q6 with q6 | q6
 ·show Qj (QdF q6.1 q6.2) _
  unfold QdF
  exact T3
 show Qj (QdG) _
 unfold QdG
 exact T3
theorem QpC (n1:Qq)(h_n1:QY n1):Qj (Qg1 n1) fun r=>True:=by
 unfold Qg1
 refine T0 (QpV n1.Colours n1 (h_n1.1) (h_n1) (by omega)) (fun x_1 hv2=>?_)
 exact T3
theorem QwA (v1:QZ)(h_v1:Qdk v1):Qj (QjS v1) fun r=>True:=by
 unfold QjS
 refine T0 (Qie v1.Name (h_v1.1)) (fun x_1 hv2=>?_)
 exact T3
theorem QwB (p1:QZ)(v2:QZ)(h_p1:Qdk p1)(h_v2:Qdk v2):Qj (QjT p1 v2) fun r=>True:=by
 unfold QjT
 exact T3
theorem QiV (s1:(List QZ))(v2:QZ)(h_s1:(QJ Qdk) s1)(h_v2:Qdk v2):Qj (Qbh s1 v2) fun r=>True:=by
 unfold Qbh
 refine T0 (Qj.up (s1.length) (fun st=>st) (fun _=>True) (Q:=fun q=>True) rfl trivial (fun i2 st hi3 hn4 hj5=>?_)) (fun q6 hq7=>?_)
 ·obtain⟨x_1,hst⟩:∃y,y=st:=⟨_,rfl⟩
  subst hst
  replace hi3:x_1=(i2:Int):=hi3
  show Qj (QaU s1 v2 x_1) _
  unfold QaU
  refine T1 (fun hc8=>?_) (fun hc8=>?_)
  ·refine T0 (T4 (by omega) (by simp_all)) (fun e_9 hv10=>?_)
   refine T0 (QwB e_9 v2 (((h_s1).2 e_9 hv10)) (h_v2)) (fun x_11 hv12=>?_)
   refine T1 (fun hc13=>?_) (fun hc13=>?_)
   ·exact T2 (Qt trivial)
   exact T2 (QL ⟨(by simp_all),by subst hi3;exact Qx (by simp_all) (h_s1).1,trivial⟩)
  exact T2 (Qt trivial)
 rcases q6 with q6 | q6
 ·show Qj (QaV q6) _
  unfold QaV
  exact T3
 show Qj (QaW) _
 unfold QaW
 exact T3
theorem Qhr (s1:(List QZ))(v2:QZ)(h_s1:(QJ Qdk) s1)(h_v2:Qdk v2):Qj (QaX s1 v2) fun r=>True:=by
 unfold QaX
 refine T0 (QiV s1 v2 (h_s1) (h_v2)) (fun x_1 hv2=>?_)
 exact T3
theorem QwC (v1:Qq)(v2:Int)(v3:QZ)(h_v1:QY v1)(h_v3:Qdk v3)(hp0:0<=v2)(hp1:v2<v1.Places.length):Qj (QjU v1 v2 v3) fun r=>True:=by
 unfold QjU
 refine T0 (T5 (by simp_all;omega)) (fun _ _=>?_)
 refine T0 (Qhr ((v1.Places.drop 0).take (v2.toNat-0)) v3 (((h_v1.2.1).drop _).take _) (h_v3)) (fun x_1 hv2=>?_)
 exact T3
theorem Qja (l1:(List QF))(k2:Int)(h_l1:(QJ Qa3) l1):Qj (QcV l1 k2) fun r=>True:=by
 unfold QcV
 exact T3
theorem QwD (v1:Qq)(v2:QZ)(h_v1:QY v1)(h_v2:Qdk v2):Qj (QjV v1 v2) fun r=>True:=by
 unfold QjV
 refine T0 (Qja v1.Colours v2.Colour (h_v1.1)) (fun x_1 hv2=>?_)
 exact T3
theorem Qz6 (b1:(List (Int×Int)))(h_b1:(QJ (fun _=>True)) b1):Qj (Qd8 b1) fun r=>True:=by
 unfold Qd8
 refine T0 (Qj.up (b1.length) (fun st=>st.2) (fun _=>True) (Q:=fun q=>True) rfl trivial (fun i3 st hi4 hn5 hj6=>?_)) (fun q7 hq8=>?_)
 ·obtain⟨last_1,x_2⟩:=st
  replace hi4:x_2=(i3:Int):=hi4
  show Qj (Qc7 b1 last_1 x_2) _
  unfold Qc7
  refine T1 (fun hc9=>?_) (fun hc9=>?_)
  ·refine T0 (T4 (by omega) (by simp_all)) (fun e_10 hv11=>?_)
   refine T1 (fun hc12=>?_) (fun hc12=>?_)
   ·exact T2 (Qt trivial)
   exact T2 (QL ⟨(by simp_all),by subst hi4;exact Qx (by simp_all) (h_b1).1,trivial⟩)
  exact T2 (Qt trivial)
 rcases q7 with q7 | q7
 ·show Qj (Qk6) _
  unfold Qk6
  exact T3
 show Qj (Qk7) _
 unfold Qk7
 exact T3
theorem QwE (v1:QZ)(h_v1:Qdk v1):Qj (QjW v1) fun r=>True:=by
 unfold QjW
 refine T0 (Qz6 v1.First (h_v1.2.2)) (fun x_1 hv2=>?_)
 exact T3
theorem Qjb (l1:(List QF))(k2:Int)(h_l1:(QJ Qa3) l1):Qj (Qdq l1 k2) fun r=>(True/\Qz5 r.2)/\(r.1=true->(0<=k2/\k2<r.2.sizes.length)/\r.2.k=k2/\r.2.all.length=r.2.sizes.length/\∀x∈r.2.sizes,1<=x/\x<=1024):=by
 unfold Qdq
 refine T0 (Qq5 l1 h_l1) fun x hx=>?_
 refine T1 (fun _=>T2 ⟨⟨trivial,QJ.nil,QJ.nil,trivial⟩,fun h=>by cases h⟩) fun hc=>?_
 simp only [QcP,Qio,Qah]at hc
 have:=hx.2 hc.1
 exact T2 ⟨⟨trivial,h_l1,hx.1.1,trivial⟩,fun _=>⟨⟨by omega,by show k2<(x.1.length:Int);omega⟩,rfl,this.1.symm,this.2⟩⟩
theorem Qhd (l1:(List QF))(k2:Int)(h_l1:(QJ Qa3) l1):Qj (QaH l1 k2) fun r=>0<=r/\r<=1024:=by
 unfold QaH
 refine T0 (Qjb l1 k2 h_l1) (fun x hx=>?_)
 refine T1 (fun hc=>T2 (by omega)) (fun hc=>?_)
 have h:=hx.2 (by simpa using hc)
 exact T0 (T4 (by omega) (by omega)) fun e he=>T2 (by have:=h.2.2.2 e he;omega)
theorem QuP (row1:(Int×Int))(v2:Int)  : Qj (QhD row1 v2) fun r=>True:=by
 unfold QhD
 exact T3
theorem QlO (s1:(List (Int×Int)))(v2:Int)(h_s1:(QJ (fun _=>True)) s1):Qj (Qch s1 v2) fun r=>True:=by
 unfold Qch
 refine T0 (Qj.up (s1.length) (fun st=>st) (fun _=>True) (Q:=fun q=>True) rfl trivial (fun i2 st hi3 hn4 hj5=>?_)) (fun q6 hq7=>?_)
 ·obtain⟨x_1,hst⟩:∃y,y=st:=⟨_,rfl⟩
  subst hst
  replace hi3:x_1=(i2:Int):=hi3
  show Qj (QbM s1 v2 x_1) _
  unfold QbM
  refine T1 (fun hc8=>?_) (fun hc8=>?_)
  ·refine T0 (T4 (by omega) (by simp_all)) (fun e_9 hv10=>?_)
   refine T0 (QuP e_9 v2 ) (fun x_11 hv12=>?_)
   refine T1 (fun hc13=>?_) (fun hc13=>?_)
   ·exact T2 (Qt trivial)
   exact T2 (QL ⟨(by simp_all),by subst hi3;exact Qx (by simp_all) (h_s1).1,trivial⟩)
  exact T2 (Qt trivial)
 rcases q6 with q6 | q6
 ·show Qj (QbN q6) _
  unfold QbN
  exact T3
 show Qj (QbO) _
 unfold QbO
 exact T3
theorem Qkm (s1:(List (Int×Int)))(v2:Int)(h_s1:(QJ (fun _=>True)) s1):Qj (QbP s1 v2) fun r=>True:=by
 unfold QbP
 refine T0 (QlO s1 v2 (h_s1)) (fun x_1 hv2=>?_)
 exact T3
theorem QwF (v1:Qq)(v2:QZ)(h_v1:QY v1)(h_v2:Qdk v2):Qj (QjX v1 v2) fun r=>True:=by
 unfold QjX
 refine T0 (Qhd v1.Colours v2.Colour (h_v1.1)) (fun x_1 hv2=>?_)
 refine T0 (Qkm v2.First x_1 (h_v2.2.2)) (fun x_3 hv4=>?_)
 exact T3
theorem QvC (v1:QZ)(v2:Int)(v3:Qq)(v4:Int)(v5:Int)(v6:Int)(v7:Int)(v8:Int)(h_v1:Qdk v1)(h_v3:QY v3)(hp0:0<=v4)(hp1:v4<v3.Places.length):Qj (QiA v1 v2 v3 v4 v5 v6 v7 v8) fun r=>True:=by
 unfold QiA
 refine T0 (QwA v1 (h_v1)) (fun x_1 hv2=>?_)
 refine T1 (fun hc3=>?_) (fun hc3=>?_)
 ·exact T3
 refine T0 (QwC v3 v4 v1 (h_v3) (h_v1) (by omega) (by omega)) (fun x_4 hv5=>?_)
 refine T1 (fun hc6=>?_) (fun hc6=>?_)
 ·exact T3
 refine T0 (QwD v3 v1 (h_v3) (h_v1)) (fun x_7 hv8=>?_)
 refine T1 (fun hc9=>?_) (fun hc9=>?_)
 ·exact T3
 refine T0 (QwE v1 (h_v1)) (fun x_10 hv11=>?_)
 refine T1 (fun hc12=>?_) (fun hc12=>?_)
 ·exact T3
 refine T0 (QwF v3 v1 (h_v3) (h_v1)) (fun x_13 hv14=>?_)
 refine T1 (fun hc15=>?_) (fun hc15=>?_)
 ·exact T3
 exact T3
theorem QyC (n1:Qq)(k2:Int)(h_n1:QY n1):Qj (Qmk n1 k2) fun r=>True:=by
 unfold Qmk
 refine T0 (QcI n1.Places k2 (h_n1.2.1)) (fun x_1 hv2=>?_)
 refine T1 (fun hc3=>?_) (fun hc3=>?_)
 ·exact T3
 refine T0 (T4 (by simp_all) (by simp_all)) (fun e_4 hv5=>?_)
 refine T0 (QvC e_4 1 n1 k2 5 3 1 8 (((h_n1.2.1).2 e_4 hv5)) (h_n1) (by simp_all) (by simp_all)) (fun x_6 hv7=>?_)
 exact T3
theorem QyD (k1:Int)(p2:QZ)(v3:Qq)(h_p2:Qdk p2)(h_v3:QY v3):Qj (Qml k1 p2 v3) fun r=>True:=by
 unfold Qml
 refine T0 (QyC v3 k1 (h_v3)) (fun x_1 hv2=>?_)
 exact T3
theorem Qq6 (l1:(List QZ))(v2:Qq)(h_l1:(QJ Qdk) l1)(h_v2:QY v2):Qj (Qe3 l1 v2) fun r=>True:=by
 unfold Qe3
 refine T0 (Qj.up (l1.length) (fun st=>st) (fun _=>True) (Q:=fun q=>True) rfl trivial (fun i2 st hi3 hn4 hj5=>?_)) (fun q6 hq7=>?_)
 ·obtain⟨x_1,hst⟩:∃y,y=st:=⟨_,rfl⟩
  subst hst
  replace hi3:x_1=(i2:Int):=hi3
  show Qj (Qd3 l1 v2 x_1) _
  unfold Qd3
  refine T1 (fun hc8=>?_) (fun hc8=>?_)
  ·refine T0 (T4 (by omega) (by simp_all)) (fun e_9 hv10=>?_)
   refine T0 (QyD x_1 e_9 v2 (((h_l1).2 e_9 hv10)) (h_v2)) (fun x_11 hv12=>?_)
   refine T1 (fun hc13=>?_) (fun hc13=>?_)
   ·exact T2 (Qt trivial)
   exact T2 (QL ⟨(by simp_all),by subst hi3;exact Qx (by simp_all) (h_l1).1,trivial⟩)
  exact T2 (Qt trivial)
 rcases q6 with q6 | q6
 ·show Qj (Qd4 q6.1 q6.2) _
  unfold Qd4
  exact T3
 show Qj (Qd5) _
 unfold Qd5
 exact T3
theorem QkN (l1:(List QG))(k2:Int)(h_l1:(QJ QaM) l1):Qj (Qdw l1 k2) fun r=>r=true->0<=k2/\k2<l1.length:=by
 unfold Qdw
 exact T2 (by first | (intro hr;first | (cases hr;done) | omega | ((try simp only [QA,Qcz,QcP,Qfd,Qio,QN,Qah,beq_iff_eq,bne_iff_ne,ne_eq,Qjx,Qro,QcQ,Qjz,QkU,Qmc,Qe0,Qfg,Qly,Qlz,QlA]at *);omega)) | ((try simp only [QA,Qcz,QcP,Qfd,Qio,QN,Qah,beq_iff_eq,bne_iff_ne,ne_eq,Qjx,Qro,QcQ,Qjz,QkU,Qmc,Qe0,Qfg,Qly,Qlz,QlA]at *);omega) | simp_all)
theorem QyE (v1:Int)(v2:Qq)(v3:QG)(h_v2:QY v2)(h_v3:QaM v3):Qj (Qmm v1 v2 v3) fun r=>True:=by
 unfold Qmm
 exact T3
theorem QvD (v1:Int)(v2:Qq)(v3:QG)(v4:Int)(h_v2:QY v2)(h_v3:QaM v3):Qj (QiB v1 v2 v3 v4) fun r=>True:=by
 unfold QiB
 exact T3
theorem QvE (v1:Int)(v2:Qq)(v3:QG)(v4:Int)(h_v2:QY v2)(h_v3:QaM v3):Qj (QiC v1 v2 v3 v4) fun r=>True:=by
 unfold QiC
 exact T3
theorem QvF (v1:Int)(v2:Qq)(v3:QG)(h_v2:QY v2)(h_v3:QaM v3):Qj (QiD v1 v2 v3) fun r=>True:=by
 unfold QiD
 exact T3
theorem QxA (v1:QG)(h_v1:QaM v1):Qj (Qlj v1) fun r=>True:=by
 unfold Qlj
 refine T0 (Qie v1.Name (h_v1.1)) (fun x_1 hv2=>?_)
 exact T3
theorem QxB (p1:QG)(v2:QG)(h_p1:QaM p1)(h_v2:QaM v2):Qj (Qlk p1 v2) fun r=>True:=by
 unfold Qlk
 exact T3
theorem Qjv (s1:(List QG))(v2:QG)(h_s1:(QJ QaM) s1)(h_v2:QaM v2):Qj (QbC s1 v2) fun r=>True:=by
 unfold QbC
 refine T0 (Qj.up (s1.length) (fun st=>st) (fun _=>True) (Q:=fun q=>True) rfl trivial (fun i2 st hi3 hn4 hj5=>?_)) (fun q6 hq7=>?_)
 ·obtain⟨x_1,hst⟩:∃y,y=st:=⟨_,rfl⟩
  subst hst
  replace hi3:x_1=(i2:Int):=hi3
  show Qj (Qa4 s1 v2 x_1) _
  unfold Qa4
  refine T1 (fun hc8=>?_) (fun hc8=>?_)
  ·refine T0 (T4 (by omega) (by simp_all)) (fun e_9 hv10=>?_)
   refine T0 (QxB e_9 v2 (((h_s1).2 e_9 hv10)) (h_v2)) (fun x_11 hv12=>?_)
   refine T1 (fun hc13=>?_) (fun hc13=>?_)
   ·exact T2 (Qt trivial)
   exact T2 (QL ⟨(by simp_all),by subst hi3;exact Qx (by simp_all) (h_s1).1,trivial⟩)
  exact T2 (Qt trivial)
 rcases q6 with q6 | q6
 ·show Qj (Qa5 q6) _
  unfold Qa5
  exact T3
 show Qj (Qa6) _
 unfold Qa6
 exact T3
theorem Qih (s1:(List QG))(v2:QG)(h_s1:(QJ QaM) s1)(h_v2:QaM v2):Qj (Qa7 s1 v2) fun r=>True:=by
 unfold Qa7
 refine T0 (Qjv s1 v2 (h_s1) (h_v2)) (fun x_1 hv2=>?_)
 exact T3
theorem QxC (v1:Qq)(v2:Int)(v3:QG)(h_v1:QY v1)(h_v3:QaM v3)(hp0:0<=v2)(hp1:v2<v1.Tasks.length):Qj (Qll v1 v2 v3) fun r=>True:=by
 unfold Qll
 refine T0 (T5 (by simp_all;omega)) (fun _ _=>?_)
 refine T0 (Qih ((v1.Tasks.drop 0).take (v2.toNat-0)) v3 (((h_v1.2.2.1).drop _).take _) (h_v3)) (fun x_1 hv2=>?_)
 exact T3
theorem QxD (v1:Int)(v2:QG)(h_v2:QaM v2):Qj (Qh5 v1 v2) fun r=>True:=by
 unfold Qh5
 exact T3
theorem Qrj (v1:Qau)(h_v1:QeO v1):Qj (Qfi v1) fun r=>True:=by
 unfold Qfi
 refine T0 (Qie v1.Name (h_v1.1)) (fun x_1 hv2=>?_)
 exact T3
theorem Qrk (p1:Qau)(v2:Qau)(h_p1:QeO p1)(h_v2:QeO v2):Qj (Qfj p1 v2) fun r=>True:=by
 unfold Qfj
 exact T3
theorem QkO (s1:(List Qau))(v2:Qau)(h_s1:(QJ QeO) s1)(h_v2:QeO v2):Qj (QbZ s1 v2) fun r=>True:=by
 unfold QbZ
 refine T0 (Qj.up (s1.length) (fun st=>st) (fun _=>True) (Q:=fun q=>True) rfl trivial (fun i2 st hi3 hn4 hj5=>?_)) (fun q6 hq7=>?_)
 ·obtain⟨x_1,hst⟩:∃y,y=st:=⟨_,rfl⟩
  subst hst
  replace hi3:x_1=(i2:Int):=hi3
  show Qj (Qbn s1 v2 x_1) _
  unfold Qbn
  refine T1 (fun hc8=>?_) (fun hc8=>?_)
  ·refine T0 (T4 (by omega) (by simp_all)) (fun e_9 hv10=>?_)
   refine T0 (Qrk e_9 v2 (((h_s1).2 e_9 hv10)) (h_v2)) (fun x_11 hv12=>?_)
   refine T1 (fun hc13=>?_) (fun hc13=>?_)
   ·exact T2 (Qt trivial)
   exact T2 (QL ⟨(by simp_all),by subst hi3;exact Qx (by simp_all) (h_s1).1,trivial⟩)
  exact T2 (Qt trivial)
 rcases q6 with q6 | q6
 ·show Qj (Qbo q6) _
  unfold Qbo
  exact T3
 show Qj (Qbp) _
 unfold Qbp
 exact T3
theorem Qjc (s1:(List Qau))(v2:Qau)(h_s1:(QJ QeO) s1)(h_v2:QeO v2):Qj (Qbq s1 v2) fun r=>True:=by
 unfold Qbq
 refine T0 (QkO s1 v2 (h_s1) (h_v2)) (fun x_1 hv2=>?_)
 exact T3
theorem Qrl (v1:(List Qau))(v2:Int)(v3:Qau)(h_v1:(QJ QeO) v1)(h_v3:QeO v3)(hp0:0<=v2)(hp1:v2<v1.length):Qj (Qfk v1 v2 v3) fun r=>True:=by
 unfold Qfk
 refine T0 (T5 (by simp_all;omega)) (fun _ _=>?_)
 refine T0 (Qjc ((v1.drop 0).take (v2.toNat-0)) v3 (((h_v1).drop _).take _) (h_v3)) (fun x_1 hv2=>?_)
 exact T3
theorem Qrm (v1:Qq)(v2:Qau)(h_v1:QY v1)(h_v2:QeO v2):Qj (Qfl v1 v2) fun r=>True:=by
 unfold Qfl
 refine T0 (Qja v1.Colours v2.Colour (h_v1.1)) (fun x_1 hv2=>?_)
 exact T3
theorem QvG (v1:Qau)(v2:Int)(v3:(List Qau))(v4:Int)(v5:Int)(v6:Qq)(v7:Int)(h_v1:QeO v1)(h_v3:(QJ QeO) v3)(h_v6:QY v6)(hp0:0<=v4)(hp1:v4<v3.length):Qj (QiF v1 v2 v3 v4 v5 v6 v7) fun r=>True:=by
 unfold QiF
 refine T0 (Qrj v1 (h_v1)) (fun x_1 hv2=>?_)
 refine T1 (fun hc3=>?_) (fun hc3=>?_)
 ·exact T3
 refine T0 (Qrl v3 v4 v1 (h_v3) (h_v1) (by omega) (by omega)) (fun x_4 hv5=>?_)
 refine T1 (fun hc6=>?_) (fun hc6=>?_)
 ·exact T3
 refine T0 (Qrm v6 v1 (h_v6) (h_v1)) (fun x_7 hv8=>?_)
 refine T1 (fun hc9=>?_) (fun hc9=>?_)
 ·exact T3
 exact T3
theorem Qs7 (k1:Int)(v2:Qau)(v3:(List Qau))(v4:Qq)(h_v2:QeO v2)(h_v3:(QJ QeO) v3)(h_v4:QY v4)(hp0:0<=k1)(hp1:k1<v3.length):Qj (Qgs k1 v2 v3 v4) fun r=>True:=by
 unfold Qgs
 refine T0 (QvG v2 1 v3 k1 5 v4 3 (h_v2) (h_v3) (h_v4) (by omega) (by omega)) (fun x_1 hv2=>?_)
 exact T3
theorem Qsw (l1:(List Qau))(v2:(List Qau))(v3:Qq)(h_l1:(QJ QeO) l1)(h_v2:(QJ QeO) v2)(h_v3:QY v3)(hp0:l1.length<=v2.length):Qj (QfJ l1 v2 v3) fun r=>True:=by
 unfold QfJ
 refine T0 (Qj.up (l1.length) (fun st=>st) (fun _=>True) (Q:=fun q=>True) rfl trivial (fun i2 st hi3 hn4 hj5=>?_)) (fun q6 hq7=>?_)
 ·obtain⟨x_1,hst⟩:∃y,y=st:=⟨_,rfl⟩
  subst hst
  replace hi3:x_1=(i2:Int):=hi3
  show Qj (QeF l1 v2 v3 x_1) _
  unfold QeF
  refine T1 (fun hc8=>?_) (fun hc8=>?_)
  ·refine T0 (T4 (by omega) (by simp_all)) (fun e_9 hv10=>?_)
   refine T0 (Qs7 x_1 e_9 v2 v3 (((h_l1).2 e_9 hv10)) (h_v2) (h_v3) (by omega) (by simp_all;omega)) (fun x_11 hv12=>?_)
   refine T1 (fun hc13=>?_) (fun hc13=>?_)
   ·exact T2 (Qt trivial)
   exact T2 (QL ⟨(by simp_all),by subst hi3;exact Qx (by simp_all) (h_l1).1,trivial⟩)
  exact T2 (Qt trivial)
 rcases q6 with q6 | q6
 ·show Qj (QeG q6.1 q6.2) _
  unfold QeG
  exact T3
 show Qj (QeH) _
 unfold QeH
 exact T3
theorem QuQ (n1:Qq)(l2:(List Qau))(h_n1:QY n1)(h_l2:(QJ QeO) l2):Qj (QhE n1 l2) fun r=>True:=by
 unfold QhE
 refine T0 (Qsw l2 l2 n1 (h_l2) (h_l2) (h_n1) (by omega)) (fun x_1 hv2=>?_)
 exact T3
theorem QxE (v1:Qq)(v2:QG)(h_v1:QY v1)(h_v2:QaM v2):Qj (Qlm v1 v2) fun r=>True:=by
 unfold Qlm
 refine T0 (QuQ v1 v2.Vars (h_v1) (h_v2.2.1)) (fun x_1 hv2=>?_)
 exact T3
theorem QwG (v1:Qq)(v2:QG)(v3:Int)(h_v1:QY v1)(h_v2:QaM v2):Qj (QjZ v1 v2 v3) fun r=>True:=by
 unfold QjZ
 refine T0 (QxE v1 v2 (h_v1) (h_v2)) (fun x_1 hv2=>?_)
 exact T3
theorem Qsb (n1:Qq)(k2:Int)(h_n1:QY n1):Qj (Qi3 n1 k2) fun r=>True:=by
 unfold Qi3
 refine T0 (QkN n1.Tasks k2 (h_n1.2.2.1)) (fun x_1 hv2=>?_)
 refine T1 (fun hc3=>?_) (fun hc3=>?_)
 ·exact T3
 refine T0 (T4 (by simp_all) (by simp_all)) (fun e_4 hv5=>?_)
 refine T0 (Qj.up (e_4.Vars.length) (fun st=>st.2) (fun _=>True) (Q:=fun q=>True) rfl trivial (fun i8 st hi9 hn10 hj11=>?_)) (fun q12 hq13=>?_)
 ·obtain⟨out_6,x_7⟩:=st
  replace hi9:x_7=(i8:Int):=hi9
  show Qj (QiG e_4 n1 out_6 x_7) _
  unfold QiG
  refine T1 (fun hc14=>?_) (fun hc14=>?_)
  ·refine T0 (T4 (by omega) (by simp_all)) (fun e_15 hv16=>?_)
   refine T0 (Qhd n1.Colours e_15.Colour (h_n1.1)) (fun x_17 hv18=>?_)
   refine T1 (fun hc19=>?_) (fun hc19=>?_)
   ·exact T2 (Qt trivial)
   exact T2 (QL ⟨(by simp_all),by subst hi9;exact Qx (by simp_all) (((h_n1.2.2.1).2 e_4 hv5).2.1).1,trivial⟩)
  exact T2 (Qt trivial)
 rcases q12 with q12 | q12
 ·show Qj (QiH) _
  unfold QiH
  exact T3
 show Qj (QiI q12) _
 unfold QiI
 exact T3
theorem QxF (v1:Qq)(v2:Int)(h_v1:QY v1):Qj (Qln v1 v2) fun r=>True:=by
 unfold Qln
 refine T0 (Qsb v1 v2 (h_v1)) (fun x_1 hv2=>?_)
 exact T3
theorem Qz7 (kind1:Int):Qj (QlS kind1) fun r=>0<=r->(kind1=1\/kind1=2\/kind1=3\/kind1=4\/kind1=5\/kind1=6)/\(kind1=3\/kind1=4->r=1)/\(kind1=5->r=2)/\(kind1=6->r=3):=by
 unfold QlS
 refine T1 (fun hc=>?_) (fun hc=>?_)
 ·unfold QfS;rw [hc]
  simp only [beq_iff_eq]at hc
  exact T2 (by omega)
 simp only [beq_eq_false_iff_ne]at hc
 unfold QfS
 refine T1 (fun hc=>T2 (by simp only [beq_iff_eq]at hc;omega)) (fun hc2=>?_)
 simp only [beq_eq_false_iff_ne]at hc2
 refine T1 (fun hc3=>?_) (fun hc3=>?_)
 ·unfold QfR;rw [hc3]
  simp only [beq_iff_eq]at hc3
  exact T2 (by omega)
 simp only [beq_eq_false_iff_ne]at hc3
 unfold QfR
 refine T1 (fun hc=>T2 (by simp only [beq_iff_eq]at hc;omega)) (fun hc4=>?_)
 simp only [beq_eq_false_iff_ne]at hc4
 refine T1 (fun hc=>T2 (by simp only [beq_iff_eq]at hc;omega)) (fun hc5=>?_)
 simp only [beq_eq_false_iff_ne]at hc5
 exact T1 (fun hc=>T2 (by simp only [beq_iff_eq]at hc;omega)) (fun hc6=>T2 (by omega))
theorem Qzp (op1:Int)  : Qj (Qks op1) fun r=>True:=by
 unfold Qks
 exact T3
theorem Qn6 (rec_:Qk->Int->Option Bool)(s1:List Qk)(v2:Int)(h1:s1.length<=maxLen)(h:∀k∈s1,Qj (rec_ k v2) fun r=>r=true->POk v2 k):Qj (Qac rec_ s1 v2) fun r=>r=false->∀k∈s1,POk v2 k:=by
 unfold Qac QbA
 refine T0 (P:=fun x=>x<0->∀k∈s1,POk v2 k) ?_ fun x hx=>T2 fun h=>hx (by simp only [Qah]at h;omega)
 refine T0 (Qj.up s1.length (fun st=>st) (fun st=>∀(j:Nat) k,(j:Int)<st->s1[j]? = some k->POk v2 k) (Q:=fun q=>(∀x,q=.inl x->0<=x)/\(q=.inr ()->∀k∈s1,POk v2 k)) rfl (fun j k hj=>by omega) (fun i st hi hn hj=>?_)) (fun q hq=>?_)
 ·show Qj (Q3 s1 rec_ v2 st) _
  unfold Q3 Qk3
  refine T1 (fun hc=>?_) (fun hc=>T2 (Qt ⟨fun x h=>(by cases h),fun _ k hk=>by
   obtain⟨j,hj1,hj2⟩:=Qv1.1 hk
   simp only [Qah]at hc
   exact hj j k (by omega) (by rw [QH hj1,hj2])⟩))
  simp only [QN]at hc
  rw [QeY (by omega)]
  have hlt:st.toNat<s1.length:=by omega
  rw [QH hlt]
  refine T0 (P:=fun k=>k=s1[st.toNat]) (T2 rfl) fun k hk=>?_
  subst hk
  refine T0 (P:=fun r=>r=false->POk v2 s1[st.toNat]) (T0 (h _ (QaI hlt)) fun x hx=>T2 fun h=>hx (by simpa using h)) fun x hx=>?_
  refine T1 (fun _=>T2 (Qt ⟨fun x h=>(by cases h;omega),fun h=>(by cases h)⟩)) fun hxf=>T2 (QL ⟨by omega,by rw [hi];exact Qx (by omega) h1,?_⟩)
  rw [hi,Qx (show i<s1.length by omega) h1]
  intro j k hj' hk
  by_cases c:j=i
  ·subst c
   have e:st.toNat=j:=by omega
   have:=hx hxf
   rw [QH (by omega)]at hk
   cases hk
   simpa only [e] using this
  exact hj j k (by omega) hk
 rcases q with q | q
 ·exact T2 fun h=>absurd (hq.1 q rfl) (by omega)
 exact T2 fun _=>hq.2 rfl
theorem QmN : ∀(n:Nat) (e:Qk) (v:Int),QcO e->SizeOf.sizeOf e<=n->Qj (QaP n e v) fun r=>r=true->POk v e
 | 0,e,_,_,h=>absurd e.pos (by omega)
 | n+1,e,v,he,h=>by
  unfold QaP QhX
  refine T0 (Qz7 e.Kind) fun x hx=>?_
  refine T1 (fun _=>T2 fun h=>by cases h) fun h1=>T1 (fun _=>T2 fun h=>by cases h) fun h2=>?_
  refine T0 (P:=fun _=>True) ?_ fun y _=>?_
  ·unfold Qnb
   exact T1 (fun _=>T0 (Qzp e.Num) fun x _=>T3) fun _=>T3
  unfold QgY
  refine T1 (fun _=>T2 fun h=>by cases h) fun _=>?_
  refine T0 (Qn6 (QaP n) e.Kids v (QcZ he).1 fun k hk=>QmN n k v ((QcZ he).2 k hk) (by have:=QoL hk;omega)) fun x hx2=>T2 fun hx3=>?_
  simp only [bne_eq_false_iff_eq]at h1
  have h3:=hx (by omega)
  simp only [Bool.and_eq_false_iff,QcP,Qah,beq_eq_false_iff_ne]at h2
  exact .mk e h3.1 (fun hk=>by omega) (fun hk=>by have:=h3.2.1 hk;omega) (fun hk=>by have:=h3.2.2.1 hk;omega) (fun hk=>by have:=h3.2.2.2 hk;omega) (hx2 (by simpa using hx3))
theorem Qzq (e1:Qk)(vars2:Int)(h_e1:QcO e1):Qj (Qnc e1 vars2) fun r=>r=true->POk vars2 e1:=QmN _ e1 vars2 h_e1 (QcR _)
theorem Qq7 : ∀(n:Nat) (e:Qk),QcO e->SizeOf.sizeOf e<=n->Qj (Qcr n e) fun _=>True
 | 0,e,_,h=>absurd e.pos (by omega)
 | n+1,e,he,h=>by
  unfold Qcr Qk1
  refine T0 (Qj.up e.Kids.length (fun st=>st.2) (fun _=>True) (Q:=fun _=>True) rfl trivial (fun i st hi hn _=>?_)) (fun q _=>?_)
  ·obtain⟨a,x⟩:=st
   replace hi:x=(i:Int):=hi
   show Qj (QjD e (Qcr n) a x) _
   unfold QjD
   refine T1 (fun hc=>?_) (fun hc=>?_)
   ·simp only [QN]at hc
    refine T0 (T4 (by omega) (by omega)) fun k hk=>?_
    have:=QoL hk
    refine T0 (Qq7 n k ((QcZ he).2 k hk) (by omega)) fun d _=>?_
    exact T2 (QL ⟨by omega,by subst hi;exact Qx (by omega) (QcZ he).1,trivial⟩)
   exact T2 (Qt trivial)
  unfold Qm9
  exact T3
theorem Qzr (e1:Qk)(h_e1:QcO e1):Qj (Qna e1) fun _=>True:=Qq7 _ e1 h_e1 (QcR _)
theorem Qsc : ∀(n:Nat) (e:Qk),QcO e->SizeOf.sizeOf e<=n->Qj (Qc2 n e) fun _=>True
 | 0,e,_,h=>absurd e.pos (by omega)
 | n+1,e,he,h=>by
  unfold Qc2 Qmf
  refine T0 (Qj.up e.Kids.length (fun st=>st.2) (fun _=>True) (Q:=fun _=>True) rfl trivial (fun i st hi hn _=>?_)) (fun q _=>?_)
  ·obtain⟨a,x⟩:=st
   replace hi:x=(i:Int):=hi
   show Qj (Qk2 e (Qc2 n) a x) _
   unfold Qk2
   refine T1 (fun hc=>?_) (fun hc=>?_)
   ·simp only [QN]at hc
    refine T0 (T4 (by omega) (by omega)) fun k hk=>?_
    have:=QoL hk
    refine T0 (Qsc n k ((QcZ he).2 k hk) (by omega)) fun d _=>?_
    exact T2 (QL ⟨by omega,by subst hi;exact Qx (by omega) (QcZ he).1,trivial⟩)
   exact T2 (Qt trivial)
  unfold QnX
  exact T3
theorem Qz8 (e1:Qk)(h_e1:QcO e1):Qj (Qoj e1) fun _=>True:=Qsc _ e1 h_e1 (QcR _)
theorem QlB (e1:Qk)(vars2:Int)(h_e1:QcO e1):Qj (Qe7 e1 vars2) fun r=>r=true->POk vars2 e1:=by
 unfold Qe7
 refine T0 (P:=fun r=>r=true->POk vars2 e1) ?_ (fun x hx=>T2 hx)
 unfold Qnd
 refine T0 (Qzr e1 h_e1) (fun x _=>?_)
 refine T1 (fun _=>?_) (fun _=>T2 fun h=>by cases h)
 refine T0 (Qz8 e1 h_e1) (fun x _=>?_)
 refine T1 (fun _=>?_) (fun _=>T2 fun h=>by cases h)
 exact T0 (Qzq e1 vars2 h_e1) (fun x hx=>T2 hx)
theorem QxG (v1:QG)(v2:Int)(h_v1:QaM v1):Qj (Qlo v1 v2) fun r=>True:=by
 unfold Qlo
 refine T0 (P:=fun _=>True) ?_ (fun x_1 hv2=>?_)
 ·unfold Qpf
  refine T0 (QlB v1.Guard v2 (h_v1.2.2.1)) (fun x_3 hv4=>?_)
  refine T1 (fun hc5=>?_) (fun hc5=>?_)
  ·refine T1 (fun hc6=>?_) (fun hc6=>?_)
   ·exact T3
   exact T3
  exact T3
 unfold QhF
 exact T3
theorem QvH (v1:Qq)(v2:Qas)(h_v1:QY v1)(h_v2:Qi9 v2):Qj (QiJ v1 v2) fun r=>True:=by
 unfold QiJ
 refine T0 (QcI v1.Places v2.Place (h_v1.2.1)) (fun x_1 hv2=>?_)
 exact T3
theorem QvI (v1:Qas)(v2:Int)(h_v1:Qi9 v1):Qj (QiK v1 v2) fun r=>True:=by
 unfold QiK
 refine T0 (QlB v1.Expr v2 (h_v1.2)) (fun x_1 hv2=>?_)
 exact T3
theorem QvJ (v1:Qq)(v2:Qas)(v3:Int)(v4:Int)(v5:Int)(h_v1:QY v1)(h_v2:Qi9 v2):Qj (QiL v1 v2 v3 v4 v5) fun r=>True:=by
 unfold QiL
 refine T0 (QvH v1 v2 (h_v1) (h_v2)) (fun x_1 hv2=>?_)
 refine T1 (fun hc3=>?_) (fun hc3=>?_)
 ·exact T3
 refine T0 (QvI v2 v4 (h_v2)) (fun x_4 hv5=>?_)
 refine T1 (fun hc6=>?_) (fun hc6=>?_)
 ·exact T3
 exact T3
theorem QxH (p1:Int)(a2:Qas)(v3:Qq)(v4:Int)(h_a2:Qi9 a2)(h_v3:QY v3):Qj (Qlp p1 a2 v3 v4) fun r=>True:=by
 unfold Qlp
 refine T0 (QvJ v3 a2 3 v4 1 (h_v3) (h_a2)) (fun x_1 hv2=>?_)
 exact T3
theorem Qsx (l1:(List Qas))(v2:Qq)(v3:Int)(h_l1:(QJ Qi9) l1)(h_v2:QY v2):Qj (QfK l1 v2 v3) fun r=>True:=by
 unfold QfK
 refine T0 (Qj.up (l1.length) (fun st=>st) (fun _=>True) (Q:=fun q=>True) rfl trivial (fun i2 st hi3 hn4 hj5=>?_)) (fun q6 hq7=>?_)
 ·obtain⟨x_1,hst⟩:∃y,y=st:=⟨_,rfl⟩
  subst hst
  replace hi3:x_1=(i2:Int):=hi3
  show Qj (QeI l1 v2 v3 x_1) _
  unfold QeI
  refine T1 (fun hc8=>?_) (fun hc8=>?_)
  ·refine T0 (T4 (by omega) (by simp_all)) (fun e_9 hv10=>?_)
   refine T0 (QxH x_1 e_9 v2 v3 (((h_l1).2 e_9 hv10)) (h_v2)) (fun x_11 hv12=>?_)
   refine T1 (fun hc13=>?_) (fun hc13=>?_)
   ·exact T2 (Qt trivial)
   exact T2 (QL ⟨(by simp_all),by subst hi3;exact Qx (by simp_all) (h_l1).1,trivial⟩)
  exact T2 (Qt trivial)
 rcases q6 with q6 | q6
 ·show Qj (QeJ q6.1 q6.2) _
  unfold QeJ
  exact T3
 show Qj (QeK) _
 unfold QeK
 exact T3
theorem Qs8 (n1:Qq)(l2:(List Qas))(vars3:Int)(h_n1:QY n1)(h_l2:(QJ Qi9) l2):Qj (QkE n1 l2 vars3) fun r=>True:=by
 unfold QkE
 refine T0 (Qsx l2 n1 vars3 (h_l2) (h_n1)) (fun x_1 hv2=>?_)
 exact T3
theorem QxI (v1:Qq)(v2:QG)(v3:Int)(h_v1:QY v1)(h_v2:QaM v2):Qj (Qlq v1 v2 v3) fun r=>True:=by
 unfold Qlq
 refine T0 (Qs8 v1 v2.Ins v3 (h_v1) (h_v2.2.2.2.2.2.1)) (fun x_1 hv2=>?_)
 exact T3
theorem Qt2 (v1:Qq)(v2:QG)(v3:Int)(v4:Int)(h_v1:QY v1)(h_v2:QaM v2):Qj (Qg2 v1 v2 v3 v4) fun r=>True:=by
 unfold Qg2
 refine T0 (QxI v1 v2 v3 (h_v1) (h_v2)) (fun x_1 hv2=>?_)
 exact T3
theorem QxJ (v1:Qq)(v2:QG)(v3:Int)(h_v1:QY v1)(h_v2:QaM v2):Qj (Qlr v1 v2 v3) fun r=>True:=by
 unfold Qlr
 refine T0 (Qs8 v1 v2.Outs v3 (h_v1) (h_v2.2.2.2.2.2.2.1)) (fun x_1 hv2=>?_)
 exact T3
theorem Qt3 (v1:Qq)(v2:QG)(v3:Int)(v4:Int)(h_v1:QY v1)(h_v2:QaM v2):Qj (Qg3 v1 v2 v3 v4) fun r=>True:=by
 unfold Qg3
 refine T0 (QxJ v1 v2 v3 (h_v1) (h_v2)) (fun x_1 hv2=>?_)
 exact T3
theorem Qs9 (v1:Qq)(v2:Int)(h_v1:QY v1):Qj (Qgt v1 v2) fun r=>True:=by
 unfold Qgt
 refine T0 (QcI v1.Places v2 (h_v1.2.1)) (fun x_1 hv2=>?_)
 exact T3
theorem Qq8 (s1:(List Int))(v2:Int)(h_s1:(QJ (fun _=>True)) s1):Qj (Qds s1 v2) fun r=>True:=by
 unfold Qds
 refine T0 (Qj.up (s1.length) (fun st=>st) (fun _=>True) (Q:=fun q=>True) rfl trivial (fun i2 st hi3 hn4 hj5=>?_)) (fun q6 hq7=>?_)
 ·obtain⟨x_1,hst⟩:∃y,y=st:=⟨_,rfl⟩
  subst hst
  replace hi3:x_1=(i2:Int):=hi3
  show Qj (QaD s1 v2 x_1) _
  unfold QaD
  refine T1 (fun hc8=>?_) (fun hc8=>?_)
  ·refine T0 (T4 (by omega) (by simp_all)) (fun e_9 hv10=>?_)
   refine T1 (fun hc11=>?_) (fun hc11=>?_)
   ·exact T2 (Qt trivial)
   exact T2 (QL ⟨(by simp_all),by subst hi3;exact Qx (by simp_all) (h_s1).1,trivial⟩)
  exact T2 (Qt trivial)
 rcases q6 with q6 | q6
 ·show Qj (Qd1 q6) _
  unfold Qd1
  exact T3
 show Qj (Qd2) _
 unfold Qd2
 exact T3
theorem Qim (s1:(List Int))(v2:Int)(h_s1:(QJ (fun _=>True)) s1):Qj (QaE s1 v2) fun r=>True:=by
 unfold QaE
 refine T0 (Qq8 s1 v2 (h_s1)) (fun x_1 hv2=>?_)
 exact T3
theorem Qta (v1:(List Int))(v2:Int)(v3:Int)(h_v1:(QJ (fun _=>True)) v1)(hp0:0<=v2)(hp1:v2<v1.length):Qj (Qgu v1 v2 v3) fun r=>True:=by
 unfold Qgu
 refine T0 (T5 (by simp_all;omega)) (fun _ _=>?_)
 refine T0 (Qim ((v1.drop 0).take (v2.toNat-0)) v3 (((h_v1).drop _).take _)) (fun x_1 hv2=>?_)
 exact T3
theorem QvK (v1:Qq)(v2:Int)(v3:Int)(v4:(List Int))(v5:Int)(v6:Int)(h_v1:QY v1)(h_v4:(QJ (fun _=>True)) v4)(hp0:0<=v5)(hp1:v5<v4.length):Qj (QiM v1 v2 v3 v4 v5 v6) fun r=>True:=by
 unfold QiM
 refine T0 (Qs9 v1 v2 (h_v1)) (fun x_1 hv2=>?_)
 refine T1 (fun hc3=>?_) (fun hc3=>?_)
 ·exact T3
 refine T0 (Qta v4 v5 v2 (h_v4) (by omega) (by omega)) (fun x_4 hv5=>?_)
 refine T1 (fun hc6=>?_) (fun hc6=>?_)
 ·exact T3
 exact T3
theorem QuR (k1:Int)(place2:Int)(v3:Qq)(v4:(List Int))(h_v3:QY v3)(h_v4:(QJ (fun _=>True)) v4)(hp0:0<=k1)(hp1:k1<v4.length):Qj (QhG k1 place2 v3 v4) fun r=>True:=by
 unfold QhG
 refine T0 (QvK v3 place2 3 v4 k1 5 (h_v3) (h_v4) (by omega) (by omega)) (fun x_1 hv2=>?_)
 exact T3
theorem QvL (l1:(List Int))(v2:Qq)(v3:(List Int))(h_l1:(QJ (fun _=>True)) l1)(h_v2:QY v2)(h_v3:(QJ (fun _=>True)) v3)(hp0:l1.length<=v3.length):Qj (QiN l1 v2 v3) fun r=>True:=by
 unfold QiN
 refine T0 (Qj.up (l1.length) (fun st=>st) (fun _=>True) (Q:=fun q=>True) rfl trivial (fun i2 st hi3 hn4 hj5=>?_)) (fun q6 hq7=>?_)
 ·obtain⟨x_1,hst⟩:∃y,y=st:=⟨_,rfl⟩
  subst hst
  replace hi3:x_1=(i2:Int):=hi3
  show Qj (Qgv l1 v2 v3 x_1) _
  unfold Qgv
  refine T1 (fun hc8=>?_) (fun hc8=>?_)
  ·refine T0 (T4 (by omega) (by simp_all)) (fun e_9 hv10=>?_)
   refine T0 (QuR x_1 e_9 v2 v3 (h_v2) (h_v3) (by omega) (by simp_all;omega)) (fun x_11 hv12=>?_)
   refine T1 (fun hc13=>?_) (fun hc13=>?_)
   ·exact T2 (Qt trivial)
   exact T2 (QL ⟨(by simp_all),by subst hi3;exact Qx (by simp_all) (h_l1).1,trivial⟩)
  exact T2 (Qt trivial)
 rcases q6 with q6 | q6
 ·show Qj (Qgw q6.1 q6.2) _
  unfold Qgw
  exact T3
 show Qj (Qgx) _
 unfold Qgx
 exact T3
theorem QwH (n1:Qq)(l2:(List Int))(h_n1:QY n1)(h_l2:(QJ (fun _=>True)) l2):Qj (Qj0 n1 l2) fun r=>True:=by
 unfold Qj0
 refine T0 (QvL l2 n1 l2 (h_l2) (h_n1) (h_l2) (by omega)) (fun x_1 hv2=>?_)
 exact T3
theorem QwI (v1:Qq)(v2:QG)(h_v1:QY v1)(h_v2:QaM v2):Qj (Qj1 v1 v2) fun r=>True:=by
 unfold Qj1
 refine T0 (QwH v1 v2.Cancel (h_v1) (h_v2.2.2.2.2.2.2.2.1)) (fun x_1 hv2=>?_)
 exact T3
theorem Qt4 (v1:Qq)(v2:QG)(v3:Int)(h_v1:QY v1)(h_v2:QaM v2):Qj (Qg4 v1 v2 v3) fun r=>True:=by
 unfold Qg4
 refine T0 (QwI v1 v2 (h_v1) (h_v2)) (fun x_1 hv2=>?_)
 exact T3
theorem QpD (k1:Int)(l2:(List Qas))(h_l2:(QJ Qi9) l2):Qj (Qfm k1 l2) fun r=>True:=by
 unfold Qfm
 exact T3
theorem QyF (t1:QG)(h_t1:QaM t1):Qj (Qi4 t1) fun r=>True:=by
 unfold Qi4
 refine T0 (P:=fun _=>True) ?_ (fun x_1 hv2=>?_)
 ·unfold Qqx
  refine T0 (QpD t1.Join t1.Ins (h_t1.2.2.2.2.2.1)) (fun x_3 hv4=>?_)
  refine T1 (fun hc5=>?_) (fun hc5=>?_)
  ·refine T0 (QpD t1.Split t1.Outs (h_t1.2.2.2.2.2.2.1)) (fun x_6 hv7=>?_)
   refine T1 (fun hc8=>?_) (fun hc8=>?_)
   ·refine T1 (fun hc9=>?_) (fun hc9=>?_)
    ·refine T1 (fun hc10=>?_) (fun hc10=>?_)
     ·exact T3
     exact T3
    exact T3
   exact T3
  exact T3
 unfold QiO
 exact T3
theorem QwJ (v1:QG)(h_v1:QaM v1):Qj (Qj2 v1) fun r=>True:=by
 unfold Qj2
 refine T0 (QyF v1 (h_v1)) (fun x_1 hv2=>?_)
 exact T3
theorem QvM (v1:QG)(v2:Int)(v3:Qq)(v4:Int)(v5:Int)(v6:Int)(v7:Int)(v8:Int)(v9:Int)(v10:Int)(v11:Int)(v12:Int)(v13:Int)(v14:Int)(v15:Int)(h_v1:QaM v1)(h_v3:QY v3)(hp0:0<=v4)(hp1:v4<v3.Tasks.length):Qj (Qgd v1 v2 v3 v4 v5 v6 v7 v8 v9 v10 v11 v12 v13 v14 v15) fun r=>True:=by
 unfold Qgd
 refine T0 (QxA v1 (h_v1)) (fun x_1 hv2=>?_)
 refine T1 (fun hc3=>?_) (fun hc3=>?_)
 ·exact T3
 refine T0 (QxC v3 v4 v1 (h_v3) (h_v1) (by omega) (by omega)) (fun x_4 hv5=>?_)
 refine T1 (fun hc6=>?_) (fun hc6=>?_)
 ·exact T3
 refine T0 (QxD v6 v1 (h_v1)) (fun x_7 hv8=>?_)
 refine T1 (fun hc9=>?_) (fun hc9=>?_)
 ·exact T3
 refine T0 (QwG v3 v1 v8 (h_v3) (h_v1)) (fun x_10 hv11=>?_)
 refine T1 (fun hc12=>?_) (fun hc12=>?_)
 ·exact T3
 refine T0 (QxF v3 v4 (h_v3)) (fun x_13 hv14=>?_)
 refine T1 (fun hc15=>?_) (fun hc15=>?_)
 ·exact T3
 refine T0 (QxG v1 v6 (h_v1)) (fun x_16 hv17=>?_)
 refine T1 (fun hc18=>?_) (fun hc18=>?_)
 ·exact T3
 refine T0 (Qt2 v3 v1 v6 x_10.2 (h_v3) (h_v1)) (fun x_19 hv20=>?_)
 refine T1 (fun hc21=>?_) (fun hc21=>?_)
 ·exact T3
 refine T0 (Qt3 v3 v1 v6 x_19.2 (h_v3) (h_v1)) (fun x_22 hv23=>?_)
 refine T1 (fun hc24=>?_) (fun hc24=>?_)
 ·exact T3
 refine T0 (Qt4 v3 v1 x_22.2 (h_v3) (h_v1)) (fun x_25 hv26=>?_)
 refine T1 (fun hc27=>?_) (fun hc27=>?_)
 ·exact T3
 refine T0 (QwJ v1 (h_v1)) (fun x_28 hv29=>?_)
 refine T1 (fun hc30=>?_) (fun hc30=>?_)
 ·exact T3
 exact T3
theorem Qtb (n1:Qq)(k2:Int)(h_n1:QY n1):Qj (Qdx n1 k2) fun r=>True:=by
 unfold Qdx
 refine T0 (QkN n1.Tasks k2 (h_n1.2.2.1)) (fun x_1 hv2=>?_)
 refine T1 (fun hc3=>?_) (fun hc3=>?_)
 ·exact T3
 refine T0 (QpC n1 (h_n1)) (fun x_4 hv5=>?_)
 refine T1 (fun hc6=>?_) (fun hc6=>?_)
 ·exact T3
 refine T0 (T4 (by simp_all) (by simp_all)) (fun e_7 hv8=>?_)
 refine T0 (T4 (by simp_all) (by simp_all)) (fun e_9 hv10=>?_)
 refine T0 (QyE 0 n1 e_7 (h_n1) (((h_n1.2.2.1).2 e_7 hv8))) (fun x_11 hv12=>?_)
 refine T0 (QvD 0 n1 e_7 (e_9.Vars.length:Int) (h_n1) (((h_n1.2.2.1).2 e_7 hv8))) (fun x_13 hv14=>?_)
 refine T0 (QvE 0 n1 e_7 (e_9.Vars.length:Int) (h_n1) (((h_n1.2.2.1).2 e_7 hv8))) (fun x_15 hv16=>?_)
 refine T0 (QvF 0 n1 e_7 (h_n1) (((h_n1.2.2.1).2 e_7 hv8))) (fun x_17 hv18=>?_)
 refine T0 (QvM e_7 1 n1 k2 5 (e_9.Vars.length:Int) 2 0 (-1) 2 1 (-1) (-1) (-1) 11 (((h_n1.2.2.1).2 e_7 hv8)) (h_n1) (by simp_all) (by simp_all)) (fun x_19 hv20=>?_)
 refine T1 (fun hc21=>?_) (fun hc21=>?_)
 ·exact T3
 exact T3
theorem QyG (k1:Int)(p2:QG)(v3:Qq)(h_p2:QaM p2)(h_v3:QY v3):Qj (Qi5 k1 p2 v3) fun r=>True:=by
 unfold Qi5
 refine T0 (Qtb v3 k1 (h_v3)) (fun x_1 hv2=>?_)
 exact T3
theorem Qrn (l1:(List QG))(v2:Qq)(h_l1:(QJ QaM) l1)(h_v2:QY v2):Qj (QcN l1 v2) fun r=>True:=by
 unfold QcN
 refine T0 (Qj.up (l1.length) (fun st=>st) (fun _=>True) (Q:=fun q=>True) rfl trivial (fun i2 st hi3 hn4 hj5=>?_)) (fun q6 hq7=>?_)
 ·obtain⟨x_1,hst⟩:∃y,y=st:=⟨_,rfl⟩
  subst hst
  replace hi3:x_1=(i2:Int):=hi3
  show Qj (Qb4 l1 v2 x_1) _
  unfold Qb4
  refine T1 (fun hc8=>?_) (fun hc8=>?_)
  ·refine T0 (T4 (by omega) (by simp_all)) (fun e_9 hv10=>?_)
   refine T0 (QyG x_1 e_9 v2 (((h_l1).2 e_9 hv10)) (h_v2)) (fun x_11 hv12=>?_)
   refine T1 (fun hc13=>?_) (fun hc13=>?_)
   ·exact T2 (Qt trivial)
   exact T2 (QL ⟨(by simp_all),by subst hi3;exact Qx (by simp_all) (h_l1).1,trivial⟩)
  exact T2 (Qt trivial)
 rcases q6 with q6 | q6
 ·show Qj (Qej q6.1 q6.2) _
  unfold Qej
  exact T3
 show Qj (Qek) _
 unfold Qek
 exact T3
theorem Qz9 (n1:Qq)(h_n1:QY n1):Qj (Qjh n1) fun r=>True:=by
 unfold Qjh
 refine T0 (Qyx n1 2 3 1 (h_n1)) (fun x_1 hv2=>?_)
 refine T1 (fun hc3=>?_) (fun hc3=>?_)
 ·exact T3
 refine T0 (QpC n1 (h_n1)) (fun x_4 hv5=>?_)
 refine T1 (fun hc6=>?_) (fun hc6=>?_)
 ·exact T3
 refine T0 (Qq6 n1.Places n1 (h_n1.2.1) (h_n1)) (fun x_7 hv8=>?_)
 refine T1 (fun hc9=>?_) (fun hc9=>?_)
 ·exact T3
 refine T0 (Qrn n1.Tasks n1 (h_n1.2.2.1) (h_n1)) (fun x_10 hv11=>?_)
 refine T1 (fun hc12=>?_) (fun hc12=>?_)
 ·exact T3
 exact T3
theorem QAO (a1:Int)(b2:Int)  : Qj (Qiw a1 b2) fun r=>True:=by
 unfold Qiw
 refine T1 (fun hc1=>?_) (fun hc1=>?_)
 ·exact T3
 exact T3
theorem QuS (a1:Int)(b2:Int)  : Qj (Qdf a1 b2) fun r=>True:=by
 unfold Qdf
 refine T1 (fun hc1=>?_) (fun hc1=>?_)
 ·exact T3
 exact T3
theorem Quz (a1:Int)  : Qj (Qhh a1) fun r=>True:=by
 unfold Qhh
 refine T1 (fun hc1=>?_) (fun hc1=>?_)
 ·exact T3
 exact T3
theorem QuT (p1:Int)(y2:Int)  : Qj (Qes p1 y2) fun r=>True:=by
 unfold Qes
 exact T3
theorem QxK (a1:Int)(b2:Int)  : Qj (QfT a1 b2) fun r=>True:=by
 unfold QfT
 refine T0 (Quz a1 ) (fun x_1 hv2=>?_)
 refine T0 (Quz b2 ) (fun x_3 hv4=>?_)
 refine T0 (QuT x_1 x_3 ) (fun x_5 hv6=>?_)
 refine T1 (fun hc7=>?_) (fun hc7=>?_)
 ·unfold Qdg
  refine T1 (fun hc8=>?_) (fun hc8=>?_)
  ·exact T3
  exact T3
 unfold Qdg
 refine T1 (fun hc9=>?_) (fun hc9=>?_)
 ·exact T3
 exact T3
theorem QpE (a1:Int)(b2:Int)  : Qj (QcE a1 b2) fun r=>True:=by
 unfold QcE
 refine T1 (fun hc1=>?_) (fun hc1=>?_)
 ·exact T3
 refine T1 (fun hc2=>?_) (fun hc2=>?_)
 ·exact T3
 refine T0 (T5 (by simp_all)) (fun _ _=>?_)
 refine T0 (T5 (by simp_all)) (fun _ _=>?_)
 exact T3
theorem Qfc (is1:Bool)  : Qj (QbX is1) fun r=>True:=by
 unfold QbX
 refine T1 (fun hc1=>?_) (fun hc1=>?_)
 ·exact T3
 exact T3
theorem Qho (op1:Int)(a2:Int)(b3:Int)  : Qj (QbR op1 a2 b3) fun r=>True:=by
 unfold QbR
 refine T1 (fun hc1=>?_) (fun hc1=>?_)
 ·refine T0 (QAO a2 b3 ) (fun x_2 hv3=>?_)
  exact T3
 refine T1 (fun hc4=>?_) (fun hc4=>?_)
 ·refine T0 (QuS a2 b3 ) (fun x_5 hv6=>?_)
  exact T3
 refine T1 (fun hc7=>?_) (fun hc7=>?_)
 ·refine T0 (QxK a2 b3 ) (fun x_8 hv9=>?_)
  exact T3
 refine T1 (fun hc10=>?_) (fun hc10=>?_)
 ·refine T0 (QpE a2 b3 ) (fun x_11 hv12=>?_)
  exact T3
 refine T1 (fun hc13=>?_) (fun hc13=>?_)
 ·refine T0 (QpE a2 b3 ) (fun x_14 hv15=>?_)
  exact T3
 refine T1 (fun hc16=>?_) (fun hc16=>?_)
 ·refine T0 (Qfc (a2==b3) ) (fun x_17 hv18=>?_)
  exact T3
 refine T1 (fun hc19=>?_) (fun hc19=>?_)
 ·refine T0 (Qfc (a2 != b3) ) (fun x_20 hv21=>?_)
  exact T3
 refine T1 (fun hc22=>?_) (fun hc22=>?_)
 ·refine T0 (Qfc (decide (a2<b3)) ) (fun x_23 hv24=>?_)
  exact T3
 refine T1 (fun hc25=>?_) (fun hc25=>?_)
 ·refine T0 (Qfc (decide (a2<=b3)) ) (fun x_26 hv27=>?_)
  exact T3
 refine T1 (fun hc28=>?_) (fun hc28=>?_)
 ·refine T0 (P:=fun _=>True) ?_ (fun v_29 hv30=>?_)
  ·unfold Qng
   refine T1 (fun hc31=>?_) (fun hc31=>?_)
   ·refine T0 (Qfc (b3 != 0) ) (fun x_32 hv33=>?_)
    exact T3
   refine T0 (Qfc false ) (fun x_34 hv35=>?_)
   exact T3
  unfold Qkt
  exact T3
 refine T1 (fun hc36=>?_) (fun hc36=>?_)
 ·refine T0 (P:=fun _=>True) ?_ (fun v_37 hv38=>?_)
  ·unfold Qnh
   refine T1 (fun hc39=>?_) (fun hc39=>?_)
   ·refine T0 (Qfc true ) (fun x_40 hv41=>?_)
    exact T3
   refine T0 (Qfc (b3 != 0) ) (fun x_42 hv43=>?_)
   exact T3
  unfold Qku
  exact T3
 exact T3
theorem QvN (a1:Int)  : Qj (Qnj a1) fun r=>True:=by
 unfold Qnj
 refine T0 (Qho 2 0 a1 ) (fun x_1 hv2=>?_)
 exact T3
end Go.Proofs
noncomputable section
namespace Go.Proofs
open Go Go.RowKit Go.Vm
theorem QvO (b:List (Int×Int))(h:b.length<=maxLen):Qd8 b=some (rtF (-1) b):=by
 unfold Qd8
 have h1:=QmS (body:=fun st=>Qc7 b st.1 st.2) (l:=b) (ρ:=Unit⊕Unit) (fun i (t:Int)=>(t,(i:Int)))
  (fun i t x=>bif ((decide (x.1<=t))||((decide (x.2<1))||(decide (1048576<x.2))))then .inr (.inl ())else .inl x.1) (fun _=>.inr ())
  (fun i t x hi hx=>by
   show Qc7 b t i=_
   unfold Qc7
   rw [QI (by omega:(i:Int)<b.length),cond_true,Q1,hx,Ql]
   cases ((decide (x.1<=t))||((decide (x.2<1))||(decide (1048576<x.2))))with
   | true=>rfl
   | false=>simp only [cond_false,Sum.elim_inl];rw [Qx hi h])
  (fun t=>by
   show Qc7 b t b.length=_
   unfold Qc7
   rw [QK (by omega)];rfl) (-1) (s0:=(-1,0)) rfl
 rw [h1]
 have:∀(l:List (Int×Int)) (k:Nat) (t:Int),Qhb (fun i t (x:Int×Int)=>(bif ((decide (x.1<=t))||((decide (x.2<1))||(decide (1048576<x.2))))then .inr (.inl ())else .inl x.1:Int⊕(Unit⊕Unit))) (fun _=>.inr ()) k t l=bif rtF t l then .inr ()else .inl ():=by
  intro l
  induction l with
  | nil=>intro k t;rfl
  | cons x l ih=>
   intro k t
   rw [Qhb,rtF]
   cases ((decide (x.1<=t))||((decide (x.2<1))||(decide (1048576<x.2))))with
   | true=>rfl
   | false=>simp only [cond_false,Sum.elim_inl,Bool.not_false,QpF];exact ih _ _
 rw [this]
 cases rtF (-1) b<;>rfl
theorem QvP (b:List (Int×Int))(h:b.length<=maxLen):QnY b=some (bif rtF (-1) b then .inr b else .inl ()):=by
 unfold QnY
 rw [QvO b h,Ql]
 cases hr:rtF (-1) b with
 | false=>rfl
 | true=>
  simp only [Qfe,cond_false,cond_true]
  have ha:=(Qbf.1 hr).1
  obtain⟨r,h1,h2⟩:=Qlw (body:=fun st=>Qhj b st.1 st.2) b.length (fun i s=>s=((i:Int),b.take i)) (fun r=>r=b)
   (fun i s hi hs=>by
    subst hs
    refine .inl ⟨(((i+1:Nat):Int),b.take (i+1)),?_,rfl⟩
    show Qhj b i (b.take i)=_
    unfold Qhj
    rw [QI (by omega:(i:Int)<b.length),cond_true,Q1,QH hi,Ql,Qx hi h]
    have e:b.take (i+1)=b.take i++[b[i]]:=by rw [QjA,QH hi];rfl
    rw [e,<-QD6 (by have:=(ha.sublist (List.take_sublist (i+1) b));rw [e]at this;exact this)])
   (fun s hs=>by
    subst hs
    refine⟨_,?_,rfl⟩
    show Qhj b b.length (b.take b.length)=_
    unfold Qhj
    rw [QK (by omega),Qht];rfl) (0,[]) rfl
  rw [h1,h2];rfl
theorem Qsy (a b:List (Int×Int))(ha:a.length<=maxLen)(hb:b.length<=maxLen):Qk8 a b=some (bif rtF (-1) a then(bif rtF (-1) b then .inr (.inr (.inr (a,b)))else .inr (.inr (.inl a)))else(bif rtF (-1) b then .inr (.inl b)else .inl ())):=by
 unfold Qk8
 rw [QvP a ha]
 cases rtF (-1) a with
 | true=>
  simp only [cond_true,Ql,Sum.elim_inr]
  unfold QoQ
  rw [QvP b hb]
  cases rtF (-1) b<;>rfl
 | false=>
  simp only [cond_false,Ql,Sum.elim_inl]
  unfold QoP
  rw [QvP b hb]
  cases rtF (-1) b<;>rfl
theorem Qmv (m:List (Int×Int))(ha:Asc m)(h':m.length<=4294967296):QeQ m=some (QkM m):=by
 have h:m.length<=maxLen:=by unfold maxLen;omega
 unfold QeQ Qee Qjn
 simp only [QI h',Qor rfl,Ql,QC9 ha]
 obtain⟨r,h1,h2⟩:=Qlw (body:=fun st=>Qcx (m.map Prod.fst) m st.1 st.2) m.length (fun i s=>s=((i:Int),QkM (m.take i))) (fun r=>r=QkM m)
  (fun i s hi hs=>by
   subst hs
   refine .inl ⟨(((i+1:Nat):Int),QkM (m.take (i+1))),?_,rfl⟩
   show Qcx (m.map Prod.fst) m i (QkM (m.take i))=_
   unfold Qcx
   have e:m.take (i+1)=m.take i++[m[i]]:=by rw [QjA,QH hi];rfl
   have ec:(QX m m[i].1).getD 0=m[i].2:=QgU ha.nd (QaI hi)
   rw [QI (by simp;omega),cond_true,Q1,Qa0,QH hi,Qgn,Ql,ec]
   have hl:(QkM (m.take i)).length<=i:=QcB (List.length_filter_le _ _) (by simp;omega)
   cases hc:decide (0<m[i].2)with
   | true=>
    simp only [cond_true]
    rw [QgA (by simp;omega),Ql]
    unfold QeM
    rw [Qx hi h,e]
    unfold QkM
    rw [List.filter_append,Qmb,if_pos hc];rfl
   | false=>
    simp only [cond_false]
    unfold QeM
    rw [Qx hi h,e]
    unfold QkM
    rw [List.filter_append,Qmb,if_neg (by rw [hc];decide),List.filter_nil,List.append_nil])
  (fun s hs=>by
   subst hs
   refine⟨_,?_,rfl⟩
   show Qcx (m.map Prod.fst) m m.length (QkM (m.take m.length))=_
   unfold Qcx
   rw [QK (by simp),Qht];rfl) (0,[]) rfl
 rw [h1,h2];rfl
theorem QAP (m:List (Int×Int)):(QkM m).length<=m.length:=List.length_filter_le _ _
theorem QkP (a b:List (Int×Int))(h:a.length+b.length<=4294967296):(¬(Rt a/\Rt b)/\Qe9 a b=some ([],1))\/(Rt a/\Rt b/\(∃k,1048576<QB a k+QB b k)/\Qe9 a b=some ([],2))\/
  (Rt a/\Rt b/\∃r,Qe9 a b=some (r,0)/\Rt r/\(∀k,QB r k=QB a k+QB b k)/\r.length<=a.length+b.length):=by
 unfold Qe9
 rw [Qsy a b (by unfold maxLen;omega) (by unfold maxLen;omega),Ql]
 cases ra:rtF (-1) a with
 | false=>exact .inl ⟨fun hh=>(by rw [Qbf.2 hh.1]at ra;cases ra),by cases rtF (-1) b<;>rfl⟩
 | true=>
  cases rb:rtF (-1) b with
  | false=>exact .inl ⟨fun hh=>(by rw [Qbf.2 hh.2]at rb;cases rb),rfl⟩
  | true=>
   have hra:=Qbf.1 ra
   have hrb:=Qbf.1 rb
   simp only [cond_true,Sum.elim_inr]
   unfold Qqi
   have hw:∀p∈b,QB a p.1+p.2=QB a p.1+QB b p.1:=fun p hp=>by rw [QgU hrb.1.nd hp]
   rcases Qyr (g:=fun x v=>w64 (x+v)) (stop:=fun x=>decide (1048576<x)) (q:=some ()) (body:=fun st p=>QhZ st p.1 p.2) (fun s p=>by
     show QhZ s p.1 p.2=_
     unfold QhZ
     rw [QmR,if_pos rfl]
     unfold QB
     simp only [Option.getD_some]
     cases decide (1048576<w64 ((QX s p.1).getD 0+p.2))<;>rfl) hra.1 hrb.1.nd with⟨⟨p,h1,h2⟩,h3⟩|⟨h1,s',h3,h4,h5,h6⟩
   ·refine .inr (.inl ⟨hra,hrb,⟨p.1,?_⟩,?_⟩)
    ·have:=hra.cnt p.1
     have:=hrb.cnt p.1
     have h2:=Qak h2
     rw [QgU hrb.1.nd h1]
     rw [QgU hrb.1.nd h1]at this
     rwa [Q4 (by omega)]at h2
    simp only [h3 () rfl];rfl
   have hk:∀k,QB s' k=QB a k+QB b k/\QB s' k<=1048576:=fun k=>by
    have ca:=hra.cnt k
    have cb:=hrb.cnt k
    have e:=h6 k
    unfold Qwb at e
    cases hm:QX b k with
    | none=>
     rw [hm]at e
     simp only at e
     have:QB b k=0:=by unfold QB;rw [hm];rfl
     have e2:QB s' k=QB a k:=by unfold QB;rw [e]
     omega
    | some v=>
     rw [hm]at e
     simp only at e
     have e1:QB b k=v:=by unfold QB;rw [hm];rfl
     have e2:QB s' k=w64 (QB a k+v):=by unfold QB;rw [e];rfl
     have h7:=h1 (k,v) ((QbT hrb.1.nd).1 hm)
     simp only [Qah]at h7
     rw [Q4 (by omega)]at e2 h7
     omega
   refine .inr (.inr ⟨hra,hrb,QkM s',?_,QC8 h4 (fun k hk0=>⟨?_,(hk k).2⟩),fun k=>?_,QcB (QAP s') h5⟩)
   ·simp only [h3,Ql,Sum.elim_inl]
    unfold Qqh
    rw [Qmv s' h4 (by omega)];rfl
   ·have:=(hk k).1
    have ca:=hra.cnt k
    have cb:=hrb.cnt k
    by_cases c:0<QB a k
    ·exact hra.cnt_pos c
    exact hrb.cnt_pos (by omega)
   rw [QAM h4,(hk k).1]
   have ca:=hra.cnt k
   have cb:=hrb.cnt k
   split<;>omega
theorem Qq9 (m m':List (Int×Int)):QeN m m'=some (!(m.any fun p=>decide (QB m' p.1<p.2))):=by
 unfold QeN
 rw [QCh (bad:=fun p=>decide (QB m' p.1<p.2)) (q:=()) (fun p=>by
  show Qdr m' p.1 p.2=_
  unfold Qdr QB
  cases decide ((QX m' p.1).getD 0<p.2)<;>rfl)]
 cases m.any fun p=>decide (QB m' p.1<p.2)<;>rfl
theorem Qt5 {a b:List (Int×Int)}(ha:Rt a)(hb:Rt b):(a.any fun p=>decide (QB b p.1<p.2))=false↔∀k,QB a k<=QB b k:=by
 rw [<-Qjx,Ql9]
 simp only [QN,not_exists,not_and]
 constructor
 ·intro h k
  have cb:=hb.cnt k
  cases e:QX a k with
  | none=>
   have:QB a k=0:=by unfold QB;rw [e];rfl
   omega
  | some v=>
   have h1:=h _ ((QbT ha.1.nd).1 e)
   have:QB a k=v:=by unfold QB;rw [e];rfl
   simp only at h1
   omega
 intro h p hp hlt
 have:=h p.1
 rw [QgU ha.1.nd hp]at this
 omega
theorem QnG (a b:List (Int×Int))(ha:a.length<=maxLen)(hb:b.length<=maxLen):∃r,Qky a b=some r/\(r=true↔Rt a/\Rt b/\∀k,QB a k<=QB b k):=by
 unfold Qky
 rw [Qsy a b ha hb,Ql]
 cases ra:rtF (-1) a with
 | false=>exact⟨false,by cases rtF (-1) b<;>rfl,by simp;intro hh;rw [Qbf.2 hh]at ra;cases ra⟩
 | true=>
  cases rb:rtF (-1) b with
  | false=>exact⟨false,rfl,by simp;intro _ hh;rw [Qbf.2 hh]at rb;cases rb⟩
  | true=>
   have hra:=Qbf.1 ra
   have hrb:=Qbf.1 rb
   refine⟨!(a.any fun p=>decide (QB b p.1<p.2)),?_,?_⟩
   ·simp only [cond_true,Sum.elim_inr]
    unfold Qnl
    rw [Qq9];rfl
   rw [Qfd,Qt5 hra hrb]
   exact⟨fun h=>⟨hra,hrb,h⟩,fun h=>h.2.2⟩
theorem Qo1 (a b:List (Int×Int))(h:a.length+b.length<=4294967296):(¬(Rt a/\Rt b)/\QfH a b=some ([],1))\/(Rt a/\Rt b/\(∃k,QB a k<QB b k)/\QfH a b=some ([],10))\/
  (Rt a/\Rt b/\(∀k,QB b k<=QB a k)/\∃r,QfH a b=some (r,0)/\Rt r/\(∀k,QB r k=QB a k-QB b k)/\r.length<=a.length+b.length):=by
 unfold QfH
 rw [Qsy a b (by unfold maxLen;omega) (by unfold maxLen;omega),Ql]
 cases ra:rtF (-1) a with
 | false=>exact .inl ⟨fun hh=>(by rw [Qbf.2 hh.1]at ra;cases ra),by cases rtF (-1) b<;>rfl⟩
 | true=>
  cases rb:rtF (-1) b with
  | false=>exact .inl ⟨fun hh=>(by rw [Qbf.2 hh.2]at rb;cases rb),rfl⟩
  | true=>
   have hra:=Qbf.1 ra
   have hrb:=Qbf.1 rb
   simp only [cond_true,Sum.elim_inr]
   unfold QoS
   rw [Qq9,Ql]
   cases hw:b.any fun p=>decide (QB a p.1<p.2)with
   | true=>
    refine .inr (.inl ⟨hra,hrb,?_,rfl⟩)
    obtain⟨p,h1,h2⟩:=Ql9.1 hw
    exact⟨p.1,by rw [QgU hrb.1.nd h1];exact Qak h2⟩
   | false=>
    have hle:=(Qt5 hrb hra).1 hw
    simp only [Bool.not_false,Qfe,cond_false]
    rcases Qyr (g:=fun x v=>w64 (x-v)) (stop:=fun _=>false) (q:=none) (body:=fun st p=>QgN st p.1 p.2) (fun s p=>by
      show QgN s p.1 p.2=_
      unfold QgN QB
      rfl) hra.1 hrb.1.nd with⟨⟨p,h1,h2⟩,h3⟩|⟨h1,s',h3,h4,h5,h6⟩
    ·cases h2
    have hk:∀k,QB s' k=QB a k-QB b k:=fun k=>by
     have ca:=hra.cnt k
     have cb:=hrb.cnt k
     have e:=h6 k
     unfold Qwb at e
     cases hm:QX b k with
     | none=>
      rw [hm]at e
      simp only at e
      have:QB b k=0:=by unfold QB;rw [hm];rfl
      have e2:QB s' k=QB a k:=by unfold QB;rw [e]
      omega
     | some v=>
      rw [hm]at e
      simp only at e
      have e1:QB b k=v:=by unfold QB;rw [hm];rfl
      have e2:QB s' k=w64 (QB a k-v):=by unfold QB;rw [e];rfl
      rw [Q4 (by omega)]at e2
      omega
    refine .inr (.inr ⟨hra,hrb,hle,QkM s',?_,QC8 h4 (fun k hk0=>?_),fun k=>?_,QcB (QAP s') h5⟩)
    ·simp only [h3,Ql,Sum.elim_inl]
     unfold QoR
     rw [Qmv s' h4 (by omega)];rfl
    ·have:=hk k
     have ca:=hra.cnt k
     have cb:=hrb.cnt k
     exact⟨hra.cnt_pos (by omega),by omega⟩
    rw [QAM h4,hk k]
    have:=hle k
    split<;>omega
theorem Qt6 (t:Int):QtV [t]=some (bif decide (0<=t)then [(t,1)]else []):=by
 unfold QtV
 rw [QaR]
 show((QfN [t] 0 []).bind _).bind _=_
 unfold QfN
 rw [QI (by simp),cond_true,show idx [t] 0=some t from rfl,Ql]
 unfold Qok
 rw [show w64 (0+1)=1 from by decide]
 cases h:decide (0<=t)with
 | false=>
  simp only [cond_false,Ql,Sum.elim_inl]
  rw [QaR]
  show((QfN [t] 1 []).bind _).bind _=_
  unfold QfN
  rw [QK (by simp)]
  simp only [cond_false,Ql,Sum.elim_inr]
  unfold Qol
  rw [Qmv [] List.Pairwise.nil (by simp)];rfl
 | true=>
  simp only [cond_true,Ql,Sum.elim_inl]
  rw [QaR]
  show((QfN [t] 1 [(t,min2 (w64 (0+1)) 1048576)]).bind _).bind _=_
  unfold QfN
  rw [QK (by simp)]
  simp only [cond_false,Ql,Sum.elim_inr]
  unfold Qol
  rw [Qmv _ (List.pairwise_singleton _ _) (by simp [maxLen]),show min2 (w64 (0+1)) 1048576=1 from by decide];rfl
end Go.Proofs
noncomputable section
namespace Go.Proofs
open Go Go.RowKit Go.Vm
theorem QBy : ∀(n:Nat) (e:Qk) (d:Int),QcO e->SizeOf.sizeOf e<=n->Qj (Qfs n e d) fun _=>True
 | 0,e,_,_,h=>absurd e.pos (by omega)
 | n+1,e,d,he,h=>by
  unfold Qfs QoV
  refine T1 (fun _=>T3) fun _=>?_
  refine T0 (Qj.up e.Kids.length (fun st=>st.2) (fun _=>True) (Q:=fun _=>True) rfl trivial (fun i st hi hn _=>?_)) (fun q _=>?_)
  ·obtain⟨a,x⟩:=st
   replace hi:x=(i:Int):=hi
   show Qj (Qla e (Qfs n) d a x) _
   unfold Qla
   refine T1 (fun hc=>?_) (fun hc=>T2 (Qt trivial))
   simp only [QN]at hc
   refine T0 (T4 (by omega) (by omega)) fun k hk=>?_
   have:=QoL hk
   refine T0 (QBy n k _ ((QcZ he).2 k hk) (by omega)) fun y _=>?_
   refine T1 (fun _=>T2 (Qt trivial)) fun _=>T1 (fun _=>T2 (Qt trivial)) fun _=>?_
   exact T2 (QL ⟨by omega,by subst hi;exact Qx (by omega) (QcZ he).1,trivial⟩)
  rcases q with q | q
  ·exact T3
  exact T3
theorem Qzs (e:Qk)(he:QcO e):Qj (Qjg e) fun _=>True:=by
 unfold Qjg Qsp
 exact T0 (QBy _ e 60 he (QcR _)) fun _ _=>T3
theorem QEF (n1:Qq)(h:QY n1)(q0:Int):Qj (QjP n1 q0) fun r=>r=true->q0<=400:=by
 unfold QjP
 refine T0 (Qj.up n1.Tasks.length (fun st=>st.2) (fun _=>True) (Q:=fun _=>True) rfl trivial (fun i st hi hn _=>?_)) (fun q _=>?_)
 ·obtain⟨a,x⟩:=st
  replace hi:x=(i:Int):=hi
  show Qj (QjO n1 a x) _
  unfold QjO
  refine T1 (fun hc=>?_) (fun _=>T2 (Qt trivial))
  simp only [QN]at hc
  refine T0 (T4 (by omega) (by omega)) fun e he=>?_
  have ke:=h.2.2.1.2 e he
  refine T1 (fun _=>T2 (Qt trivial)) fun _=>?_
  refine T0 (Qj.up e.Vars.length (fun st=>st) (fun _=>True) (Q:=fun _=>True) rfl trivial (fun i2 st hi2 hn2 _=>?_)) (fun q _=>?_)
  ·show Qj (QjI e st) _
   unfold QjI
   refine T1 (fun hc=>?_) (fun _=>T2 (Qt trivial))
   simp only [QN]at hc
   refine T0 (T4 (by omega) (by omega)) fun s _=>?_
   exact T1 (fun _=>T2 (Qt trivial)) fun _=>T2 (QL ⟨by omega,by rw [hi2];exact Qx (by omega) ke.2.1.1,trivial⟩)
  rcases q with q | q
  ·exact T2 (Qt trivial)
  show Qj (QjN e a x) _
  unfold QjN
  refine T0 (Qzs e.Guard ke.2.2.1) fun g _=>?_
  refine T0 (Qj.up e.Ins.length (fun st=>st.2) (fun _=>True) (Q:=fun _=>True) rfl trivial (fun i2 st hi2 hn2 _=>?_)) (fun q _=>?_)
  ·obtain⟨b,y⟩:=st
   replace hi2:y=(i2:Int):=hi2
   show Qj (QjJ e b y) _
   unfold QjJ
   refine T1 (fun hc=>?_) (fun _=>T2 (Qt trivial))
   simp only [QN]at hc
   refine T0 (T4 (by omega) (by omega)) fun s hs=>?_
   refine T0 (Qzs s.Expr (ke.2.2.2.2.2.1.2 s hs).2) fun g _=>?_
   exact T2 (QL ⟨by omega,by subst hi2;exact Qx (by omega) ke.2.2.2.2.2.1.1,trivial⟩)
  show Qj (QjM e a x q) _
  unfold QjM
  refine T0 (Qj.up e.Outs.length (fun st=>st.2) (fun _=>True) (Q:=fun _=>True) rfl trivial (fun i2 st hi2 hn2 _=>?_)) (fun q _=>?_)
  ·obtain⟨b,y⟩:=st
   replace hi2:y=(i2:Int):=hi2
   show Qj (QjK e b y) _
   unfold QjK
   refine T1 (fun hc=>?_) (fun _=>T2 (Qt trivial))
   simp only [QN]at hc
   refine T0 (T4 (by omega) (by omega)) fun s hs=>?_
   refine T0 (Qzs s.Expr (ke.2.2.2.2.2.2.1.2 s hs).2) fun g _=>?_
   exact T2 (QL ⟨by omega,by subst hi2;exact Qx (by omega) ke.2.2.2.2.2.2.1.1,trivial⟩)
  show Qj (QjL a e x q) _
  unfold QjL
  exact T1 (fun _=>T2 (Qt trivial)) fun _=>T2 (QL ⟨by omega,by subst hi;exact Qx (by omega) h.2.2.1.1,trivial⟩)
 rcases q with q | q
 ·exact T2 fun h=>by cases h
 exact T2 fun h=>by simpa using h
theorem QEG (n1:Qq)(h:QY n1):Qj (Ql3 n1) fun r=>r=true->n1.Colours.length<=40/\n1.Places.length<=70/\n1.Tasks.length<=70:=by
 unfold Ql3
 refine T1 (fun _=>T2 fun h=>by cases h) fun hc=>?_
 simp only [QcP,Qah]at hc
 refine T6 (P:=fun _=>True) ?_ fun _ _ _=>by omega
 refine T0 (Qj.up n1.Colours.length (fun st=>st.2) (fun _=>True) (Q:=fun _=>True) rfl trivial (fun i st hi hn _=>?_)) (fun q _=>?_)
 ·obtain⟨a,x⟩:=st
  replace hi:x=(i:Int):=hi
  show Qj (Qld n1 a x) _
  unfold Qld
  refine T1 (fun hc=>?_) (fun _=>T2 (Qt trivial))
  simp only [QN]at hc
  refine T0 (T4 (by omega) (by omega)).self fun e he=>?_
  obtain⟨he,hm⟩:=he
  refine T0 (P:=fun _=>True) ?_ fun y _=>?_
  ·unfold QsK
   rw [he,Ql]
   exact T1 (fun _=>T3) fun _=>T3
  unfold Qlc
  refine T1 (fun _=>T2 (Qt trivial)) fun _=>?_
  refine T0 (Qj.up e.Names.length (fun st=>st) (fun _=>True) (Q:=fun _=>True) rfl trivial (fun i2 st hi2 hn2 _=>?_)) (fun q _=>?_)
  ·show Qj (Qlb n1 x st) _
   unfold Qlb
   simp only [he,Ql]
   refine T1 (fun hc=>?_) (fun _=>T2 (Qt trivial))
   simp only [QN]at hc
   refine T0 (T4 (by omega) (by omega)) fun s _=>?_
   refine T1 (fun _=>T2 (Qt trivial)) fun _=>?_
   exact T2 (QL ⟨by omega,by rw [hi2];exact Qx (by omega) (h.1.2 e hm).2.2.2.2.1.1,trivial⟩)
  rcases q with q | q
  ·exact T2 (Qt trivial)
  exact T2 (QL ⟨by omega,by subst hi;exact Qx (by omega) h.1.1,trivial⟩)
 rcases q with q | q
 ·exact T3
 show Qj (QjQ n1 q) _
 unfold QjQ
 refine T0 (Qj.up n1.Places.length (fun st=>st.2) (fun _=>True) (Q:=fun _=>True) rfl trivial (fun i st hi hn _=>?_)) (fun q _=>?_)
 ·obtain⟨a,x⟩:=st
  replace hi:x=(i:Int):=hi
  show Qj (Qle n1 a x) _
  unfold Qle
  refine T1 (fun hc=>?_) (fun _=>T2 (Qt trivial))
  simp only [QN]at hc
  refine T0 (T4 (by omega) (by omega)) fun e _=>?_
  refine T0 (T4 (by omega) (by omega)) fun e2 _=>?_
  exact T1 (fun _=>T2 (Qt trivial)) fun _=>T2 (QL ⟨by omega,by subst hi;exact Qx (by omega) h.2.1.1,trivial⟩)
 rcases q with q | q
 ·exact T3
 exact(QEF n1 h q).mono fun _ _=>trivial
theorem QEH (m:List (List (Int×Int)))(h:m.length<=maxLen):Qj (Qom m) fun _=>True:=by
 unfold Qom
 refine T0 (Qj.up m.length (fun st=>st.2) (fun _=>True) (Q:=fun _=>True) rfl trivial (fun i st hi hn _=>?_)) (fun q _=>T3)
 obtain⟨a,x⟩:=st
 replace hi:x=(i:Int):=hi
 show Qj (Qlf m a x) _
 unfold Qlf
 refine T1 (fun hc=>?_) (fun _=>T2 (Qt trivial))
 simp only [QA,QN]at hc
 refine T0 (T4 (by omega) (by omega)) fun e _=>?_
 exact T2 (QL ⟨by omega,by subst hi;exact Qx (by omega) h,trivial⟩)
theorem QEI {l:List (Int×Int)}(h:Asc l):∀{a:Int},(∀p∈l,a<=p.1)->∀(i:Nat) (hi:i<l.length),a+i<=(l[i]).1:=by
 induction l with
 | nil=>intro a _ i hi;simp at hi
 | cons p l ih=>
  intro a ha i hi
  obtain⟨h1,h2⟩:=Qgk.1 h
  cases i with
  | zero=>have:=ha p QbE;simpa using this
  | succ i=>
   have h3:=ih h2 (a:=a+1) (fun q hq=>by have:=h1 q hq;have:=ha p QbE;omega) i (by simpa using hi)
   simp only [List.getElem_cons_succ]
   omega
theorem QEa {l:List (Int×Int)}(h:Asc l)(h0:0<l.length){k:Int}(hk:0<QB l k):k<=(l[l.length-1]).1:=by
 unfold QB at hk
 cases e:QX l k with
 | none=>rw [e]at hk;simp at hk
 | some v=>
  obtain⟨j,hj,hjk⟩:=Qv1.1 ((QbT h.nd).1 e)
  by_cases c:j=l.length-1
  ·subst c;rw [hjk];exact Int.le_refl _
  have:=List.pairwise_iff_getElem.1 h j (l.length-1) hj (by omega) (by omega)
  rw [hjk]at this
  simp only at this
  omega
def MOk (n:Qq)(c:Nat)(m:List (List (Int×Int))):Prop:=m.length=n.Places.length/\∀b∈m,Rt b/\b.length<=c
theorem MOk.mono {n:Qq}{c c':Nat}{m:List (List (Int×Int))}(h:MOk n c m)(hc:c<=c'):MOk n c' m:=⟨h.1,fun b hb=>⟨(h.2 b hb).1,QcB (h.2 b hb).2 hc⟩⟩
def Low (n:Qq)(m:List (List (Int×Int))):Prop:=∀(j:Nat) b p,m[j]? = some b->n.Places[j]? = some p->∀k,0<QB b k->∃z,QaH n.Colours p.Colour=some z/\k<z
theorem QAQ (n1:Qq)(m:List (List (Int×Int)))(h:QY n1)(hm:QJ (QJ fun _=>True) m):Qj (Qnu n1 m) fun r=>r=true->MOk n1 1024 m/\Low n1 m:=by
 unfold Qnu
 refine T1 (fun _=>T2 fun h=>by cases h) fun hc=>?_
 have hl:m.length=n1.Places.length:=by simp only [bne_eq_false_iff_eq]at hc;omega
 refine T0 (Qj.up m.length (fun st=>st) (fun st=>∀(j:Nat) (hj:j<m.length),(j:Int)<st->(Rt m[j]/\(m[j]).length<=1024)/\∀p,n1.Places[j]? = some p->∀k,0<QB m[j] k->∃z,QaH n1.Colours p.Colour=some z/\k<z) (Q:=fun q=>q=.inr ()->(∀b∈m,Rt b/\b.length<=1024)/\Low n1 m) rfl (fun j _ hj=>by omega) (fun i st hi hn hJ=>?_)) (fun q hq=>?_)
 ·show Qj (Qj4 m n1 st) _
  unfold Qj4
  refine T1 (fun hc=>?_) (fun hc=>T2 (Qt fun _=>⟨fun b hb=>by
   obtain⟨j,hj,rfl⟩:=Qv1.1 hb
   simp only [Qah]at hc
   exact(hJ j hj (by omega)).1,fun j b p hb hp=>by
   obtain⟨hj,rfl⟩:=Q2.1 hb
   simp only [Qah]at hc
   exact(hJ j hj (by omega)).2 p hp⟩))
  simp only [QN]at hc
  have hlt:i<m.length:=by omega
  have hlp:i<n1.Places.length:=by omega
  rw [hi,Q1,QH hlt,Ql,Q1,QH hlp,Ql]
  refine T0 (Qhd n1.Colours (n1.Places[i]).Colour h.1).self fun sz hsz=>?_
  obtain⟨hze,hsz⟩:=hsz
  have hb:=hm.2 _ (QaI hlt)
  have hbl:=hb.1
  refine T0 (P:=fun r=>r=false->(Rt m[i]/\(m[i]).length<=1024)/\∀k,0<QB m[i] k->k<sz) ?_ fun x hx=>?_
  ·unfold QrN
   rw [QvO _ hb.1,Ql]
   refine T1 (fun _=>T2 fun h=>by cases h) fun hr=>?_
   have hrt:=Qbf.1 (by simpa using hr:rtF (-1) m[i]=true)
   refine T1 (fun h0=>?_) (fun h0=>T2 fun _=>⟨⟨hrt,by simp only [Qah]at h0;omega⟩,fun k hk=>by
    simp only [Qah]at h0
    rw [show m[i]=[]from QpG.1 (by omega)]at hk
    simp [QB,QX]at hk⟩)
   simp only [QN]at h0
   unfold maxLen at hbl
   rw [Q4 (by omega),show((m[i]).length:Int)-1=(((m[i]).length-1:Nat):Int) by omega,Q1,QH (by omega),Ql]
   refine T2 fun hf=>?_
   simp only [Qah]at hf
   have:=QEI hrt.1 (a:=0) (fun p hp=>(hrt.2 p hp).1) ((m[i]).length-1) (by omega)
   refine⟨⟨hrt,by omega⟩,fun k hk=>?_⟩
   have:=QEa hrt.1 (by omega) hk
   omega
  unfold Qj3
  refine T1 (fun _=>T2 (Qt fun h=>by cases h)) fun hxf=>?_
  refine T2 (QL ⟨hlt,Qx hlt hm.1,fun j hj hjs=>?_⟩)
  rw [Qx hlt hm.1]at hjs
  by_cases c:j=i
  ·subst c
   refine⟨(hx hxf).1,fun p hp k hk=>⟨sz,?_,(hx hxf).2 k hk⟩⟩
   rw [QH hlp]at hp
   cases hp
   exact hze
  exact hJ j hj (by omega)
 rcases q with q | q
 ·exact T2 fun h=>by cases h
 exact T2 fun _=>⟨⟨hl,(hq rfl).1⟩,(hq rfl).2⟩
structure Qal (n:Qq):Prop where
 k:QY n
 pl:n.Places.length<=70
 tl:n.Tasks.length<=12
 tk:∀t∈n.Tasks,t.Vars.length<=16/\t.Ins.length<=16/\t.Outs.length<=16/\t.Cancel.length<=16
theorem QDb (n1:Qq)(k2:Int)(h:Qdx n1 k2=some 0):∃t,idx n1.Tasks k2=some t/\t.Vars.length<=16/\t.Ins.length<=16/\t.Outs.length<=16/\t.Cancel.length<=16:=by
 unfold Qdx at h
 obtain⟨x5,_,h⟩:=Qb h
 rcases Qp h with⟨_,h⟩|⟨_,h⟩
 ·cases h
 obtain⟨x7,_,h⟩:=Qb h
 rcases Qp h with⟨c,h⟩|⟨_,h⟩
 ·simp only [Option.some.injEq]at h;rw [h]at c;cases c
 obtain⟨e9,he9,h⟩:=Qb h
 obtain⟨e10,he10,h⟩:=Qb h
 rw [he9]at he10;cases he10
 obtain⟨_,_,h⟩:=Qb h
 obtain⟨_,_,h⟩:=Qb h
 obtain⟨_,_,h⟩:=Qb h
 obtain⟨_,_,h⟩:=Qb h
 obtain⟨x15,hx,h⟩:=Qb h
 have bad:∀a b:Int,0<a->x15=(a,b)->False:=fun a b ha e=>by
  subst e
  simp only at h
  rcases Qp h with⟨c,h⟩|⟨_,h⟩
  ·simp only [beq_iff_eq]at c;omega
  simp only [Option.some.injEq]at h;omega
 unfold Qgd at hx
 obtain⟨x20,_,hx⟩:=Qb hx
 rcases Qp hx with⟨_,hx⟩|⟨_,hx⟩
 ·exact(bad _ _ (by decide) (Option.some.inj hx).symm).elim
 obtain⟨x22,_,hx⟩:=Qb hx
 rcases Qp hx with⟨_,hx⟩|⟨_,hx⟩
 ·exact(bad _ _ (by decide) (Option.some.inj hx).symm).elim
 obtain⟨x24,h24,hx⟩:=Qb hx
 rcases Qp hx with⟨_,hx⟩|⟨c,hx⟩
 ·exact(bad _ _ (by decide) (Option.some.inj hx).symm).elim
 unfold Qh5 at h24
 simp only [Option.some.injEq]at h24
 rw [<-h24]at c
 simp only [Qio,QA,QN,QlA]at c
 exact⟨e9,he9,by omega,by omega,by omega,by omega⟩
theorem QBp (l1:List QG)(n1:Qq)(h:QY n1)(hl:QJ QaM l1):Qj (QcN l1 n1) fun r=>r.2=0->∀(j:Nat),j<l1.length->Qdx n1 j=some 0:=by
 unfold QcN
 refine T0 (Qj.up l1.length (fun st=>st) (fun st=>∀(j:Nat),(j:Int)<st->Qdx n1 j=some 0) (Q:=fun q=>(∀a b,q=.inl (a,b)->b≠0)/\(q=.inr ()->∀(j:Nat),j<l1.length->Qdx n1 j=some 0)) rfl (fun j hj=>by omega) (fun i st hi hn hJ=>?_)) (fun q hq=>?_)
 ·show Qj (Qb4 l1 n1 st) _
  unfold Qb4
  refine T1 (fun hc=>?_) (fun hc=>T2 (Qt ⟨fun a b h=>(by cases h),fun _ j hj=>by
   simp only [Qah]at hc
   exact hJ j (by omega)⟩))
  simp only [QN]at hc
  refine T0 (T4 (by omega) (by omega)) fun e he=>?_
  refine T0 (P:=fun x=>Qdx n1 st=some x) ?_ fun x hx=>?_
  ·unfold Qi5
   exact T0 (Qtb n1 st h).self fun x hx=>T2 hx.1
  refine T1 (fun hc=>T2 (Qt ⟨fun a b h=>(by cases h;simpa using hc),fun h=>(by cases h)⟩)) fun hc=>?_
  simp only [bne_eq_false_iff_eq]at hc
  refine T2 (QL ⟨by omega,by rw [hi];exact Qx (by omega) hl.1,fun j hj=>?_⟩)
  rw [hi,Qx (show i<l1.length by omega) hl.1]at hj
  by_cases c:j=i
  ·subst c;rw [<-hi,hx,hc]
  exact hJ j (by omega)
 rcases q with q | q
 ·exact T2 fun h=>absurd h (hq.1 q.1 q.2 rfl)
 exact T2 fun _=>hq.2 rfl
theorem QDc (n1:Qq)(h:QY n1){p:QfF}(hn:Qjh n1=some (0,p)):∀t∈n1.Tasks,t.Vars.length<=16/\t.Ins.length<=16/\t.Outs.length<=16/\t.Cancel.length<=16:=by
 unfold Qjh at hn
 obtain⟨x6,_,hn⟩:=Qb hn
 rcases Qp hn with⟨c,hn⟩|⟨_,hn⟩
 ·simp only [Option.some.injEq,Prod.mk.injEq]at hn;rw [hn.1]at c;cases c
 obtain⟨x8,_,hn⟩:=Qb hn
 rcases Qp hn with⟨c,hn⟩|⟨_,hn⟩
 ·simp only [Option.some.injEq,Prod.mk.injEq]at hn;rw [hn.1]at c;cases c
 obtain⟨x10,_,hn⟩:=Qb hn
 rcases Qp hn with⟨c,hn⟩|⟨_,hn⟩
 ·simp only [Option.some.injEq,Prod.mk.injEq]at hn;rw [hn.1]at c;cases c
 obtain⟨x12,h12,hn⟩:=Qb hn
 rcases Qp hn with⟨c,hn⟩|⟨c,hn⟩
 ·simp only [Option.some.injEq,Prod.mk.injEq]at hn;rw [hn.1]at c;cases c
 simp only [bne_eq_false_iff_eq]at c
 obtain⟨r,hr,hr2⟩:=QBp n1.Tasks n1 h h.2.2.1
 rw [h12]at hr;cases hr
 intro t ht
 obtain⟨j,hj,rfl⟩:=Qv1.1 ht
 obtain⟨t,h1,h2⟩:=QDb n1 j (hr2 c j hj)
 rw [Q1,QH hj]at h1
 cases h1
 exact h2
theorem QFi (n1:Qq)(m:List (List (Int×Int)))(h:QY n1)(hm:QJ (QJ fun _=>True) m):Qj (Qnv n1 m) fun r=>r=true->Qal n1/\MOk n1 1024 m/\Low n1 m:=by
 unfold Qnv
 refine T0 (QEG n1 h) fun x5 h5=>?_
 refine T0 (QEH m hm.1) fun x6 _=>?_
 refine T1 (fun _=>T2 fun h=>by cases h) fun hc=>?_
 simp only [QcP,Qio,Qah]at hc
 have h5:=h5 hc.1
 refine T0 (Qz9 n1 h).self fun x11 h11=>?_
 refine T0 (P:=fun r=>r=false->Qal n1/\MOk n1 1024 m/\Low n1 m) ?_ fun x12 h12=>?_
 ·unfold QrQ
  refine T1 (fun _=>T2 fun h=>by cases h) fun hc1=>?_
  simp only [bne_eq_false_iff_eq]at hc1
  refine T0 (QAQ n1 m h hm) fun r hr=>T2 fun hrf=>⟨⟨h,h5.2.1,by omega,?_⟩,hr (by simpa using hrf)⟩
  obtain⟨a,b⟩:=x11
  simp only at hc1
  subst hc1
  exact QDc n1 h h11.1
 unfold Qj6
 refine T1 (fun _=>T2 fun h=>by cases h) fun hx=>?_
 have hfin:=h12 hx
 refine T6 (P:=fun _=>True) ?_ fun _ _ _=>hfin
 refine T0 (Qj.up n1.Tasks.length (fun st=>st.2) (fun _=>True) (Q:=fun _=>True) rfl trivial (fun i st hi hn _=>?_)) (fun q _=>T3)
 obtain⟨a,x⟩:=st
 replace hi:x=(i:Int):=hi
 show Qj (Qj5 n1 a x) _
 unfold Qj5
 refine T1 (fun hc=>?_) (fun _=>T2 (Qt trivial))
 simp only [QN]at hc
 refine T0 (T4 (by omega) (by omega)) fun e _=>?_
 refine T0 (Qsb n1 x h) fun y _=>?_
 exact T2 (QL ⟨by omega,by subst hi;exact Qx (by omega) h.2.2.1.1,trivial⟩)
end Go.Proofs
noncomputable section
namespace Go.Proofs
open Go Go.RowKit Go.Vm
theorem QzL (s:Qax)(m:Int)(h:0<=s.k/\s.k<s.sizes.length):Qj (Qce s m) fun r=>r=true->0<=m:=by
 unfold Qce
 refine T0 (P:=fun r=>r=true->0<=m) ?_ fun x hx=>T2 hx
 unfold QeL
 refine T1 (fun hc=>?_) fun _=>T2 fun h=>by cases h
 exact T0 (T4 h.1 h.2) fun _ _=>T2 fun _=>by simpa using hc
theorem Qif (s:Qax)(h:0<=s.k/\s.k<s.all.length):Qj (QbQ s) fun _=>True:=by
 unfold QbQ
 exact T0 (T4 h.1 h.2) fun _ _=>T3
theorem QEb (l:List QF)(k m:Int)(hl:QJ Qa3 l):Qj (Qdn l k m) fun _=>True:=by
 unfold Qdn
 refine T0 (Qjb l k hl) fun x hx=>?_
 refine T0 (P:=fun r=>r=false->x.1=true) ?_ fun r hr=>?_
 ·unfold QgX
  refine T1 (fun _=>T2 fun h=>by cases h) fun hc=>?_
  have hc:x.1=true:=by simpa using hc
  have h:=hx.2 hc
  exact T0 (QzL x.2 m (by omega)) fun _ _=>T2 fun _=>hc
 unfold QdT
 refine T1 (fun _=>T3) fun hc=>?_
 have h:=hx.2 (hr hc)
 refine T0 (Qif x.2 (by omega)) fun _ _=>?_
 refine T1 (fun _=>?_) fun _=>T3
 exact T0 (Qif x.2 (by omega)) fun _ _=>T3
theorem QAR (l:List QF)(k n:Int)(hl:QJ Qa3 l):Qj (Qdo l k n) fun r=>r.2=true->0<=r.1:=by
 unfold Qdo
 refine T0 (Qjb l k hl) fun x hx=>?_
 refine T1 (fun _=>T2 fun h=>by cases h) fun hc=>?_
 have h:=hx.2 (by simpa using hc)
 have k1:∀m,Qj (Qb9 x m) fun r=>r.2=true->0<=r.1:=fun m=>by
  unfold Qb9
  refine T0 (QzL x.2 m (by omega)) fun y hy=>?_
  exact T1 (fun _=>T2 fun h=>by cases h) fun hc=>T2 fun _=>hy (by simpa using hc)
 refine T0 (Qif x.2 (by omega)) fun _ _=>?_
 refine T1 (fun _=>?_) fun _=>k1 _
 exact T1 (fun _=>T2 fun h=>by cases h) fun _=>k1 _
theorem QDd (l:List QF)(k n:Int)(hl:QJ Qa3 l):Qj (Qdo l k n) fun r=>r.2=true->∃z,QaH l k=some z/\r.1<z:=by
 unfold Qdo QaH
 refine T0 (Qjb l k hl).self fun x hx=>?_
 obtain⟨hxe,hx⟩:=hx
 refine T1 (fun _=>T2 fun h=>by cases h) fun hc=>?_
 have h:=hx.2 (by simpa using hc)
 have hk:k.toNat<x.2.sizes.length:=by omega
 have ei:idx x.2.sizes k=some x.2.sizes[k.toNat]:=Ql7 h.1.1 h.1.2
 have k1:∀m,Qj (Qb9 x m) fun r=>r.2=true->∃z,((Qdq l k).bind fun x5=>bif (!x5.1)then some 0 else(idx x5.2.sizes k).bind fun e7=>some e7)=some z/\r.1<z:=fun m=>by
  unfold Qb9
  refine T0 (P:=fun y=>y=true->m<x.2.sizes[k.toNat]) ?_ fun y hy=>?_
  ·unfold Qce
   refine T0 (P:=fun y=>y=true->m<x.2.sizes[k.toNat]) ?_ fun y hy=>T2 hy
   unfold QeL
   refine T1 (fun _=>?_) fun _=>T2 fun h=>by cases h
   rw [h.2.1,ei,Ql]
   exact T2 fun h=>by simpa using h
  refine T1 (fun _=>T2 fun h=>by cases h) fun hc2=>T2 fun _=>⟨x.2.sizes[k.toNat],?_,hy (by simpa using hc2)⟩
  rw [hxe,Ql,hc,cond_false,ei];rfl
 refine T0 (Qif x.2 (by omega)) fun _ _=>?_
 refine T1 (fun _=>?_) fun _=>k1 _
 exact T1 (fun _=>T2 fun h=>by cases h) fun _=>k1 _
theorem QlC {α:Type}{o:Option α}{P:α->Prop}(h:Qj o P){r:α}(e:o=some r):P r:=by
 obtain⟨r',h1,h2⟩:=h
 rw [e]at h1;cases h1;exact h2
theorem QAS : ∀(n:Nat) (v:List Int) (e:Qk),POk v.length e->SizeOf.sizeOf e<=n->Qj (Qaa n v e) fun _=>True
 | 0,_,e,_,h=>absurd e.pos (by omega)
 | n+1,v,e,he,h=>by
  cases he with
  | mk _ hk h2 h3 h5 h6 hr=>
  unfold Qaa Qfz
  have sub:∀(j:Nat) (hj:j<e.Kids.length),Qj (Qaa n v (e.Kids[j])) fun _=>True:=fun j hj=>
   QAS n v _ (hr _ (QaI hj)) (by have:=QoL (QaI hj);omega)
  have kid:∀(j:Nat) (hj:j<e.Kids.length),idx e.Kids (j:Int)=some e.Kids[j]:=fun j hj=>by rw [Q1,QH hj]
  rcases hk with hk | hk | hk | hk | hk | hk
  ·refine T0 (P:=fun x=>x=.inl v) (by unfold QcD;rw [hk];exact T2 rfl) fun x hx=>?_
   subst hx
   exact T3
  ·refine T0 (P:=fun x=>x=.inr (.inl v)) (by unfold QcD;rw [hk];exact T2 rfl) fun x hx=>?_
   subst hx
   show Qj (QdU e v) _
   unfold QdU Qgp
   have:=h2 hk
   exact T0 (T0 (T4 (by omega) (by omega)) fun _ _=>T3) fun _ _=>T3
  ·refine T0 (P:=fun x=>x=.inr (.inr (.inl v))) (by unfold QcD Qb7;rw [hk];exact T2 rfl) fun x hx=>?_
   subst hx
   show Qj (Qb8 (Qaa n) e v) _
   unfold Qb8 Qfy
   have hl:=h3 (.inl hk)
   refine T0 (P:=fun _=>True) ?_ fun _ _=>T3
   rw [show idx e.Kids 0=some (e.Kids[0]'(by omega))from kid 0 (by omega),Ql]
   refine T0 (sub 0 (by omega)) fun x _=>?_
   refine T1 (fun _=>T3) fun _=>T1 (fun _=>T0 (QvN _) fun _ _=>T3) fun _=>T0 (Qho _ _ _) fun _ _=>T3
  ·refine T0 (P:=fun x=>x=.inr (.inr (.inl v))) (by unfold QcD Qb7;rw [hk];exact T2 rfl) fun x hx=>?_
   subst hx
   show Qj (Qb8 (Qaa n) e v) _
   unfold Qb8 Qfy
   have hl:=h3 (.inr hk)
   refine T0 (P:=fun _=>True) ?_ fun _ _=>T3
   rw [show idx e.Kids 0=some (e.Kids[0]'(by omega))from kid 0 (by omega),Ql]
   refine T0 (sub 0 (by omega)) fun x _=>?_
   refine T1 (fun _=>T3) fun _=>T1 (fun _=>T0 (QvN _) fun _ _=>T3) fun _=>T0 (Qho _ _ _) fun _ _=>T3
  ·refine T0 (P:=fun x=>x=.inr (.inr (.inr (.inl v)))) (by unfold QcD Qb7;rw [hk];exact T2 rfl) fun x hx=>?_
   subst hx
   show Qj (QdV (Qaa n) e v) _
   unfold QdV Qk4
   have hl:=h5 hk
   refine T0 (P:=fun _=>True) ?_ fun _ _=>T3
   rw [show idx e.Kids 0=some (e.Kids[0]'(by omega))from kid 0 (by omega),Ql]
   refine T0 (sub 0 (by omega)) fun x _=>?_
   have k1:∀b,Qj (Qdh x e (Qaa n) v b) fun _=>True:=fun b=>by
    unfold Qdh
    refine T1 (fun _=>T0 (Qho _ _ _) fun _ _=>T3) fun _=>?_
    rw [show idx e.Kids 1=some (e.Kids[1]'(by omega))from kid 1 (by omega),Ql]
    refine T0 (sub 1 (by omega)) fun y _=>?_
    exact T1 (fun _=>T3) fun _=>T0 (Qho _ _ _) fun _ _=>T3
   exact T1 (fun _=>T3) fun _=>T1 (fun _=>k1 _) fun _=>T1 (fun _=>k1 _) fun _=>k1 _
  refine T0 (P:=fun x=>x=.inr (.inr (.inr (.inr v)))) (by unfold QcD Qb7;rw [hk];exact T2 rfl) fun x hx=>?_
  subst hx
  show Qj (QdW (Qaa n) e v) _
  unfold QdW QhB
  have hl:=h6 hk
  refine T0 (P:=fun _=>True) ?_ fun _ _=>T3
  rw [show idx e.Kids 0=some (e.Kids[0]'(by omega))from kid 0 (by omega),Ql]
  refine T0 (sub 0 (by omega)) fun x _=>?_
  refine T1 (fun _=>T3) fun _=>T1 (fun _=>?_) fun _=>?_
  ·rw [show idx e.Kids 1=some (e.Kids[1]'(by omega))from kid 1 (by omega),Ql]
   exact T0 (sub 1 (by omega)) fun y _=>T3
  rw [show idx e.Kids 2=some (e.Kids[2]'(by omega))from kid 2 (by omega),Ql]
  exact T0 (sub 2 (by omega)) fun y _=>T3
theorem QDe (e:Qk)(v:List Int)(h:QcO e):Qj (Qhi e v) fun _=>True:=by
 unfold Qhi
 refine T0 (QlB e v.length h) fun x hx=>?_
 refine T1 (fun _=>T3) fun hc=>?_
 unfold QjE
 exact T0 (QAS _ v e (hx (by simpa using hc)) (QcR _)) fun _ _=>T3
theorem QCi (n:Qq)(task:Int)(vars:List Int)(h:Qal n):Qj (QdB n task vars) fun r=>r.2=0->0<=task/\task<n.Tasks.length:=by
 unfold QdB
 refine T1 (fun _=>T2 fun h=>by cases h) fun hc=>?_
 simp only [QcP,Qah]at hc
 refine T0 (T4 (by omega) (by omega)) fun e he=>?_
 have hv:=(h.tk e he).1
 have ke:=h.k.2.2.1.2 e he
 refine T1 (fun _=>T2 fun h=>by cases h) fun hl=>?_
 simp only [bne_eq_false_iff_eq]at hl
 refine T0 (T5 (by simp only [QA,QN];omega)) fun _ _=>?_
 refine T6 (P:=fun _=>True) ?_ fun _ _ _=>by omega
 refine T0 (Qj.up e.Vars.length (fun st=>st.1) (fun st=>st.2.length=e.Vars.length) (Q:=fun _=>True) rfl (by simp) (fun i st hi hn hJ=>?_)) (fun q _=>?_)
 ·obtain⟨x,l⟩:=st
  replace hi:x=(i:Int):=hi
  replace hJ:l.length=e.Vars.length:=hJ
  show Qj (Qc1 e vars n x l) _
  unfold Qc1
  refine T1 (fun hc=>?_) (fun _=>T2 (Qt trivial))
  simp only [QN]at hc
  refine T0 (T4 (by omega) (by omega)) fun a _=>?_
  refine T0 (T4 (by omega) (by omega)) fun b _=>?_
  refine T0 (QEb _ _ _ h.k.1) fun c _=>?_
  refine T1 (fun _=>T2 (Qt trivial)) fun _=>?_
  refine T0 (T4 (by omega) (by omega)) fun d _=>?_
  exact T2 (QL ⟨by omega,by subst hi;exact Qx (by omega) (by unfold maxLen;omega:e.Vars.length<=maxLen),by simpa using hJ⟩)
 rcases q with q | q
 ·exact T3
 exact T3
theorem Qn7 {α:Type}{l:List α}{i:Nat}{x y:α}(h:y∈l.set i x):y=x\/y∈l:=by
 rcases List.mem_or_eq_of_mem_set h with h | h
 ·exact .inr h
 exact .inl h
theorem QmO (n:Qq)(l:List Qas)(which env:List Int)(h:Qal n)(hl:QJ Qi9 l)(hw:which.length<=1000):Qj (Qar n l which env) fun r=>r.2=0->MOk n which.length r.1/\Low n r.1:=by
 unfold Qar
 have hpl:=h.pl
 refine T0 (T5 (by simp only [QA,QN];omega)) fun _ _=>?_
 refine T0 (Qj.up which.length (fun st=>st.1) (fun st=>(st.2.length=n.Places.length/\∀b∈st.2,Rt b/\(b.length:Int)<=st.1)/\Low n st.2) (Q:=fun q=>(∀x,q=.inl x->x≠0)/\∀m,q=.inr m->MOk n which.length m/\Low n m) rfl ⟨⟨by simp,fun b hb=>?_⟩,fun j b p hb hp k hk=>?_⟩ (fun i st hi hn hJ=>?_)) (fun q hq=>?_)
 ·have:=Qma hb
  subst this
  exact⟨Rt.nil,by simp⟩
 ·have:=Qma (Qae hb)
  subst this
  simp [QB,QX]at hk
 ·obtain⟨x,m⟩:=st
  replace hi:x=(i:Int):=hi
  obtain⟨⟨hJ1,hJ2⟩,hJ3⟩:(m.length=n.Places.length/\∀b∈m,Rt b/\(b.length:Int)<=x)/\Low n m:=hJ
  have err:∀y:Int,y≠0->(∀s',(Sum.inr (Sum.inl y):(Int×List (List (Int×Int)))⊕(Int⊕List (List (Int×Int))))=.inl s'->i<which.length/\s'.1=((i+1:Nat):Int)/\(s'.2.length=n.Places.length/\∀b∈s'.2,Rt b/\(b.length:Int)<=s'.1)/\Low n s'.2)/\∀r,(Sum.inr (Sum.inl y):(Int×List (List (Int×Int)))⊕(Int⊕List (List (Int×Int))))=.inr r->(∀x,r=.inl x->x≠0)/\∀m,r=.inr m->MOk n which.length m/\Low n m:=
   fun y hy=>⟨fun s' e=>(by cases e),fun r e=>(by cases e;exact⟨fun x e=>(by cases e;exact hy),fun m e=>(by cases e)⟩)⟩
  show Qj (Qcf which l env n x m) _
  unfold Qcf
  refine T1 (fun hc=>?_) (fun hc=>T2 (Qt ⟨fun x e=>(by cases e),fun m' e=>?_⟩))
  ·simp only [QN]at hc
   refine T0 (T4 (by omega) (by omega)) fun e18 _=>?_
   refine T1 (fun _=>T2 (err _ (by decide))) fun hc1=>?_
   simp only [QcP,Qah]at hc1
   refine T0 (T4 (by omega) (by omega)) fun e22 h22=>?_
   refine T0 (QDe e22.Expr env (hl.2 e22 h22).2) fun x23 _=>?_
   refine T1 (fun hc2=>T2 (err _ (by simpa using hc2))) fun _=>?_
   refine T0 (T4 (by omega) (by omega)) fun e25 _=>?_
   refine T1 (fun _=>T2 (err _ (by decide))) fun hc3=>?_
   simp only [QcP,Qah]at hc3
   refine T0 (T4 (by omega) (by omega)).self fun e29 h29=>?_
   refine T0 (QAR _ _ _ h.k.1).self fun x30 h30=>?_
   refine T1 (fun _=>T2 (err _ (by decide))) fun hc4=>?_
   have hz:=QlC (QDd _ _ _ h.k.1) h30.1 (by simpa using hc4)
   have h30:=h30.2 (by simpa using hc4)
   refine T0 (T4 (by omega) (by omega)).self fun e32 h32e=>?_
   have h32:=h32e.2
   have h32e:=h32e.1
   have h29:=h29.1
   rw [Qt6,QI h30]
   simp only [cond_true,Ql]
   have hb:=hJ2 e32 h32
   have key:∃s,Qe9 e32 [(x30.1,1)]=some s/\(s.2=0->(Rt s.1/\s.1.length<=e32.length+1)/\∀k,QB s.1 k=QB e32 k+QB [(x30.1,1)] k):=by
    rcases QkP e32 [(x30.1,1)] (by simp;omega)with⟨_,e⟩|⟨_,_,_,e⟩|⟨_,_,r,e,h1,hcn,h2⟩
    ·exact⟨_,e,fun h=>by cases h⟩
    ·exact⟨_,e,fun h=>by cases h⟩
    exact⟨_,e,fun _=>⟨⟨h1,by simpa using h2⟩,hcn⟩⟩
   obtain⟨s,es,hs⟩:=key
   rw [es,Ql]
   refine T0 (T4 (by omega) (by omega)) fun _ _=>?_
   refine T1 (fun hc5=>T2 (err _ (by simpa using hc5))) fun hc5=>?_
   obtain⟨hs,hcn⟩:=hs (by simpa using hc5)
   refine T2 (QL ⟨by omega,by subst hi;exact Qx (by omega) (by unfold maxLen;omega:which.length<=maxLen),⟨by simpa using hJ1,fun b hb'=>?_⟩,fun j b p hb' hp k hk=>?_⟩)
   ·subst hi
    show Rt b/\(b.length:Int)<=w64 ((i:Int)+1)
    rw [Qx (by omega) (by unfold maxLen;omega:which.length<=maxLen)]
    rcases Qn7 hb' with rfl | hb'
    ·exact⟨hs.1,by omega⟩
    have:=hJ2 b hb'
    exact⟨this.1,by omega⟩
   have hb':(m.set e25.Place.toNat s.1)[j]? = some b:=hb'
   by_cases cj:e25.Place.toNat=j
   ·subst cj
    rw [List.getElem?_set_self (by omega)]at hb'
    cases hb'
    rw [QeY (by omega)]at h29 h32e
    rw [h29]at hp
    cases hp
    rw [hcn]at hk
    by_cases c0:0<QB e32 k
    ·exact hJ3 _ e32 e29 h32e h29 k c0
    have h9:0<QB [(x30.1,1)] k:=by omega
    have h8:x30.1=k:=by
     apply Decidable.byContradiction
     intro hne
     simp [QB,QX,hne]at h9
    obtain⟨z,hz1,hz2⟩:=hz
    exact⟨z,hz1,by omega⟩
   rw [List.getElem?_set_ne cj]at hb'
   exact hJ3 j b p hb' hp k hk
  cases e
  exact⟨⟨hJ1,fun b hb=>⟨(hJ2 b hb).1,by have:=(hJ2 b hb).2;omega⟩⟩,hJ3⟩
 rcases q with q | q
 ·exact T2 fun h=>absurd h (hq.1 q rfl)
 exact T2 fun _=>hq.2 q rfl
theorem QxL (a m:List (List (Int×Int)))(ha:QJ (QJ fun _=>True) a)(hm:QJ (QJ fun _=>True) m):Qj (Qfr a m) fun _=>True:=by
 unfold Qfr Qaf
 refine T0 (P:=fun _=>True) ?_ fun _ _=>T3
 refine T1 (fun _=>T3) fun hc=>?_
 simp only [bne_eq_false_iff_eq]at hc
 refine T0 (Qj.up a.length (fun st=>st) (fun _=>True) (Q:=fun _=>True) rfl trivial (fun i st hi hn hJ=>?_)) (fun q _=>?_)
 ·show Qj (QM a m st) _
  unfold QM
  refine T1 (fun hc=>?_) (fun _=>T2 (Qt trivial))
  simp only [QN]at hc
  refine T0 (T4 (by omega) (by omega)) fun x hx=>?_
  refine T0 (T4 (by omega) (by omega)) fun y hy=>?_
  refine T0 (P:=fun _=>True) (by obtain⟨r,hr,_⟩:=QnG x y (ha.2 x hx).1 (hm.2 y hy).1;exact⟨r,hr,trivial⟩) fun _ _=>?_
  exact T1 (fun _=>T2 (Qt trivial)) fun _=>T2 (QL ⟨by omega,by rw [hi];exact Qx (by omega) ha.1,trivial⟩)
 rcases q with q | q
 ·exact T3
 exact T3
theorem MOk.len {n:Qq}{c:Nat}{m:List (List (Int×Int))}(h:MOk n c m)(hn:Qal n)(hc:c<=1000000):QJ (QJ fun _=>True) m:=
 ⟨by have:=h.1;have:=hn.pl;unfold maxLen;omega,fun b hb=>⟨by have:=(h.2 b hb).2;unfold maxLen;omega,fun _ _=>trivial⟩⟩
end Go.Proofs
noncomputable section
namespace Go.Proofs
open Go Go.RowKit Go.Vm
structure BOk (n:Qq) (m:List (List (Int×Int))) (b:QO):Prop where
 net:b.net=n
 mm:b.m=m
 task:b.task∈n.Tasks
theorem Qzt (n:Qq)(m:List (List (Int×Int)))(task:Int)(vars:List Int)(h:Qal n):Qj (Qa9 n m task vars) fun r=>r.1=0->BOk n m r.2:=by
 unfold Qa9
 refine T0 (QCi n task vars h) fun x hx=>?_
 refine T1 (fun hc=>T2 fun h=>absurd h (by simpa using hc)) fun hc=>?_
 have:=hx (by simpa using hc)
 exact T0 (T4 this.1 this.2) fun e he=>T2 fun _=>⟨rfl,rfl,he⟩
theorem QvQ (n:Qq)(m:List (List (Int×Int)))(b:QO)(h:Qal n)(hb:BOk n m b):Qj (Q7 b) fun _=>True:=by
 unfold Q7
 refine T0 (QDe _ _ (h.k.2.2.1.2 _ hb.task).2.2.1) fun x _=>?_
 exact T1 (fun _=>T3) fun _=>T1 (fun _=>T3) fun _=>T3
theorem Qtc (n:Qq)(m:List (List (Int×Int)))(b:QO)(outs:List Int)(h:Qal n)(hb:BOk n m b)(ho:outs.length<=1000):Qj (Qaj b outs) fun _=>True:=by
 unfold Qaj
 rw [hb.net]
 exact T0 (QmO n _ outs _ h (h.k.2.2.1.2 _ hb.task).2.2.2.2.2.2.1 ho) fun x _=>T3
theorem QCj (l:List Int)(x:Int)(h:l.length<=maxLen):Qj (QaE l x) fun _=>True:=Qim l x ⟨h,fun _ _=>trivial⟩
theorem QfO (l:List Int)(h:l.length<=4294967296):QaL l=some l:=by
 unfold QaL
 rw [QgA (by simp;omega)];rfl
theorem QAT (l:List Int)(h:l.length<=4294967296):QcL l=some (QeD l):=by
 unfold QcL
 rw [QgA (by omega)];rfl
theorem Qzu (n:Qq)(m:List (List (Int×Int)))(b:QO)(ins:List Int)(h:Qal n)(hb:BOk n m b)(hm:QJ (QJ fun _=>True) m)(hi:ins.length<=100):Qj (Q0 b ins) fun _=>True:=by
 have ki:=(h.k.2.2.1.2 _ hb.task).2.2.2.2.2.1
 have kl:=(h.tk _ hb.task).2.1
 unfold Q0
 rw [hb.net,hb.mm]
 refine T0 (QmO n _ ins _ h ki (by omega)) fun x hx=>?_
 refine T1 (fun _=>T3) fun hc=>?_
 have hx:=hx (by simpa using hc)
 refine T0 (QxL _ _ (hx.1.len h (by omega)) hm) fun y _=>?_
 refine T1 (fun _=>T3) fun _=>T1 (fun _=>T3) fun _=>?_
 refine T0 (Qj.up b.task.Ins.length (fun st=>st) (fun _=>True) (Q:=fun _=>True) rfl trivial (fun i st hi hn _=>?_)) (fun q _=>?_)
 ·show Qj (Qam b ins st) _
  unfold Qam
  refine T1 (fun hc=>?_) (fun _=>T2 (Qt trivial))
  simp only [QN]at hc
  have step:Qj (Qcs st) fun o=>(∀s',o=.inl s'->i<b.task.Ins.length/\s'=((i+1:Nat):Int)/\True)/\∀r:Unit⊕Unit,o=.inr r->True:=
   T2 (QL (ix:=fun st=>st) (J:=fun _=>True) (Q:=fun _=>True) ⟨by omega,by rw [hi];exact Qx (by omega) ki.1,trivial⟩)
  refine T0 (QCj ins st (by unfold maxLen;omega)) fun z _=>?_
  refine T1 (fun _=>step) fun _=>?_
  rw [QfO ins (by omega),Ql]
  refine T0 (T5 (by simp;omega)) fun _ _=>?_
  rw [QAT _ (by simp;omega),Ql]
  refine T0 (T5 (by simp [Qik])) fun _ _=>?_
  rw [hb.net]
  refine T0 (QmO n _ _ _ h ki (by rw [Qik];simp;omega)) fun u hu=>?_
  refine T0 (P:=fun _=>True) ?_ fun v _=>?_
  ·unfold Qhk
   rw [hb.mm]
   refine T1 (fun hc2=>?_) fun _=>T3
   have hu:=hu (by simpa using hc2)
   refine T0 (QxL _ _ (hu.1.len h (by rw [Qik];simp;omega)) hm) fun _ _=>T3
  unfold Qdt
  exact T1 (fun _=>T2 (Qt trivial)) fun _=>step
 rcases q with q | q
 ·exact T3
 exact T3
def Qeq (r:List (List Int)):Prop:=r.length<=16/\∀row∈r,row.length<=16
def chB (o:Option (List (List Int))):Bool:=match o with
 | some r=>decide (r.length<=16)&&r.all fun row=>decide (row.length<=16)
 | none=>false
theorem QAU {o:Option (List (List Int))}(h:chB o=true):Qj o Qeq:=by
 cases o with
 | none=>cases h
 | some r=>
  simp only [chB,QA,QN,Qad]at h
  exact T2 h
theorem QAV {arcs:Int}(h0:¬arcs<0)(h1:¬16<arcs):arcs=0\/arcs=1\/arcs=2\/arcs=3\/arcs=4\/arcs=5\/arcs=6\/arcs=7\/arcs=8\/arcs=9\/arcs=10\/arcs=11\/arcs=12\/arcs=13\/arcs=14\/arcs=15\/arcs=16:=by omega
set_option maxRecDepth 100000 in
theorem QmU (kind arcs:Int):Qj (QaF kind arcs) Qeq:=by
 by_cases hg:((decide (arcs<0))||((decide (16<arcs))||((kind==3)&&(decide (4<arcs)))))=true
 ·unfold QaF
  rw [hg]
  exact T2 ⟨by simp,fun r h=>by cases h⟩
 simp only [Qcz,QA,QN,beq_iff_eq,not_or,not_and]at hg
 obtain⟨h0,h1,h2⟩:=hg
 by_cases e1:kind=1
 ·subst e1
  rcases QAV h0 h1 with rfl | rfl | rfl | rfl | rfl | rfl | rfl | rfl | rfl | rfl | rfl | rfl | rfl | rfl | rfl | rfl | rfl<;>exact QAU (by kernel_rfl)
 by_cases e2:kind=2
 ·subst e2
  rcases QAV h0 h1 with rfl | rfl | rfl | rfl | rfl | rfl | rfl | rfl | rfl | rfl | rfl | rfl | rfl | rfl | rfl | rfl | rfl<;>exact QAU (by kernel_rfl)
 by_cases e3:kind=3
 ·subst e3
  have h3:=h2 rfl
  have:arcs=0\/arcs=1\/arcs=2\/arcs=3\/arcs=4:=by omega
  rcases this with rfl | rfl | rfl | rfl | rfl<;>exact QAU (by kernel_rfl)
 have f1:(kind==1)=false:=by simpa using e1
 have f2:(kind==2)=false:=by simpa using e2
 have f3:(kind==3)=false:=by simpa using e3
 unfold QaF QfA
 rw [f1,f2,f3]
 exact T1 (fun _=>T2 ⟨by simp,fun r h=>by cases h⟩) fun _=>T2 ⟨by simp,fun r h=>by cases h⟩
theorem QEJ (a b:List Int)(ha:a.length<=maxLen):Qj (QbD a b) fun _=>True:=by
 unfold QbD
 refine T1 (fun _=>T3) fun hc=>?_
 simp only [bne_eq_false_iff_eq]at hc
 refine T0 (Qj.up a.length (fun st=>st) (fun _=>True) (Q:=fun _=>True) rfl trivial (fun i st hi hn hJ=>?_)) (fun q _=>?_)
 ·show Qj (QbH a b st) _
  unfold QbH
  refine T1 (fun hc=>?_) (fun _=>T2 (Qt trivial))
  simp only [QN]at hc
  refine T0 (T4 (by omega) (by omega)) fun x hx=>?_
  refine T0 (T4 (by omega) (by omega)) fun y hy=>?_
  exact T1 (fun _=>T2 (Qt trivial)) fun _=>T2 (QL ⟨by omega,by rw [hi];exact Qx (by omega) ha,trivial⟩)
 rcases q with q | q
 ·exact T3
 exact T3
theorem QAW (kind arcs:Int)(row:List Int):Qj (Qez kind arcs row) fun _=>True:=by
 unfold Qez QcS QdC
 refine T0 (QmU kind arcs) fun x hx=>?_
 refine T0 (P:=fun _=>True) ?_ fun _ _=>T3
 refine T0 (P:=fun _=>True) ?_ fun _ _=>T3
 have hl:=hx.1
 refine T0 (Qj.up x.length (fun st=>st) (fun _=>True) (Q:=fun _=>True) rfl trivial (fun i st hi hn hJ=>?_)) (fun q _=>?_)
 ·show Qj (Qaw x row st) _
  unfold Qaw QjH
  refine T1 (fun hc=>?_) (fun _=>T2 (Qt trivial))
  simp only [QN]at hc
  refine T0 (T4 (by omega) (by omega)) fun e he=>?_
  have:=hx.2 e he
  refine T0 (T0 (QEJ e row (by unfold maxLen;omega)) fun _ _=>T3) fun _ _=>?_
  exact T1 (fun _=>T2 (Qt trivial)) fun _=>T2 (QL ⟨by omega,by rw [hi];exact Qx (by omega) (by unfold maxLen;omega:x.length<=maxLen),trivial⟩)
 rcases q with q | q
 ·exact T3
 exact T3
def QaY (n:Qq)(o:Qh):Prop:=o.Vars.length<=20/\o.Ins.length<=20/\o.Outs.length<=20
theorem Qzv (n:Qq)(m:List (List (Int×Int)))(o:Qh)(h:Qal n)(hm:QJ (QJ fun _=>True) m)(ho:QaY n o):Qj (Qck n m o) fun _=>True:=by
 unfold Qck
 refine T0 (Qzt n m o.Task o.Vars h) fun x hx=>?_
 have k3:∀e,(e=0->x.1=0)->Qj (QbB x o e) fun _=>True:=fun e he=>by
  unfold QbB
  refine T1 (fun _=>T3) fun hc=>?_
  have hb:=hx (he (by simpa using hc))
  refine T0 (P:=fun _=>True) ?_ fun y _=>?_
  ·unfold QgZ
   refine T0 (QAW _ _ _) fun z _=>?_
   exact T1 (fun _=>T3) fun _=>T0 (QAW _ _ _) fun _ _=>T3
  unfold Qef
  refine T1 (fun _=>T3) fun _=>?_
  refine T0 (Qzu n m x.2 o.Ins h hb hm (by have:=ho.2.1;omega)) fun z _=>?_
  refine T1 (fun _=>T3) fun _=>?_
  exact T0 (Qtc n m x.2 o.Outs h hb (by have:=ho.2.2;omega)) fun _ _=>T3
 refine T1 (fun hc=>?_) fun hc=>k3 _ fun h=>h
 have hc:x.1=0:=by simpa using hc
 exact T0 (QvQ n m x.2 h (hx hc)) fun e _=>k3 e fun _=>hc
theorem QBz (n:Qq)(o:Qh)(h:Qal n)(ho:QaY n o):Qj (Qdu n o) fun r=>r.2=0->MOk n 20 r.1/\Low n r.1:=by
 unfold Qdu
 refine T0 (QCi n o.Task o.Vars h) fun x hx=>?_
 refine T1 (fun hc=>T2 fun h=>absurd h (by simpa using hc)) fun hc=>?_
 have:=hx (by simpa using hc)
 refine T0 (T4 this.1 this.2) fun e he=>?_
 have hl:=ho.2.1
 exact T0 (QmO n _ _ _ h (h.k.2.2.1.2 _ he).2.2.2.2.2.1 (by omega)) fun y hy=>T2 fun h0=>⟨(hy h0).1.mono hl,(hy h0).2⟩
theorem QBA (n:Qq)(o:Qh)(h:Qal n)(ho:QaY n o):Qj (Qkz n o) fun r=>r.2=0->(MOk n 20 r.1/\Low n r.1)/\0<=o.Task/\o.Task<n.Tasks.length:=by
 unfold Qkz
 refine T0 (QCi n o.Task o.Vars h) fun x hx=>?_
 refine T1 (fun hc=>T2 fun h=>absurd h (by simpa using hc)) fun hc=>?_
 have:=hx (by simpa using hc)
 refine T0 (T4 this.1 this.2) fun e he=>?_
 have hl:=ho.2.2
 exact T0 (QmO n _ _ _ h (h.k.2.2.1.2 _ he).2.2.2.2.2.2.1 (by omega)) fun y hy=>T2 fun h0=>⟨⟨(hy h0).1.mono hl,(hy h0).2⟩,this⟩
end Go.Proofs
