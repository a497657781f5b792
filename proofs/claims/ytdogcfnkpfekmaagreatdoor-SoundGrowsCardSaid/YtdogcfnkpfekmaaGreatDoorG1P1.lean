/- A part of the proof; what it holds is told at each theorem. -/
import Derived.Test.YtdogcfnkpfekmaaGreatDoorG1XPlA
import Derived.Test.YtdogcfnkpfekmaaGreatDoorG1V3
import Derived.Test.YtdogcfnkpfekmaaGreatDoorG1T2
import Derived.KernelRfl
set_option linter.all false
namespace Go.Vm
open Go Go.RowKit
def Qd {α:Type}(o:O_ α)(Q:α->Prop):Prop:=∃r,o=some r/\Q r
section
variable {α β σ ρ:Type}
def Qd.ok {a:α}{Q:α->Prop}(h:Q a):Qd (some a) Q:=⟨a,rfl,h⟩
def Qd.okT {a:α}:Qd (some a) λ_=>True:=⟨a,rfl,trivial⟩
def Qd.bind {o:O_ α}{f:α->O_ β}{P:α->Prop}{Q:β->Prop}(h:Qd o P)(k:∀x,P x->Qd (f x) Q):Qd (o.bind f) Q:=by
 obtain⟨x,rfl,D⟩:=h
 exact k x D
def Qd.bif {c:Bool}{a b:O_ α}{Q:α->Prop}(h:c=true->Qd a Q)(D:c=false->Qd b Q):Qd (bif c then a else b) Q:=by
 cases c with
 | true=>exact h rfl
 | false=>exact D rfl
def Qd.chk {c:Bool}(h:c=true):Qd (chk c) λ_=>True:=⟨(),Rz h,trivial⟩
def Qd.idx {l:L_ α}{j:Int}(h:0<=j)(D:j<l.length):Qd (idx l j) λx=>x∈l:=by
 rw[Qca h D]
 exact⟨_,rfl,Yf _⟩
def Qd.get {l:L_ α}{j:Nat}(h:j<l.length):Qd (l[j]?) λx=>x∈l:=by
 rw[Qz h]
 exact⟨_,rfl,Yf _⟩
def Qd.sidx {s:ByteArray}{j:Int}(h:0<=j)(D:j<s.size):Qd (sidx s j) λ_=>True:=by
 unfold Vm.sidx
 rw[if_pos h]
 have:j.toNat<s.size:=by omega
 rw[getElem?_pos s j.toNat this]
 exact⟨_,rfl,trivial⟩
def Qd.mono {o:O_ α}{P Q:α->Prop}(h:Qd o P)(k:∀x,P x->Q x):Qd o Q:=let ⟨r,h1,h2⟩:=h;⟨r,h1,k r h2⟩
def Qd.tot {o:O_ α}{P:α->Prop}(h:Qd o P):∃r,o=some r:=let ⟨r,h1,_⟩:=h;⟨r,h1⟩
def Qd.self {o:O_ α}{P:α->Prop}(h:Qd o P):Qd o λx=>o=some x/\P x:=let ⟨r,h1,h2⟩:=h;⟨r,h1,h1,h2⟩
def Qd.up {body:σ->O_ (σ⊕ρ)}(n:Nat)(ix:σ->Int)(J:σ->Prop){Q:ρ->Prop}{s0:σ}(h0:ix s0=0)(hJ:J s0)
  (D:∀(i:Nat) s,ix s=(i:Int)->i<=n->J s->Qd (body s) λo=>(∀h,o=.inl h->i<n/\ix h=((i+1:Nat):Int)/\J h)/\∀r,o=.inr r->Q r):Qd (QD body s0) Q:=by
 have key:∀k i s,i+k=n->ix s=(i:Int)->J s->∃r,QD body s=some r/\Q r:=by
  intro k
  induction k with
  | zero=>
   intro i s hk hi hj
   obtain⟨o,ho,h1,h2⟩:=D i s hi (by omega) hj
   rw[WL,ho]
   cases o with
   | inl h=>have:=(h1 h rfl).1;omega
   | inr r=>exact⟨r,rfl,h2 r rfl⟩
  | succ k ih=>
   intro i s hk hi hj
   obtain⟨o,ho,h1,h2⟩:=D i s hi (by omega) hj
   rw[WL,ho]
   cases o with
   | inl h=>
    obtain⟨_,h3,h4⟩:=h1 h rfl
    exact ih (i+1) h (by omega) h3 h4
   | inr r=>exact⟨r,rfl,h2 r rfl⟩
 exact key n 0 s0 (by omega) h0 hJ
def QO {s:σ}{n i:Nat}{ix:σ->Int}{J:σ->Prop}{Q:ρ->Prop}(h:i<n/\ix s=((i+1:Nat):Int)/\J s):
  (∀D,(Sum.inl s:σ⊕ρ)=.inl D->i<n/\ix D=((i+1:Nat):Int)/\J D)/\∀r,(Sum.inl s:σ⊕ρ)=.inr r->Q r:=
 ⟨λD e=>(by cases e;exact h),λr e=>(by cases e)⟩
def Qn {r:ρ}{n i:Nat}{ix:σ->Int}{J:σ->Prop}{Q:ρ->Prop}(h:Q r):
  (∀D,(Sum.inr r:σ⊕ρ)=.inl D->i<n/\ix D=((i+1:Nat):Int)/\J D)/\∀r',(Sum.inr r:σ⊕ρ)=.inr r'->Q r':=
 ⟨λD e=>(by cases e),λr' e=>(by cases e;exact h)⟩
end
def Xa {α:Type}(ok:α->Prop)(l:L_ α):Prop:=l.length<=maxLen/\∀x∈l,ok x
def Xa.drop {α:Type}{ok:α->Prop}{l:L_ α}(h:Xa ok l)(k:Nat):Xa ok (l.drop k):=⟨by have:=h.1;rw[LB];omega,λx D=>h.2 x (Rg D)⟩
def Xa.take {α:Type}{ok:α->Prop}{l:L_ α}(h:Xa ok l)(k:Nat):Xa ok (l.take k):=⟨by have:=h.1;rw[Wo];omega,λx D=>h.2 x (UT D)⟩
def Xa.nil {α:Type}{ok:α->Prop}:Xa ok ([]:L_ α):=⟨by simp,λx h=>by cases h⟩
def Xa.app {α:Type}{ok:α->Prop}{l m:L_ α}(h:Xa ok l)(hm:Xa ok m)(hs:l.length+m.length<=maxLen):Xa ok (l++m):=⟨by simpa using hs,λx hx=>by rcases YF.1 hx with D | D;exact h.2 x D;exact hm.2 x D⟩
def Ux (s:ByteArray):Prop:=s.size<=maxLen
def Qk1 {s:ByteArray}(h:BV s (⟨#[]⟩:ByteArray)=false):0<s.size:=by
 apply Nat.pos_of_ne_zero
 intro D
 have:s=⟨#[]⟩:=by
  obtain⟨a⟩:=s
  have:a=#[]:=Array.eq_empty_of_size_eq_zero D
  rw[this]
 subst this
 simp[BV]at h
def ME {a b:Int}:0<=min2 a b↔0<=a/\0<=b:=by unfold min2;split<;>omega
def MF {a b n:Int}:max2 a b<n↔a<n/\b<n:=by unfold max2;split<;>omega
def IB {a b n:Int}:max2 a b<=n↔a<=n/\b<=n:=by unfold max2;split<;>omega
abbrev T0:=@Qd.bind
abbrev T1:=@Qd.bif
abbrev T2:=@Qd.ok
abbrev T3:=@Qd.okT
abbrev T4:=@Qd.idx
abbrev T5:=@Qd.chk
abbrev T6:=@Qd.mono
def FV (l:L_ (Int×Int)):Prop:=l.Pairwise λp q=>p.1<q.1
def OX (l:L_ (Int×Int)):Prop:=l.Pairwise λp q=>p.1≠q.1
def FV.nd {l:L_ (Int×Int)}(h:FV l):OX l:=h.imp λh=>by omega
def Ul {p:Int×Int}{l:L_ (Int×Int)}:FV (p::l)↔(∀q∈l,p.1<q.1)/\FV l:=Tn
def Qi2 {p:Int×Int}{l:L_ (Int×Int)}:OX (p::l)↔(∀q∈l,p.1≠q.1)/\OX l:=Tn
def Qfz {l:L_ (Int×Int)}{k:Int}:Qq l k=none↔∀p∈l,p.1≠k:=by
 induction l with
 | nil=>simp[Qq]
 | cons p l D=>
  obtain⟨a,x⟩:=p
  rw[XT]
  by_cases h:a=k
  ·simp[h]
  simp[h,D]
def DL {l:L_ (Int×Int)}(hn:OX l){k v:Int}:Qq l k=some v↔(k,v)∈l:=by
 induction l with
 | nil=>simp[Qq]
 | cons p l ih=>
  obtain⟨a,x⟩:=p
  obtain⟨D,h2⟩:=Qi2.1 hn
  rw[XT]
  by_cases h:a=k
  ·subst h
   rw[if_pos rfl]
   constructor
   ·intro e;cases e;simp
   intro e
   rcases Yg.1 e with e | e
   ·cases e;rfl
   exact absurd rfl (D (a,v) e)
  rw[if_neg h,ih h2]
  constructor
  ·intro e;exact XR _ e
  intro e
  rcases Yg.1 e with e | e
  ·cases e;exact absurd rfl h
  exact e
def Qk2 {l m:L_ (Int×Int)}(hl:OX l)(h:l.Perm m)(k:Int):Qq l k=Qq m k:=by
 have hm:OX m:=(h.pairwise_iff (λD=>Ne.symm D)).1 hl
 apply Option.ext
 intro v
 rw[DL hl,DL hm]
 exact h.mem_iff
def Qi3 {l m:L_ (Int×Int)}(hl:FV l)(hm:FV m)(h:∀k,Qq l k=Qq m k):l=m:=by
 induction l generalizing m with
 | nil=>
  cases m with
  | nil=>rfl
  | cons p m=>have:=h p.1;rw[XT (κ:=Int)]at this;simp[Qq]at this
 | cons p l ih=>
  obtain⟨a,x⟩:=p
  cases m with
  | nil=>have:=h a;rw[XT]at this;simp[Qq]at this
  | cons q m=>
   obtain⟨b,y⟩:=q
   obtain⟨l1,l2⟩:=Ul.1 hl
   obtain⟨m1,m2⟩:=Ul.1 hm
   have D:a=b:=by
    rcases Int.lt_trichotomy a b with hc | hc | hc
    ·have e:=h a
     rw[XT,XT,if_pos rfl,if_neg (by omega),Qfz.2 (λp hp=>by have:=m1 p hp;simp at this;omega)]at e
     cases e
    ·exact hc
    have e:=h b
    rw[XT,XT,if_neg (by omega),if_pos rfl,Qfz.2 (λp hp=>by have:=l1 p hp;simp at this;omega)]at e
    cases e
   subst D
   have e:=h a
   rw[XT,XT,if_pos rfl,if_pos rfl]at e
   cases e
   rw[ih l2 m2 λk=>?_]
   by_cases hk:a=k
   ·subst hk
    rw[Qfz.2 (λp hp=>by have:=l1 p hp;simp at this;omega),Qfz.2 (λp hp=>by have:=m1 p hp;simp at this;omega)]
   have:=h k
   rwa[XT,XT,if_neg hk,if_neg hk]at this
def Qn6 {l:L_ (Int×Int)}{k v:Int}{p:Int×Int}(h:p∈Bh l k v):∃q∈l,q.1=p.1:=by
 induction l with
 | nil=>cases h
 | cons q l ih=>
  obtain⟨a,x⟩:=q
  rw[Bh]at h
  split at h
  ·rename_i e
   rcases Yg.1 h with rfl | h
   ·exact⟨_,XM,e⟩
   exact⟨p,XR _ h,rfl⟩
  rcases Yg.1 h with rfl | h
  ·exact⟨_,XM,rfl⟩
  obtain⟨q,D,h2⟩:=ih h
  exact⟨q,XR _ D,h2⟩
def Qme {lt:Int->Int->Bool}{l:L_ (Int×Int)}{k v:Int}{p:Int×Int}(h:p∈UB lt l k v):p=(k,v)\/p∈l:=by
 induction l with
 | nil=>simp[UB]at h;exact .inl h
 | cons q l D=>
  obtain⟨a,x⟩:=q
  rw[UB]at h
  split at h
  ·rcases Yg.1 h with h | h
   ·exact .inl h
   exact .inr h
  rcases Yg.1 h with h | h
  ·exact .inr (h▸XM)
  rcases D h with h | h
  ·exact .inl h
  exact .inr (XR _ h)
def Qih {l:L_ (Int×Int)}(h:FV l)(k v:Int):FV (XD KM l k v):=by
 unfold XD
 split
 ·rename_i x hx
  clear hx
  induction l with
  | nil=>exact h
  | cons p l ih=>
   obtain⟨a,x⟩:=p
   obtain⟨h1,h2⟩:=Ul.1 h
   rw[Bh]
   split
   ·rename_i e;subst e;exact Ul.2 ⟨h1,h2⟩
   refine Ul.2 ⟨λq D=>?_,ih h2⟩
   obtain⟨q',hq',e⟩:=Qn6 D
   rw[<-e];exact h1 _ hq'
 rename_i hn
 induction l with
 | nil=>exact Tp _ _
 | cons p l ih=>
  obtain⟨a,x⟩:=p
  obtain⟨h1,h2⟩:=Ul.1 h
  rw[XT]at hn
  split at hn
  ·cases hn
  rename_i hne
  rw[UB]
  split
  ·rename_i e
   have e:k<a:=Xs e
   refine Ul.2 ⟨λq D=>?_,h⟩
   rcases Yg.1 D with rfl | D
   ·exact e
   have:=h1 q D;simp at this ⊢;omega
  rename_i e
  have e:¬k<a:=λc=>e (Yw c)
  refine Ul.2 ⟨λq D=>?_,ih h2 hn⟩
  rcases Qme D with rfl | D
  ·show a<k;omega
  exact h1 q D
def Qmf {l:L_ (Int×Int)}{k v:Int}:(Bh l k v).length=l.length:=by
 induction l with
 | nil=>rfl
 | cons p l h=>
  obtain⟨a,x⟩:=p
  rw[Bh]
  split
  ·rfl
  simp[h]
def Qmg {lt:Int->Int->Bool}{l:L_ (Int×Int)}{k v:Int}:(UB lt l k v).length=l.length+1:=by
 induction l with
 | nil=>rfl
 | cons p l h=>
  obtain⟨a,x⟩:=p
  rw[UB]
  split
  ·rfl
  simp[h]
def Qmh {l:L_ (Int×Int)}{k v:Int}:(XD KM l k v).length<=l.length+1:=by
 unfold XD
 split
 ·rw[Qmf];omega
 rw[Qmg];exact Jn _
def Qmi {l:L_ (Int×Int)}{k v:Int}(h:FV (l++[(k,v)])):XD KM l k v=l++[(k,v)]:=by
 have hl:FV l:=(QeM.1 h).1
 refine Qi3 (Qih hl k v) h λj=>?_
 rw[JJ]
 have D:∀p∈l,p.1<k:=λp hp=>(QeM.1 h).2.2 p hp (k,v) (by simp)
 clear h
 induction l with
 | nil=>
  show(if j=k then some v else none)=(if k=j then some v else none)
  by_cases c:j=k
  ·rw[if_pos c,if_pos c.symm]
  rw[if_neg c,if_neg (λe=>c e.symm)]
 | cons p l ih=>
  obtain⟨a,x⟩:=p
  have h1:=D (a,x) XM
  simp only at h1
  rw[List.cons_append,XT,XT]
  rw[<-ih (Ul.1 hl).2 λp hp=>D p (XR _ hp)]
  by_cases c:j=k
  ·subst c;rw[if_pos rfl,if_pos rfl,if_neg (by omega)]
  rw[if_neg c,if_neg c]
section
variable {ρ:Type}{g:Int->Int->Int}{stop:Int->Bool}{q:O_ ρ}{body:L_ (Int×Int)->Int×Int->O_ (L_ (Int×Int)⊕ρ)}
def QY (s:L_ (Int×Int))(k:Int):Int:=(Qq s k).getD 0
def QcO (g:Int->Int->Int)(s l:L_ (Int×Int))(k:Int):O_ Int:=match Qq l k with
 | some v=>some (g (QY s k) v)
 | none=>Qq s k
def QaB (hb:∀s p,body s p=bif stop (g (QY s p.1) p.2)then q.map Sum.inr else some (.inl (XD KM s p.1 (g (QY s p.1) p.2)))):
  ∀l s,FV s->OX l->((∃p∈l,stop (g (QY s p.1) p.2)=true)/\Jt body s l=q.map Sum.inr)\/
   ((∀p∈l,stop (g (QY s p.1) p.2)=false)/\∃s',Jt body s l=some (.inl s')/\FV s'/\s'.length<=s.length+l.length/\∀k,Qq s' k=QcO g s l k):=by
 intro l
 induction l with
 | nil=>intro s hs _;exact .inr ⟨λp h=>(by cases h),s,rfl,hs,by simp,λk=>rfl⟩
 | cons p l ih=>
  intro s hs hl
  obtain⟨h1,h2⟩:=Qi2.1 hl
  simp only[Jt,hb]
  cases hst:stop (g (QY s p.1) p.2)with
  | true=>exact .inl ⟨⟨p,XM,hst⟩,by cases q<;>rfl⟩
  | false=>
   simp only[Xw,Qf,Sum.elim_inl]
   have hc:∀r∈l,QY (XD KM s p.1 (g (QY s p.1) p.2)) r.1=QY s r.1:=λr D=>by
    unfold QY
    rw[JJ,if_neg (λe=>h1 r D e.symm)]
   rcases ih _ (Qih hs p.1 (g (QY s p.1) p.2)) h2 with⟨⟨r,D,h3⟩,h4⟩|⟨h3,s',h4,h5,h6,h7⟩
   ·exact .inl ⟨⟨r,XR _ D,by rw[hc r D]at h3;exact h3⟩,h4⟩
   refine .inr ⟨λr D=>?_,s',h4,h5,?_,λk=>?_⟩
   ·rcases Yg.1 D with rfl | D
    ·exact hst
    have:=h3 r D;rwa[hc r D]at this
   ·have:=Qmh (l:=s) (k:=p.1) (v:=g (QY s p.1) p.2)
    simp;omega
   rw[h7]
   obtain⟨a,x⟩:=p
   unfold QcO
   rw[XT]
   by_cases e:a=k
   ·subst e
    rw[if_pos rfl,Qfz.2 (λr D=>Ne.symm (h1 r D)),JJ,if_pos rfl]
   rw[if_neg e]
   simp only[QY,JJ,if_neg (λe'=>e (Eq.symm e'):¬k=a)]
def QfA (hb:∀s p,body s p=bif stop (g (QY s p.1) p.2)then q.map Sum.inr else some (.inl (XD KM s p.1 (g (QY s p.1) p.2)))){l s:L_ (Int×Int)}(hs:FV s)(hl:OX l):
  ((∃p∈l,stop (g (QY s p.1) p.2)=true)/\∀r,q=some r->CC body s l=some (.inr r))\/
   ((∀p∈l,stop (g (QY s p.1) p.2)=false)/\∃s',CC body s l=some (.inl s')/\FV s'/\s'.length<=s.length+l.length/\∀k,Qq s' k=QcO g s l k):=by
 have key:∀l':L_ (Int×Int),l'.Perm l->Jt body s l'=Jt body s l:=λl' hp=>by
  have hl':OX l':=(hp.pairwise_iff (λhab=>Ne.symm hab)).2 hl
  rcases QaB hb l' s hs hl' with⟨⟨p,h,h2⟩,D⟩|⟨h,s1,D,h4,_,h5⟩
  ·rcases QaB hb l s hs hl with⟨_,g3⟩|⟨g1,_⟩
   ·rw[D,g3]
   rw[g1 p (hp.mem_iff.1 h)]at h2;cases h2
  rcases QaB hb l s hs hl with⟨⟨p,g1,g2⟩,g3⟩|⟨g1,s2,g3,g4,_,g5⟩
  ·rw[h p (hp.mem_iff.2 g1)]at g2;cases g2
  rw[D,g3,Qi3 h4 g4 λk=>?_]
  rw[h5,g5]
  unfold QcO
  rw[Qk2 hl' hp k]
 rcases QaB hb l s hs hl with⟨h,D⟩|⟨h,s1,D,h4,h6,h5⟩
 ·exact .inl ⟨h,λr hr=>BY.2 ⟨key,by rw[D,hr];rfl⟩⟩
 exact .inr ⟨h,s1,BY.2 ⟨key,D⟩,h4,h6,h5⟩
end
def QjP {ρ:Type}{bad:Int×Int->Bool}{q:ρ}{body:Unit->Int×Int->O_ (Unit⊕ρ)}(D:∀p,body () p=some (bif bad p then .inr q else .inl ()))(l:L_ (Int×Int)):
  CC body () l=some (bif l.any bad then .inr q else .inl ()):=by
 have h:∀l:L_ (Int×Int),Jt body () l=some (bif l.any bad then .inr q else .inl ()):=by
  intro l
  induction l with
  | nil=>rfl
  | cons p l ih=>
   simp only[Jt,D,Qf,List.any_cons]
   cases bad p with
   | true=>rfl
   | false=>exact ih
 refine BY.2 ⟨λl' hp=>?_,h l⟩
 rw[h,h]
 congr 2
 rw[Ti,HH,HH]
 exact⟨λ⟨x,a,b⟩=>⟨x,hp.mem_iff.1 a,b⟩,λ⟨x,a,b⟩=>⟨x,hp.mem_iff.2 a,b⟩⟩
def BH (a:Int):L_ (Int×Int)->Bool
 | []=>true
 | p::r=>!(decide (p.1<=a)||(decide (p.2<1)||decide (1048576<p.2)))&&BH p.1 r
def Qnh {a:Int}{l:L_ (Int×Int)}:BH a l=true↔FV l/\∀p∈l,a<p.1/\1<=p.2/\p.2<=1048576:=by
 induction l generalizing a with
 | nil=>simp[BH,FV]
 | cons p l ih=>
  rw[BH,QH,ih,Ul]
  simp only[GI,KZ,Xj]
  constructor
  ·rintro ⟨⟨h1,h2,D⟩,h4,h5⟩
   refine⟨⟨λq h=>(h5 q h).1,h4⟩,λq h=>?_⟩
   rcases Yg.1 h with rfl | h
   ·omega
   have:=h5 q h;omega
  rintro ⟨⟨h1,h2⟩,D⟩
  have:=D p XM
  exact⟨by omega,h2,λq h=>⟨h1 q h,(D q (XR _ h)).2⟩⟩
def Rt (l:L_ (Int×Int)):Prop:=FV l/\∀p∈l,0<=p.1/\1<=p.2/\p.2<=1048576
def Ek {l:L_ (Int×Int)}:BH (-1) l=true↔Rt l:=by
 rw[Qnh]
 constructor
 ·rintro ⟨h,D⟩;exact⟨h,λp hp=>by have:=D p hp;omega⟩
 rintro ⟨h,D⟩;exact⟨h,λp hp=>by have:=D p hp;omega⟩
def Rt.nil : Rt []:=⟨List.Pairwise.nil,λp h=>by cases h⟩
def CY {l:L_ (Int×Int)}(h:OX l){p:Int×Int}(hp:p∈l):QY l p.1=p.2:=by
 unfold QY;rw[(DL h).2 (show(p.1,p.2)∈l from hp)];rfl
def Rt.cnt {l:L_ (Int×Int)}(h:Rt l)(k:Int):0<=QY l k/\QY l k<=1048576:=by
 unfold QY
 cases e:Qq l k with
 | none=>simp
 | some v=>have:=h.2 _ ((DL h.1.nd).1 e);simp at this ⊢;omega
def Rt.cnt_pos {l:L_ (Int×Int)}(h:Rt l){k:Int}(D:0<QY l k):0<=k:=by
 unfold QY at D
 cases e:Qq l k with
 | none=>rw[e]at D;simp at D
 | some v=>exact(h.2 _ ((DL h.1.nd).1 e)).1
def Hz (l:L_ (Int×Int)):L_ (Int×Int):=l.filter λp=>decide (0<p.2)
def Qii {l:L_ (Int×Int)}(h:FV l)(k:Int):QY (Hz l) k=if 0<QY l k then QY l k else 0:=by
 have hp:FV (Hz l):=h.sublist List.filter_sublist
 by_cases c:0<QY l k
 ·rw[if_pos c]
  unfold QY at c
  cases e:Qq l k with
  | none=>rw[e]at c;simp at c
  | some v=>
   rw[e]at c
   have D:(k,v)∈Hz l:=Eo.2 ⟨(DL h.nd).1 e,by simpa using c⟩
   unfold QY
   rw[(DL hp.nd).2 D,e]
 rw[if_neg c]
 unfold QY
 cases e:Qq (Hz l) k with
 | none=>rfl
 | some v=>
  have D:=Eo.1 ((DL hp.nd).1 e)
  have h2:=(DL h.nd).2 D.1
  unfold QY at c
  rw[h2]at c
  simp at D c;omega
def Qk3 {l:L_ (Int×Int)}(h:FV l)(hb:∀k,0<QY l k->0<=k/\QY l k<=1048576):Rt (Hz l):=by
 refine⟨h.sublist List.filter_sublist,λp hp=>?_⟩
 obtain⟨D,h2⟩:=Eo.1 hp
 have h3:=CY h.nd D
 have h4:0<p.2:=Xs h2
 have:=hb p.1 (by omega)
 omega
def Qk4 {l:L_ (Int×Int)}(h:FV l):KC (l.map Prod.fst)=l.map Prod.fst:=by
 rw[Qah]
 refine List.mergeSort_of_pairwise ?_
 rw[OK]
 exact h.imp λh=>by simp;omega
def upL : Int->Nat->L_ Int
 | _,0=>[]
 | x,k+1=>x::upL (x+1) k
def binds : L_ Int->L_ (L_ Int)
 | []=>[[]]
 | s::r=>(0::upL 1 (s-1).toNat).flatMap λx=>(binds r).map (x::·)
def Dz : L_ Int->L_ Int->L_ (L_ Int)
 | s::r,x::d=>(Dz r d).map (x::·)++(upL (x+1) (s-(x+1)).toNat).flatMap λy=>(binds r).map (y::·)
 | _,_=>[]
def HA (l:L_ Int):L_ Int:=List.replicate l.length 0
def QdL (l:L_ Int):binds l=HA l::Dz l (HA l):=by
 induction l with
 | nil=>rfl
 | cons s r h=>
  show(0::upL 1 (s-1).toNat).flatMap (λx=>(binds r).map (x::·))=(0::HA r)::((Dz r (HA r)).map (0::·)++(upL (0+1) (s-(0+1)).toNat).flatMap λy=>(binds r).map (y::·))
  rw[LA,Int.zero_add]
  have:(binds r).map (λx=>(0:Int)::x)=(0::HA r)::(Dz r (HA r)).map (0::·):=by rw[h];rfl
  rw[this];rfl
def RA : L_ Int->L_ Int->O_ (L_ Int)
 | s::r,x::d=>match RA r d with
  | some e=>some (x::e)
  | none=>if x+1<s then some ((x+1)::HA r)else none
 | _,_=>none
def QjQ : ∀l d:L_ Int,Dz l d=match RA l d with
  | none=>[]
  | some e=>e::Dz l e:=by
 intro l
 induction l with
 | nil=>intro d;rfl
 | cons s r D=>
  intro d
  cases d with
  | nil=>rfl
  | cons x d=>
   have h:=D d
   rw[RA]
   cases e:RA r d with
   | some e'=>
    rw[e]at h
    simp only[Dz,h];rfl
   | none=>
    rw[e]at h
    simp only at h
    simp only[Dz,h,List.map_nil,Rh]
    by_cases c:x+1<s
    ·rw[if_pos c]
     rw[show(s-(x+1)).toNat=(s-(x+1+1)).toNat+1 by omega,upL,LA]
     have:(binds r).map (λz=>(x+1)::z)=((x+1)::HA r)::(Dz r (HA r)).map ((x+1)::·):=by rw[QdL r];rfl
     rw[this];rfl
    rw[if_neg c,show(s-(x+1)).toNat=0 by omega];rfl
def Qg5 : ∀l d:L_ Int,(∀(j:Nat) x s,d[j]? = some x->l[j]? = some s->¬x+1<s)->RA l d=none:=by
 intro l
 induction l with
 | nil=>intro d _;cases d<;>rfl
 | cons s r ih=>
  intro d h
  cases d with
  | nil=>rfl
  | cons x d=>
   rw[RA,ih d λj y z D h2=>h (j+1) y z (by simpa using D) (by simpa using h2)]
   simp only
   rw[if_neg (h 0 x s rfl rfl)]
def Qni : ∀(k:Nat) (l d:L_ Int) (x s:Int),l.length=d.length->d[k]? = some x->l[k]? = some s->x+1<s->(∀(j:Nat) y z,k<j->d[j]? = some y->l[j]? = some z->¬y+1<z)->
  RA l d=some (d.take k++(x+1)::List.replicate (d.length-(k+1)) 0):=by
 intro k
 induction k with
 | zero=>
  intro l d x s hl h hs D ha
  cases l with
  | nil=>cases hs
  | cons s' r=>
   cases d with
   | nil=>cases h
   | cons x' d=>
    simp only[List.getElem?_cons_zero,Option.some.injEq]at h hs
    subst h;subst hs
    rw[RA,Qg5 r d λj y z h1 h2=>ha (j+1) y z (by omega) (by simpa using h1) (by simpa using h2)]
    simp only
    rw[if_pos D]
    simp only[DP]at hl
    simp[HA];omega
 | succ k ih=>
  intro l d x s hl h hs D ha
  cases l with
  | nil=>cases hs
  | cons s' r=>
   cases d with
   | nil=>cases h
   | cons x' d=>
    simp only[ZE]at h hs
    simp only[DP,Nat.add_right_cancel_iff]at hl
    rw[RA,ih r d x s hl h hs D λj y z h0 h1 h2=>ha (j+1) y z (by omega) (by simpa using h1) (by simpa using h2)]
    simp
def inB : L_ Int->L_ Int->Prop
 | [],[]=>True
 | s::r,x::d=>0<=x/\(x=0\/x<s)/\inB r d
 | _,_=>False
def Qnj {y x:Int}{k:Nat}:y∈upL x k↔x<=y/\y<x+k:=by
 induction k generalizing x with
 | zero=>
  simp only[upL,List.not_mem_nil,false_iff];omega
 | succ k h=>simp only[upL,Yg,h];omega
def Qk5 {l d:L_ Int}:d∈binds l↔inB l d:=by
 induction l generalizing d with
 | nil=>cases d<;>simp[binds,inB]
 | cons s r ih=>
  cases d with
  | nil=>simp[binds,inB]
  | cons x d=>
   simp only[binds,List.mem_flatMap,Yg,Qnj,Ys,List.cons.injEq,inB,<-ih]
   constructor
   ·rintro ⟨y,D,e,h,rfl,rfl⟩
    exact⟨by omega,by omega,h⟩
   rintro ⟨D,h,h3⟩
   exact⟨x,by omega,d,h3,rfl,rfl⟩
def Qnk {l d:L_ Int}(h:inB l d):d.length=l.length:=by
 induction l generalizing d with
 | nil=>cases d with
  | nil=>rfl
  | cons x d=>exact h.elim
 | cons s r D=>cases d with
  | nil=>exact h.elim
  | cons x d=>simp[D h.2.2]
section
variable {α:Type}
def KY (most:Nat)(h X:L_ α):L_ α⊕L_ α:=if (h++X).length<most then .inr (h++X)else .inl ((h++X).take most)
def Zn {most:Nat}{D:L_ α}(h:D.length<most):KY most D []=.inr D:=by
 unfold KY
 rw[OG,if_pos h]
def Qmj {most:Nat}{D X:L_ α}(h:D.length=most):KY most D X=.inl D:=by
 unfold KY
 rw[if_neg (by simp;omega)]
 subst h
 rw[List.take_left]
def Qmk {most:Nat}{h X:L_ α}{x:α}:KY most h (x::X)=KY most (h++[x]) X:=by
 unfold KY
 rw[Wn];rfl
def Qi4 {most:Nat}{h X Y:L_ α}:KY most h (X++Y)=match KY most h X with
  | .inl a=>.inl a
  | .inr a=>KY most a Y:=by
 unfold KY
 by_cases c:(h++X).length<most
 ·rw[if_pos c]
  simp only[Wn]
 rw[if_neg c,if_neg (by simp at c ⊢;omega),<-Wn,QcE (by omega)]
def Qk6 {most:Nat}{D X a:L_ α}(h:KY most D X=.inr a):a.length<most:=by
 unfold KY at h
 split at h
 ·cases h;assumption
 cases h
def Qi5 {most:Nat}{D X a:L_ α}(h:KY most D X=.inr a):a=D++X:=by
 unfold KY at h
 split at h
 ·cases h;rfl
 cases h
def Qml {most:Nat}{X:L_ α}(h:0<most):(match KY most [] X with | .inl a=>a | .inr a=>a)=X.take most:=by
 unfold KY
 rw[Rh]
 by_cases c:X.length<most
 ·rw[if_pos c];simp only;rw[Wp (by omega)]
 rw[if_neg c]
end
section
variable {M K:Type}[DecidableEq K](key:M->K)(succ:M->L_ M)
def QgD (out:L_ M)(x:M):Bool:=out.any λy=>decide (key y=key x)
def YD (most:Nat):L_ M->L_ M->L_ M⊕L_ M
 | out,[]=>.inr out
 | out,x::xs=>if QgD key out x then YD most out xs else if out.length=most then .inl out else YD most (out++[x]) xs
def JK (most:Nat):Nat->L_ M->Nat->L_ M×Bool
 | 0,out,_=>(out,true)
 | f+1,out,a=>match out[a]? with
  | none=>(out,true)
  | some x=>match YD key most out (succ x)with
   | .inl o=>(o,false)
   | .inr o=>JK most f o (a+1)
variable {key}{succ}
def NK {most:Nat}:∀{xs out o:L_ M},YD key most out xs=.inr o->out.length<=most->(∃r,o=out++r)/\o.length<=most:=by
 intro xs
 induction xs with
 | nil=>intro out o h D;cases h;exact⟨⟨[],by simp⟩,D⟩
 | cons x xs ih=>
  intro out o h D
  rw[YD]at h
  split at h
  ·exact ih h D
  split at h
  ·cases h
  obtain⟨⟨r,hr⟩,h2⟩:=ih h (by simp;omega)
  exact⟨⟨x::r,by rw[hr];simp⟩,h2⟩
def RB {most:Nat}:∀{xs out o:L_ M},YD key most out xs=.inl o->out.length<=most->(∃r,o=out++r)/\o.length=most:=by
 intro xs
 induction xs with
 | nil=>intro out o h D;cases h
 | cons x xs ih=>
  intro out o h D
  rw[YD]at h
  split at h
  ·exact ih h D
  split at h
  ·cases h;exact⟨⟨[],by simp⟩,by assumption⟩
  obtain⟨⟨r,hr⟩,h2⟩:=ih h (by simp;omega)
  exact⟨⟨x::r,by rw[hr];simp⟩,h2⟩
def QiR {most D:Nat}(hm:most<=D):∀{xs out o:L_ M},YD key most out xs=.inr o->out.length<=most->YD key D out xs=.inr o:=by
 intro xs
 induction xs with
 | nil=>intro out o h hl;exact h
 | cons x xs ih=>
  intro out o h hl
  rw[YD]at h ⊢
  split at h
  ·rename_i c;rw[if_pos c];exact ih h hl
  rename_i c
  split at h
  ·cases h
  rename_i c2
  rw[if_neg c,if_neg (by omega)]
  exact ih h (by simp;omega)
def QjR {most D:Nat}(hm:most<=D):∀{xs out o:L_ M},YD key most out xs=.inl o->out.length<=most->∃r,YD key D out xs=.inl (o++r)\/YD key D out xs=.inr (o++r):=by
 intro xs
 induction xs with
 | nil=>intro out o h hl;cases h
 | cons x xs ih=>
  intro out o h hl
  have h0:=h
  rw[YD]at h ⊢
  split at h
  ·rename_i c;rw[if_pos c];exact ih h hl
  rename_i c
  rw[if_neg c]
  split at h
  ·cases h
   by_cases c2:out.length=D
   ·rw[if_pos c2];exact⟨[],.inl (by simp)⟩
   rw[if_neg c2]
   cases e:YD key D (out++[x]) xs with
   | inl a=>
    obtain⟨⟨r,hr⟩,_⟩:=RB e (by simp;omega)
    exact⟨x::r,.inl (by rw[hr];simp)⟩
   | inr a=>
    obtain⟨⟨r,hr⟩,_⟩:=NK e (by simp;omega)
    exact⟨x::r,.inr (by rw[hr];simp)⟩
  rw[if_neg (by omega)]
  exact ih h (by simp;omega)
def IC (key:M->K)(l:L_ M):Prop:=l.Pairwise λa b=>key a≠key b
def IC.add {l:L_ M}{x:M}(h:IC key l)(hx:QgD key l x=false):IC key (l++[x]):=by
 unfold IC
 rw[QeM]
 refine⟨h,Tp _ _,λa ha b D=>?_⟩
 rw[AI]at D
 subst D
 intro e
 have:QgD key l b=true:=HH.2 ⟨a,ha,Yw e⟩
 rw[this]at hx;cases hx
def QfB {P:M->Prop}{most:Nat}:∀{xs out o:L_ M},(YD key most out xs=.inl o\/YD key most out xs=.inr o)->IC key out->(∀x∈out,P x)->(∀x∈xs,P x)->IC key o/\∀x∈o,P x:=by
 intro xs
 induction xs with
 | nil=>intro out o h ha hp _;rcases h with h | h<;>cases h;exact⟨ha,hp⟩
 | cons x xs ih=>
  intro out o h ha hp hx
  rw[YD]at h
  split at h
  ·exact ih h ha hp λy D=>hx y (XR _ D)
  rename_i c
  split at h
  ·rcases h with h | h<;>cases h;exact⟨ha,hp⟩
  refine ih h (ha.add (by simpa using c)) (λy D=>?_) λy D=>hx y (XR _ D)
  rcases YF.1 D with D | D
  ·exact hp y D
  simp at D;subst D;exact hx _ XM
def Qk7 {P:M->Prop}(hs:∀x,P x->∀y∈succ x,P y){most:Nat}:∀(f:Nat) {out:L_ M} {a:Nat},out.length<=most->IC key out->(∀x∈out,P x)->
  (∃r,(JK key succ most f out a).1=out++r)/\(JK key succ most f out a).1.length<=most/\IC key (JK key succ most f out a).1/\∀x∈(JK key succ most f out a).1,P x:=by
 intro f
 induction f with
 | zero=>intro out a D h hp;exact⟨⟨[],by simp[JK]⟩,D,h,hp⟩
 | succ f ih=>
  intro out a D h hp
  rw[JK]
  cases ho:out[a]? with
  | none=>exact⟨⟨[],by simp⟩,D,h,hp⟩
  | some x=>
   simp only
   have hx:=hp x (XG ho)
   cases e:YD key most out (succ x)with
   | inl o=>
    obtain⟨h1,h2⟩:=RB e D
    obtain⟨h3,h4⟩:=QfB (.inl e) h hp (hs x hx)
    exact⟨h1,by simp only;omega,h3,h4⟩
   | inr o=>
    obtain⟨⟨r,hr⟩,h2⟩:=NK e D
    obtain⟨h3,h4⟩:=QfB (.inr e) h hp (hs x hx)
    simp only
    obtain⟨⟨r2,hr2⟩,k2⟩:=ih (a:=a+1) h2 h3 h4
    exact⟨⟨r++r2,by rw[hr2,hr,Wn]⟩,k2⟩
def QjS {most D:Nat}(hm:most<=D):∀(f f':Nat) {out:L_ M} {a:Nat},out.length<=most->most<f+a->f<=f'->
  (∃r,(JK key succ D f' out a).1=(JK key succ most f out a).1++r)/\((JK key succ most f out a).2=true->JK key succ D f' out a=JK key succ most f out a):=by
 intro f
 induction f with
 | zero=>
  intro f' out a hl hf _
  have ho:out[a]? = none:=ZF (by omega)
  cases f' with
  | zero=>exact⟨⟨[],by simp[JK]⟩,λ_=>rfl⟩
  | succ f'=>rw[JK,JK,ho];exact⟨⟨[],by simp⟩,λ_=>rfl⟩
 | succ f ih=>
  intro f' out a hl hf hff
  cases f' with
  | zero=>omega
  | succ f'=>
   rw[JK,JK]
   cases ho:out[a]? with
   | none=>exact⟨⟨[],by simp⟩,λ_=>rfl⟩
   | some x=>
    simp only
    cases e:YD key most out (succ x)with
    | inl o=>
     obtain⟨r,hr⟩:=QjR hm e hl
     refine⟨?_,λh=>by cases h⟩
     have hol:=RB e hl
     rcases hr with hr | hr
     ·rw[hr];exact⟨r,rfl⟩
     rw[hr]
     simp only
     have hl2:=(NK hr (by omega)).2
     have key2:∀(f:Nat) {out:L_ M} {a:Nat},out.length<=D->∃r,(JK key succ D f out a).1=out++r:=by
      intro f
      induction f with
      | zero=>intro out a _;exact⟨[],by simp[JK]⟩
      | succ f ih=>
       intro out a hl
       rw[JK]
       cases ho:out[a]? with
       | none=>exact⟨[],by simp⟩
       | some x=>
        simp only
        cases e:YD key D out (succ x)with
        | inl o=>exact(RB e hl).1
        | inr o=>
         obtain⟨⟨r,hr⟩,h2⟩:=NK e hl
         simp only
         obtain⟨r2,hr2⟩:=ih (a:=a+1) h2
         exact⟨r++r2,by rw[hr2,hr,Wn]⟩
     obtain⟨r2,hr2⟩:=key2 f' (a:=a+1) hl2
     exact⟨r++r2,by rw[hr2,Wn]⟩
    | inr o=>
     rw[QiR hm e hl]
     simp only
     exact ih f' (NK e hl).2 (by omega) (by omega)
end
end Go.Vm
noncomputable section
namespace Go.Proofs
open Go Go.RowKit Go.Vm
inductive WZ : Ql->Prop where
 | mk (e:Ql):e.Kids.length<=maxLen->(∀k∈e.Kids,WZ k)->WZ e
def GE {e:Ql}(h:WZ e):Xa WZ e.Kids:=by
 cases h with
 | mk _ D h2=>exact⟨D,h2⟩
def Qcc {e k:Ql}(h:k∈e.Kids):SizeOf.sizeOf k<SizeOf.sizeOf e:=by
 obtain⟨a,b,l⟩:=e
 have:=List.sizeOf_lt_of_mem h
 simp only[Ql.mk.sizeOf_spec]at *
 omega
def Ql.pos (e:Ql):0<SizeOf.sizeOf e:=by
 obtain⟨a,b,l⟩:=e
 simp only[Ql.mk.sizeOf_spec];omega
inductive Zo (v:Int):Ql->Prop where
 | mk (e:Ql):(e.Kind=1\/e.Kind=2\/e.Kind=3\/e.Kind=4\/e.Kind=5\/e.Kind=6)->(e.Kind=2->0<=e.Num/\e.Num<v)->(e.Kind=3\/e.Kind=4->e.Kids.length=1)->(e.Kind=5->e.Kids.length=2)->(e.Kind=6->e.Kids.length=3)->(∀k∈e.Kids,Zo v k)->Zo v e
def Kg (x:QI):Prop:=Ux x.Name/\True/\True/\True/\(Xa Ux) x.Names/\True/\True
def Wm (x:QM):Prop:=Ux x.Name/\True/\(Xa (λ_=>True)) x.First
def DY (x:YI):Prop:=Ux x.Name/\True
def HB (x:Xo):Prop:=True/\WZ x.Expr
def Yv (x:QG):Prop:=Ux x.Name/\(Xa DY) x.Vars/\WZ x.Guard/\True/\True/\(Xa HB) x.Ins/\(Xa HB) x.Outs/\(Xa (λ_=>True)) x.Cancel/\True/\True
def Xm (x:Qe):Prop:=(Xa Kg) x.Colours/\(Xa Wm) x.Places/\(Xa Yv) x.Tasks/\True/\True
def Qhu (x:YJ):Prop:=(Xa Kg) x.all/\(Xa (λ_=>True)) x.sizes/\True
def QfC (D:Qe)(h:Xm D):Qd (LN D) λr=>True:=by
 unfold LN
 exact T3
def Ku (D:(L_ QM))(h:Int)(h_l1:(Xa Wm) D):Qd (YB D h) λr=>r=true->0<=h/\h<D.length:=by
 unfold YB
 exact T2 (by first | (intro hr;first | (cases hr;done) | omega | ((try simp only[QH,Wa,KZ,GI,AH,QK,Xj,beq_iff_eq,bne_iff_ne,ne_eq,OF,Tj,Kb,BU,MJ,LB,Wo,DP,ME,MF,IB]at *);omega)) | ((try simp only[QH,Wa,KZ,GI,AH,QK,Xj,beq_iff_eq,bne_iff_ne,ne_eq,OF,Tj,Kb,BU,MJ,LB,Wo,DP,ME,MF,IB]at *);omega) | simp_all)
def QfD (D:Qe)(h:Xm D):Qd (LO D) λr=>True:=by
 unfold LO
 refine T0 (P:=λ_=>True) ?_ (λx_1 hv2=>?_)
 ·unfold SB
  refine T0 (Ku D.Places D.From (h.2.1)) (λx_3 hv4=>?_)
  refine T1 (λhc5=>?_) (λhc5=>?_)
  ·refine T0 (Ku D.Places D.To (h.2.1)) (λx_6 hv7=>?_)
   exact T3
  exact T3
 unfold SC
 exact T3
def QfE (D:Qe)(h:Xm D):Qd (LP D) λr=>True:=by
 unfold LP
 exact T3
def QfF (D:Qe)(v2:Int)(v3:Int)(v4:Int)(h:Xm D):Qd (LQ D v2 v3 v4) λr=>True:=by
 unfold LQ
 refine T0 (QfC D (h)) (λx_1 hv2=>?_)
 refine T1 (λhc3=>?_) (λhc3=>?_)
 ·exact T3
 refine T0 (QfD D (h)) (λx_4 hv5=>?_)
 refine T1 (λhc6=>?_) (λhc6=>?_)
 ·exact T3
 refine T0 (QfE D (h)) (λx_7 hv8=>?_)
 refine T1 (λhc9=>?_) (λhc9=>?_)
 ·exact T3
 exact T3
def QfG (lo1:Int)(D:Int)  : Qd (LD lo1 D) λr=>True:=by
 unfold LD
 refine T1 (λh=>?_) (λh=>?_)
 ·exact T3
 exact T3
def PZ (h:Int)  : Qd (UX h) λr=>True:=by
 unfold UX
 exact T3
def NL (s1:ByteArray)(h_s1:Ux s1):Qd (UP s1) λr=>True:=by
 unfold UP
 refine T0 (P:=λ_=>True) ?_ (λx_1 hv2=>?_)
 ·unfold Sg
  refine T1 (λhc3=>?_) (λhc3=>?_)
  ·exact T3
  have hshc3:=Qk1 hc3
  refine T1 (λhc4=>?_) (λhc4=>?_)
  ·exact T3
  refine T0 (Qd.sidx (by omega) (by omega)) (λc_5 hv6=>?_)
  refine T0 (PZ c_5 ) (λx_7 hv8=>?_)
  exact T3
 unfold Sj
 refine T1 (λhc9=>?_) (λhc9=>?_)
 ·exact T3
 refine T0 (Qd.up (s1.size) (λst=>st) (λ_=>True) (Q:=λq=>True) rfl trivial (λi11 st h hn13 hj14=>?_)) (λq15 hq16=>?_)
 ·obtain⟨D,hst⟩:∃y,y=st:=⟨_,rfl⟩
  subst hst
  replace h:D=(i11:Int):=h
  show Qd (Ma s1 D) _
  unfold Ma
  refine T1 (λhc17=>?_) (λhc17=>?_)
  ·refine T0 (Qd.sidx (by omega) (by simp_all)) (λc_18 hv19=>?_)
   refine T0 (P:=λ_=>True) ?_ (λx_20 hv21=>?_)
   ·unfold Sh
    refine T0 (PZ c_18 ) (λx_22 hv23=>?_)
    refine T1 (λhc24=>?_) (λhc24=>?_)
    ·refine T1 (λhc25=>?_) (λhc25=>?_)
     ·exact T3
     refine T1 (λhc26=>?_) (λhc26=>?_)
     ·exact T3
     exact T3
    exact T3
   unfold Si
   refine T1 (λhc27=>?_) (λhc27=>?_)
   ·exact T2 (Qn trivial)
   exact T2 (QO ⟨(by simp_all),by subst h;exact Qy (by simp_all) h_s1,trivial⟩)
  exact T2 (Qn trivial)
 rcases q15 with q15 | q15
 ·show Qd (Mb) _
  unfold Mb
  exact T3
 show Qd (Mc) _
 unfold Mc
 exact T3
def Qer (l1:(L_ ByteArray))(D:(Xa Ux) l1):Qd (HX l1) λr=>True:=by
 unfold HX
 refine T0 (Qd.up (l1.length) (λst=>st.1) (λ_=>True) (Q:=λq=>True) rfl trivial (λi3 st hi4 hn5 hj6=>?_)) (λq7 hq8=>?_)
 ·obtain⟨x_1,m_2⟩:=st
  replace hi4:x_1=(i3:Int):=hi4
  show Qd (IJ l1 x_1 m_2) _
  unfold IJ
  refine T1 (λhc9=>?_) (λhc9=>?_)
  ·refine T0 (T4 (by omega) (by simp_all)) (λh hv11=>?_)
   refine T0 (P:=λ_=>True) ?_ (λx_12 hv13=>?_)
   ·unfold PL
    refine T0 (NL h (((D).2 h hv11))) (λx_14 hv15=>?_)
    refine T1 (λhc16=>?_) (λhc16=>?_)
    ·exact T3
    exact T3
   unfold PM
   refine T1 (λhc17=>?_) (λhc17=>?_)
   ·exact T2 (Qn trivial)
   exact T2 (QO ⟨(by simp_all),by subst hi4;exact Qy (by simp_all) (D).1,trivial⟩)
  exact T2 (Qn trivial)
 rcases q7 with q7 | q7
 ·show Qd (IK) _
  unfold IK
  exact T3
 show Qd (IL) _
 unfold IL
 exact T3
def QfH (c1:QI)(h:(L_ Int))(h_c1:Kg c1)(D:(Xa (λ_=>True)) h):Qd (LE c1 h) λr=>True:=by
 unfold LE
 refine T1 (λhc1=>?_) (λhc1=>?_)
 ·refine T0 (QfG c1.Lo c1.Hi ) (λx_2 hv3=>?_)
  exact T3
 refine T1 (λhc4=>?_) (λhc4=>?_)
 ·refine T0 (Qer c1.Names (h_c1.2.2.2.2.1)) (λx_5 hv6=>?_)
  refine T1 (λhc7=>?_) (λhc7=>?_)
  ·exact T3
  unfold WM
  exact T3
 refine T1 (λhc8=>?_) (λhc8=>?_)
 ·refine T1 (λhc9=>?_) (λhc9=>?_)
  ·refine T0 (T4 (by(try simp only[QH,Wa,KZ,GI,AH,QK,Xj,beq_iff_eq,bne_iff_ne,ne_eq,OF,Tj,Kb,BU,MJ,LB,Wo,DP,ME,MF,IB]at *);omega) (by(try simp only[QH,Wa,KZ,GI,AH,QK,Xj,beq_iff_eq,bne_iff_ne,ne_eq,OF,Tj,Kb,BU,MJ,LB,Wo,DP,ME,MF,IB]at *);omega)) (λe_10 hv11=>?_)
   refine T0 (T4 (by(try simp only[QH,Wa,KZ,GI,AH,QK,Xj,beq_iff_eq,bne_iff_ne,ne_eq,OF,Tj,Kb,BU,MJ,LB,Wo,DP,ME,MF,IB]at *);omega) (by(try simp only[QH,Wa,KZ,GI,AH,QK,Xj,beq_iff_eq,bne_iff_ne,ne_eq,OF,Tj,Kb,BU,MJ,LB,Wo,DP,ME,MF,IB]at *);omega)) (λe_12 hv13=>?_)
   exact T3
  unfold WM
  exact T3
 unfold WM
 exact T3
def SO (D:(L_ QI))(h_l1:(Xa Kg) D):Qd (Bo D) λr=>((Xa (λ_=>True)) r.1/\True)/\(r.2=true->r.1.length=D.length/\∀x∈r.1,1<=x/\x<=1024):=by
 unfold Bo
 refine T1 (λhc=>T2 ⟨⟨Xa.nil,trivial⟩,λh=>by cases h⟩) (λhc=>?_)
 have hl:D.length<=32:=by simp only[Xj]at hc;omega
 refine T0 (Qd.up D.length (λst=>st.1) (λst=>(st.2.2.length:Int)=st.1/\∀x∈st.2.2,1<=x/\x<=1024) (Q:=λq=>∀l,q=.inr l->l.length=D.length/\∀x∈l,1<=x/\x<=1024) rfl ⟨rfl,λx h=>(by cases h)⟩ (λi st hi hn hj=>?_)) (λq hq=>?_)
 ·obtain⟨x,m,l⟩:=st
  replace hi:x=(i:Int):=hi
  replace hj:(l.length:Int)=x/\∀x∈l,1<=x/\x<=1024:=hj
  obtain⟨hj,hj2⟩:=hj
  show Qd (IM D x m l) _
  unfold IM
  refine T1 (λhc2=>?_) (λhc2=>?_)
  ·simp only[QK]at hc2
   refine T0 (T4 (by omega) (by omega)) λe he=>?_
   refine T0 (QfH e l (h_l1.2 e he) ⟨by unfold maxLen;omega,λ_ _=>trivial⟩) λy _=>?_
   refine T0 (P:=λz=>z=false->1<=y/\y<=1024) ?_ λz hz=>?_
   ·unfold PN
    refine T0 (NL e.Name (h_l1.2 e he).1) λz _=>?_
    refine T1 (λ_=>T2 (λh=>by cases h)) λ_=>T1 (λ_=>T2 (λh=>by cases h)) λ_=>T1 (λ_=>T2 (λh=>by cases h)) λh1=>T2 λh2=>?_
    simp only[Xj]at h1 h2
    omega
   unfold PO
   refine T1 (λ_=>T2 (Qn λl h=>by cases h)) λhz0=>?_
   refine T0 (T5 (by simp;omega)) λ_ _=>?_
   exact T2 (QO ⟨by omega,by subst hi;exact Qy (by omega) (by unfold maxLen;omega:D.length<=maxLen),by simp only[Kb,BU];subst hi;rw[Qy (show i<D.length by omega) (by unfold maxLen;omega)];omega,λu hu=>by
    rcases YF.1 hu with hu | hu
    ·exact hj2 u hu
    simp at hu;subst hu;exact hz hz0⟩)
  simp only[Xj]at hc2
  exact T2 (Qn λl' h=>by cases h;exact⟨by omega,hj2⟩)
 rcases q with q | q
 ·exact T2 ⟨⟨Xa.nil,trivial⟩,λh=>by cases h⟩
 have:=hq q rfl
 exact T2 ⟨⟨⟨by show q.length<=maxLen;unfold maxLen;omega,λ_ _=>trivial⟩,trivial⟩,λ_=>this⟩
def Qes (D:(L_ QI))(h:(Xa Kg) D):Qd (Io D) λr=>True:=by
 unfold Io
 refine T0 (SO D (h)) (λx_1 hv2=>?_)
 exact T3
def Zp (v1:Qe)(D:Int)(h:Xm v1)(hp0:0<=D)(hp1:D<v1.Colours.length):Qd (Us v1 D) λr=>True:=by
 have hl:=h.1.1
 unfold maxLen at hl
 unfold Us
 rw[XX (show -9223372036854775808<=D+1/\D+1<=9223372036854775807 by omega)]
 refine T0 (T5 (by simp only[QH,QK];omega)) λ_ _=>?_
 exact T0 (Qes _ ((h.1.drop _).take _)) λx _=>T3
def QfI : L_ ByteArray:=(CL).getD []
set_option maxRecDepth 100000 in
def Qmm : CL=some QfI:=by kernel_rfl
set_option maxRecDepth 100000 in
def QiS : (decide (QfI.length<=1000)&&QfI.all λs=>decide (s.size<=1000))=true:=by kernel_rfl
def QfJ : Qd (CL) λr=>Xa Ux r:=by
 have h:=QiS
 rw[QH,decide_eq_true_iff,Xz]at h
 refine⟨QfI,Qmm,by unfold maxLen;omega,λx D=>?_⟩
 have:=h.2 x D
 rw[decide_eq_true_iff]at this
 unfold Ux maxLen;omega
def NM (s1:(L_ ByteArray))(v2:ByteArray)(D:(Xa Ux) s1)(h_v2:Ux v2):Qd (Wf s1 v2) λr=>True:=by
 unfold Wf
 refine T0 (Qd.up (s1.length) (λst=>st) (λ_=>True) (Q:=λq=>True) rfl trivial (λi2 st h hn4 hj5=>?_)) (λq6 hq7=>?_)
 ·obtain⟨x_1,hst⟩:∃y,y=st:=⟨_,rfl⟩
  subst hst
  replace h:x_1=(i2:Int):=h
  show Qd (De s1 v2 x_1) _
  unfold De
  refine T1 (λhc8=>?_) (λhc8=>?_)
  ·refine T0 (T4 (by omega) (by simp_all)) (λe_9 hv10=>?_)
   refine T1 (λhc11=>?_) (λhc11=>?_)
   ·exact T2 (Qn trivial)
   exact T2 (QO ⟨(by simp_all),by subst h;exact Qy (by simp_all) (D).1,trivial⟩)
  exact T2 (Qn trivial)
 rcases q6 with q6 | q6
 ·show Qd (Df q6) _
  unfold Df
  exact T3
 show Qd (Dg) _
 unfold Dg
 exact T3
def Lv (s1:(L_ ByteArray))(v2:ByteArray)(h:(Xa Ux) s1)(D:Ux v2):Qd (Kc s1 v2) λr=>True:=by
 unfold Kc
 refine T0 (NM s1 v2 (h) (D)) (λx_1 hv2=>?_)
 exact T3
def QgE (s1:ByteArray)(h:Ux s1):Qd (NC s1) λr=>True:=by
 unfold NC
 refine T0 (QfJ  ) (λx_1 D=>?_)
 refine T0 (Lv x_1 s1 (D) (h)) (λx_3 hv4=>?_)
 exact T3
def BI (D:ByteArray)(h:Ux D):Qd (GC D) λr=>True:=by
 unfold GC
 refine T0 (P:=λ_=>True) ?_ (λx_1 hv2=>?_)
 ·unfold TS
  refine T0 (NL D (h)) (λx_3 hv4=>?_)
  refine T1 (λhc5=>?_) (λhc5=>?_)
  ·refine T0 (QgE D (h)) (λx_6 hv7=>?_)
   exact T3
  exact T3
 unfold TT
 exact T3
def Tc (D:ByteArray)(h:Ux D):Qd (GS D) λr=>True:=by
 unfold GS
 refine T0 (BI D (h)) (λx_1 hv2=>?_)
 exact T3
def IZ (s1:(L_ ByteArray))(h:(Xa Ux) s1):Qd (JP s1) λr=>True:=by
 unfold JP
 refine T0 (Qd.up (s1.length) (λst=>st) (λ_=>True) (Q:=λq=>True) rfl trivial (λi2 st D hn4 hj5=>?_)) (λq6 hq7=>?_)
 ·obtain⟨x_1,hst⟩:∃y,y=st:=⟨_,rfl⟩
  subst hst
  replace D:x_1=(i2:Int):=D
  show Qd (Wg s1 x_1) _
  unfold Wg
  refine T1 (λhc8=>?_) (λhc8=>?_)
  ·refine T0 (T4 (by omega) (by simp_all)) (λe_9 hv10=>?_)
   refine T0 (Tc e_9 (((h).2 e_9 hv10))) (λx_11 hv12=>?_)
   refine T1 (λhc13=>?_) (λhc13=>?_)
   ·exact T2 (Qn trivial)
   exact T2 (QO ⟨(by simp_all),by subst D;exact Qy (by simp_all) (h).1,trivial⟩)
  exact T2 (Qn trivial)
 rcases q6 with q6 | q6
 ·show Qd (Wh q6) _
  unfold Wh
  exact T3
 show Qd (Wi) _
 unfold Wi
 exact T3
def FZ (D:(L_ ByteArray))(h:(Xa Ux) D):Qd (Jp D) λr=>True:=by
 unfold Jp
 refine T0 (IZ D (h)) (λx_1 hv2=>?_)
 exact T3
def Zq (D:QI)(h:Kg D):Qd (Ut D) λr=>True:=by
 unfold Ut
 refine T0 (P:=λ_=>True) ?_ (λx_1 hv2=>?_)
 ·unfold Lt
  refine T0 (BI D.Name (h.1)) (λx_3 hv4=>?_)
  refine T1 (λhc5=>?_) (λhc5=>?_)
  ·refine T1 (λhc6=>?_) (λhc6=>?_)
   ·exact T3
   refine T0 (FZ D.Names (h.2.2.2.2.1)) (λx_7 hv8=>?_)
   exact T3
  exact T3
 unfold Lu
 exact T3
def Qcd (v1:Qe)(v2:Int)(v3:Int)(v4:QI)(v5:Int)(h:Xm v1)(D:Kg v4)(hp0:0<=v2)(hp1:v2<v1.Colours.length):Qd (Ch v1 v2 v3 v4 v5) λr=>True:=by
 unfold Ch
 refine T0 (Zp v1 v2 (h) (by omega) (by omega)) (λx_1 hv2=>?_)
 refine T1 (λhc3=>?_) (λhc3=>?_)
 ·exact T3
 refine T0 (Zq v4 (D)) (λx_4 hv5=>?_)
 refine T1 (λhc6=>?_) (λhc6=>?_)
 ·exact T3
 exact T3
def Qbi (k1:Int)(c2:QI)(v3:Qe)(h:Kg c2)(D:Xm v3)(hp0:0<=k1)(hp1:k1<v3.Colours.length):Qd (AW k1 c2 v3) λr=>True:=by
 unfold AW
 refine T0 (Qcd v3 k1 8 c2 8 (D) (h) (by omega) (by omega)) (λx_1 hv2=>?_)
 exact T3
def RC (l1:(L_ QI))(v2:Qe)(h:(Xa Kg) l1)(h_v2:Xm v2)(hp0:l1.length<=v2.Colours.length):Qd (DS l1 v2) λr=>True:=by
 unfold DS
 refine T0 (Qd.up (l1.length) (λst=>st) (λ_=>True) (Q:=λq=>True) rfl trivial (λi2 st D hn4 hj5=>?_)) (λq6 hq7=>?_)
 ·obtain⟨x_1,hst⟩:∃y,y=st:=⟨_,rfl⟩
  subst hst
  replace D:x_1=(i2:Int):=D
  show Qd (Ed l1 v2 x_1) _
  unfold Ed
  refine T1 (λhc8=>?_) (λhc8=>?_)
  ·refine T0 (T4 (by omega) (by simp_all)) (λe_9 hv10=>?_)
   refine T0 (Qbi x_1 e_9 v2 (((h).2 e_9 hv10)) (h_v2) (by omega) (by simp_all;omega)) (λx_11 hv12=>?_)
   refine T1 (λhc13=>?_) (λhc13=>?_)
   ·exact T2 (Qn trivial)
   exact T2 (QO ⟨(by simp_all),by subst D;exact Qy (by simp_all) (h).1,trivial⟩)
  exact T2 (Qn trivial)
 rcases q6 with q6 | q6
 ·show Qd (Ee q6.1 q6.2) _
  unfold Ee
  exact T3
 show Qd (Ef) _
 unfold Ef
 exact T3
def Ra (n1:Qe)(h:Xm n1):Qd (Al n1) λr=>True:=by
 unfold Al
 refine T0 (RC n1.Colours n1 (h.1) (h) (by omega)) (λx_1 D=>?_)
 exact T3
def Qdr (D:QM)(h:Wm D):Qd (FJ D) λr=>True:=by
 unfold FJ
 refine T0 (BI D.Name (h.1)) (λx_1 hv2=>?_)
 exact T3
def Qds (p1:QM)(v2:QM)(h:Wm p1)(D:Wm v2):Qd (FK p1 v2) λr=>True:=by
 unfold FK
 exact T3
def Cu (s1:(L_ QM))(v2:QM)(h:(Xa Wm) s1)(h_v2:Wm v2):Qd (YT s1 v2) λr=>True:=by
 unfold YT
 refine T0 (Qd.up (s1.length) (λst=>st) (λ_=>True) (Q:=λq=>True) rfl trivial (λi2 st D hn4 hj5=>?_)) (λq6 hq7=>?_)
 ·obtain⟨x_1,hst⟩:∃y,y=st:=⟨_,rfl⟩
  subst hst
  replace D:x_1=(i2:Int):=D
  show Qd (JG s1 v2 x_1) _
  unfold JG
  refine T1 (λhc8=>?_) (λhc8=>?_)
  ·refine T0 (T4 (by omega) (by simp_all)) (λe_9 hv10=>?_)
   refine T0 (Qds e_9 v2 (((h).2 e_9 hv10)) (h_v2)) (λx_11 hv12=>?_)
   refine T1 (λhc13=>?_) (λhc13=>?_)
   ·exact T2 (Qn trivial)
   exact T2 (QO ⟨(by simp_all),by subst D;exact Qy (by simp_all) (h).1,trivial⟩)
  exact T2 (Qn trivial)
 rcases q6 with q6 | q6
 ·show Qd (JH q6) _
  unfold JH
  exact T3
 show Qd (JI) _
 unfold JI
 exact T3
def AG (s1:(L_ QM))(v2:QM)(h:(Xa Wm) s1)(D:Wm v2):Qd (YC s1 v2) λr=>True:=by
 unfold YC
 refine T0 (Cu s1 v2 (h) (D)) (λx_1 hv2=>?_)
 exact T3
def Qdt (v1:Qe)(v2:Int)(v3:QM)(h:Xm v1)(D:Wm v3)(hp0:0<=v2)(hp1:v2<v1.Places.length):Qd (FL v1 v2 v3) λr=>True:=by
 unfold FL
 refine T0 (T5 (by simp_all;omega)) (λ_ _=>?_)
 refine T0 (AG ((v1.Places.drop 0).take (v2.toNat-0)) v3 (((h.2.1).drop _).take _) (D)) (λx_1 hv2=>?_)
 exact T3
def CO (D:(L_ QI))(k2:Int)(h:(Xa Kg) D):Qd (KW D k2) λr=>True:=by
 unfold KW
 exact T3
def Qdu (D:Qe)(v2:QM)(h:Xm D)(h_v2:Wm v2):Qd (FN D v2) λr=>True:=by
 unfold FN
 refine T0 (CO D.Colours v2.Colour (h.1)) (λx_1 hv2=>?_)
 exact T3
def Qhv (b1:QBg)(h_b1:(Xa (λ_=>True)) b1):Qd (Wx b1) λr=>True:=by
 unfold Wx
 refine T0 (Qd.up (b1.length) (λst=>st.2) (λ_=>True) (Q:=λq=>True) rfl trivial (λi3 st D hn5 hj6=>?_)) (λq7 hq8=>?_)
 ·obtain⟨h,x_2⟩:=st
  replace D:x_2=(i3:Int):=D
  show Qd (Kd b1 h x_2) _
  unfold Kd
  refine T1 (λhc9=>?_) (λhc9=>?_)
  ·refine T0 (T4 (by omega) (by simp_all)) (λe_10 hv11=>?_)
   refine T1 (λhc12=>?_) (λhc12=>?_)
   ·exact T2 (Qn trivial)
   exact T2 (QO ⟨(by simp_all),by subst D;exact Qy (by simp_all) (h_b1).1,trivial⟩)
  exact T2 (Qn trivial)
 rcases q7 with q7 | q7
 ·show Qd (HR) _
  unfold HR
  exact T3
 show Qd (HS) _
 unfold HS
 exact T3
def Qdv (D:QM)(h:Wm D):Qd (FO D) λr=>True:=by
 unfold FO
 refine T0 (Qhv D.First (h.2.2)) (λx_1 hv2=>?_)
 exact T3
def CP (l1:(L_ QI))(k2:Int)(D:(Xa Kg) l1):Qd (ES l1 k2) λr=>(True/\Qhu r.2)/\(r.1=true->(0<=k2/\k2<r.2.sizes.length)/\r.2.k=k2/\r.2.all.length=r.2.sizes.length/\∀x∈r.2.sizes,1<=x/\x<=1024):=by
 unfold ES
 refine T0 (SO l1 D) λx hx=>?_
 refine T1 (λ_=>T2 ⟨⟨trivial,Xa.nil,Xa.nil,trivial⟩,λh=>by cases h⟩) λhc=>?_
 simp only[KZ,AH,Xj]at hc
 have:=hx.2 hc.1
 exact T2 ⟨⟨trivial,D,hx.1.1,trivial⟩,λ_=>⟨⟨by omega,by show k2<(x.1.length:Int);omega⟩,rfl,this.1.symm,this.2⟩⟩
def Wt (l1:(L_ QI))(k2:Int)(D:(Xa Kg) l1):Qd (YP l1 k2) λr=>0<=r/\r<=1024:=by
 unfold YP
 refine T0 (CP l1 k2 D) (λx hx=>?_)
 refine T1 (λhc=>T2 (by omega)) (λhc=>?_)
 have h:=hx.2 (by simpa using hc)
 exact T0 (T4 (by omega) (by omega)) λe he=>T2 (by have:=h.2.2.2 e he;omega)
def Qbj (h:(Int×Int))(D:Int)  : Qd (AX h D) λr=>True:=by
 unfold AX
 exact T3
def La (s1:QBg)(v2:Int)(D:(Xa (λ_=>True)) s1):Qd (JQ s1 v2) λr=>True:=by
 unfold JQ
 refine T0 (Qd.up (s1.length) (λst=>st) (λ_=>True) (Q:=λq=>True) rfl trivial (λi2 st h hn4 hj5=>?_)) (λq6 hq7=>?_)
 ·obtain⟨x_1,hst⟩:∃y,y=st:=⟨_,rfl⟩
  subst hst
  replace h:x_1=(i2:Int):=h
  show Qd (Wj s1 v2 x_1) _
  unfold Wj
  refine T1 (λhc8=>?_) (λhc8=>?_)
  ·refine T0 (T4 (by omega) (by simp_all)) (λe_9 hv10=>?_)
   refine T0 (Qbj e_9 v2 ) (λx_11 hv12=>?_)
   refine T1 (λhc13=>?_) (λhc13=>?_)
   ·exact T2 (Qn trivial)
   exact T2 (QO ⟨(by simp_all),by subst h;exact Qy (by simp_all) (D).1,trivial⟩)
  exact T2 (Qn trivial)
 rcases q6 with q6 | q6
 ·show Qd (Wk q6) _
  unfold Wk
  exact T3
 show Qd (Wl) _
 unfold Wl
 exact T3
def Ha (D:QBg)(v2:Int)(h:(Xa (λ_=>True)) D):Qd (Jq D v2) λr=>True:=by
 unfold Jq
 refine T0 (La D v2 (h)) (λx_1 hv2=>?_)
 exact T3
def Qdw (v1:Qe)(v2:QM)(h:Xm v1)(D:Wm v2):Qd (FP v1 v2) λr=>True:=by
 unfold FP
 refine T0 (Wt v1.Colours v2.Colour (h.1)) (λx_1 hv2=>?_)
 refine T0 (Ha v2.First x_1 (D.2.2)) (λx_3 hv4=>?_)
 exact T3
def Qce (v1:QM)(v2:Int)(v3:Qe)(v4:Int)(v5:Int)(v6:Int)(v7:Int)(v8:Int)(h:Wm v1)(D:Xm v3)(hp0:0<=v4)(hp1:v4<v3.Places.length):Qd (Ci v1 v2 v3 v4 v5 v6 v7 v8) λr=>True:=by
 unfold Ci
 refine T0 (Qdr v1 (h)) (λx_1 hv2=>?_)
 refine T1 (λhc3=>?_) (λhc3=>?_)
 ·exact T3
 refine T0 (Qdt v3 v4 v1 (D) (h) (by omega) (by omega)) (λx_4 hv5=>?_)
 refine T1 (λhc6=>?_) (λhc6=>?_)
 ·exact T3
 refine T0 (Qdu v3 v1 (D) (h)) (λx_7 hv8=>?_)
 refine T1 (λhc9=>?_) (λhc9=>?_)
 ·exact T3
 refine T0 (Qdv v1 (h)) (λx_10 hv11=>?_)
 refine T1 (λhc12=>?_) (λhc12=>?_)
 ·exact T3
 refine T0 (Qdw v3 v1 (D) (h)) (λx_13 hv14=>?_)
 refine T1 (λhc15=>?_) (λhc15=>?_)
 ·exact T3
 exact T3
def QfK (n1:Qe)(k2:Int)(h:Xm n1):Qd (LR n1 k2) λr=>True:=by
 unfold LR
 refine T0 (Ku n1.Places k2 (h.2.1)) (λx_1 hv2=>?_)
 refine T1 (λhc3=>?_) (λhc3=>?_)
 ·exact T3
 refine T0 (T4 (by simp_all) (by simp_all)) (λD hv5=>?_)
 refine T0 (Qce D 1 n1 k2 5 3 1 8 (((h.2.1).2 D hv5)) (h) (by simp_all) (by simp_all)) (λx_6 hv7=>?_)
 exact T3
def QfL (k1:Int)(p2:QM)(v3:Qe)(D:Wm p2)(h:Xm v3):Qd (LS k1 p2 v3) λr=>True:=by
 unfold LS
 refine T0 (QfK v3 k1 (h)) (λx_1 hv2=>?_)
 exact T3
def SP (l1:(L_ QM))(v2:Qe)(h:(Xa Wm) l1)(h_v2:Xm v2):Qd (Gq l1 v2) λr=>True:=by
 unfold Gq
 refine T0 (Qd.up (l1.length) (λst=>st) (λ_=>True) (Q:=λq=>True) rfl trivial (λi2 st D hn4 hj5=>?_)) (λq6 hq7=>?_)
 ·obtain⟨x_1,hst⟩:∃y,y=st:=⟨_,rfl⟩
  subst hst
  replace D:x_1=(i2:Int):=D
  show Qd (EG l1 v2 x_1) _
  unfold EG
  refine T1 (λhc8=>?_) (λhc8=>?_)
  ·refine T0 (T4 (by omega) (by simp_all)) (λe_9 hv10=>?_)
   refine T0 (QfL x_1 e_9 v2 (((h).2 e_9 hv10)) (h_v2)) (λx_11 hv12=>?_)
   refine T1 (λhc13=>?_) (λhc13=>?_)
   ·exact T2 (Qn trivial)
   exact T2 (QO ⟨(by simp_all),by subst D;exact Qy (by simp_all) (h).1,trivial⟩)
  exact T2 (Qn trivial)
 rcases q6 with q6 | q6
 ·show Qd (EH q6.1 q6.2) _
  unfold EH
  exact T3
 show Qd (EI) _
 unfold EI
 exact T3
def HC (D:(L_ QG))(h:Int)(h_l1:(Xa Yv) D):Qd (Jm D h) λr=>r=true->0<=h/\h<D.length:=by
 unfold Jm
 exact T2 (by first | (intro hr;first | (cases hr;done) | omega | ((try simp only[QH,Wa,KZ,GI,AH,QK,Xj,beq_iff_eq,bne_iff_ne,ne_eq,OF,Tj,Kb,BU,MJ,LB,Wo,DP,ME,MF,IB]at *);omega)) | ((try simp only[QH,Wa,KZ,GI,AH,QK,Xj,beq_iff_eq,bne_iff_ne,ne_eq,OF,Tj,Kb,BU,MJ,LB,Wo,DP,ME,MF,IB]at *);omega) | simp_all)
def QfM (v1:Int)(v2:Qe)(v3:QG)(h:Xm v2)(D:Yv v3):Qd (LT v1 v2 v3) λr=>True:=by
 unfold LT
 exact T3
def Qcf (v1:Int)(v2:Qe)(v3:QG)(v4:Int)(h:Xm v2)(D:Yv v3):Qd (Cj v1 v2 v3 v4) λr=>True:=by
 unfold Cj
 exact T3
def Qcg (v1:Int)(v2:Qe)(v3:QG)(v4:Int)(h:Xm v2)(D:Yv v3):Qd (Ck v1 v2 v3 v4) λr=>True:=by
 unfold Ck
 exact T3
def Qch (v1:Int)(v2:Qe)(v3:QG)(h:Xm v2)(D:Yv v3):Qd (Cm v1 v2 v3) λr=>True:=by
 unfold Cm
 exact T3
def Qet (D:QG)(h:Yv D):Qd (Ir D) λr=>True:=by
 unfold Ir
 refine T0 (BI D.Name (h.1)) (λx_1 hv2=>?_)
 exact T3
def Qeu (p1:QG)(v2:QG)(h:Yv p1)(D:Yv v2):Qd (Iu p1 v2) λr=>True:=by
 unfold Iu
 exact T3
def Fo (s1:(L_ QG))(v2:QG)(h:(Xa Yv) s1)(h_v2:Yv v2):Qd (Jg s1 v2) λr=>True:=by
 unfold Jg
 refine T0 (Qd.up (s1.length) (λst=>st) (λ_=>True) (Q:=λq=>True) rfl trivial (λi2 st D hn4 hj5=>?_)) (λq6 hq7=>?_)
 ·obtain⟨x_1,hst⟩:∃y,y=st:=⟨_,rfl⟩
  subst hst
  replace D:x_1=(i2:Int):=D
  show Qd (JX s1 v2 x_1) _
  unfold JX
  refine T1 (λhc8=>?_) (λhc8=>?_)
  ·refine T0 (T4 (by omega) (by simp_all)) (λe_9 hv10=>?_)
   refine T0 (Qeu e_9 v2 (((h).2 e_9 hv10)) (h_v2)) (λx_11 hv12=>?_)
   refine T1 (λhc13=>?_) (λhc13=>?_)
   ·exact T2 (Qn trivial)
   exact T2 (QO ⟨(by simp_all),by subst D;exact Qy (by simp_all) (h).1,trivial⟩)
  exact T2 (Qn trivial)
 rcases q6 with q6 | q6
 ·show Qd (JY q6) _
  unfold JY
  exact T3
 show Qd (JZ) _
 unfold JZ
 exact T3
def BN (s1:(L_ QG))(v2:QG)(h:(Xa Yv) s1)(D:Yv v2):Qd (YQ s1 v2) λr=>True:=by
 unfold YQ
 refine T0 (Fo s1 v2 (h) (D)) (λx_1 hv2=>?_)
 exact T3
def Qev (v1:Qe)(v2:Int)(v3:QG)(h:Xm v1)(D:Yv v3)(hp0:0<=v2)(hp1:v2<v1.Tasks.length):Qd (Iv v1 v2 v3) λr=>True:=by
 unfold Iv
 refine T0 (T5 (by simp_all;omega)) (λ_ _=>?_)
 refine T0 (BN ((v1.Tasks.drop 0).take (v2.toNat-0)) v3 (((h.2.2.1).drop _).take _) (D)) (λx_1 hv2=>?_)
 exact T3
def Qew (v1:Int)(D:QG)(h:Yv D):Qd (BD v1 D) λr=>True:=by
 unfold BD
 exact T3
def Td (D:YI)(h:DY D):Qd (GT D) λr=>True:=by
 unfold GT
 refine T0 (BI D.Name (h.1)) (λx_1 hv2=>?_)
 exact T3
def Te (p1:YI)(v2:YI)(h:DY p1)(D:DY v2):Qd (GU p1 v2) λr=>True:=by
 unfold GU
 exact T3
def HD (s1:(L_ YI))(v2:YI)(h:(Xa DY) s1)(h_v2:DY v2):Qd (Jy s1 v2) λr=>True:=by
 unfold Jy
 refine T0 (Qd.up (s1.length) (λst=>st) (λ_=>True) (Q:=λq=>True) rfl trivial (λi2 st D hn4 hj5=>?_)) (λq6 hq7=>?_)
 ·obtain⟨x_1,hst⟩:∃y,y=st:=⟨_,rfl⟩
  subst hst
  replace D:x_1=(i2:Int):=D
  show Qd (Kx s1 v2 x_1) _
  unfold Kx
  refine T1 (λhc8=>?_) (λhc8=>?_)
  ·refine T0 (T4 (by omega) (by simp_all)) (λe_9 hv10=>?_)
   refine T0 (Te e_9 v2 (((h).2 e_9 hv10)) (h_v2)) (λx_11 hv12=>?_)
   refine T1 (λhc13=>?_) (λhc13=>?_)
   ·exact T2 (Qn trivial)
   exact T2 (QO ⟨(by simp_all),by subst D;exact Qy (by simp_all) (h).1,trivial⟩)
  exact T2 (Qn trivial)
 rcases q6 with q6 | q6
 ·show Qd (Ky q6) _
  unfold Ky
  exact T3
 show Qd (Kz) _
 unfold Kz
 exact T3
def CQ (s1:(L_ YI))(v2:YI)(h:(Xa DY) s1)(D:DY v2):Qd (Ja s1 v2) λr=>True:=by
 unfold Ja
 refine T0 (HD s1 v2 (h) (D)) (λx_1 hv2=>?_)
 exact T3
def Tf (v1:(L_ YI))(v2:Int)(v3:YI)(h:(Xa DY) v1)(D:DY v3)(hp0:0<=v2)(hp1:v2<v1.length):Qd (GV v1 v2 v3) λr=>True:=by
 unfold GV
 refine T0 (T5 (by simp_all;omega)) (λ_ _=>?_)
 refine T0 (CQ ((v1.drop 0).take (v2.toNat-0)) v3 (((h).drop _).take _) (D)) (λx_1 hv2=>?_)
 exact T3
def Tg (D:Qe)(v2:YI)(h:Xm D)(h_v2:DY v2):Qd (GW D v2) λr=>True:=by
 unfold GW
 refine T0 (CO D.Colours v2.Colour (h.1)) (λx_1 hv2=>?_)
 exact T3
def Qci (v1:YI)(v2:Int)(v3:(L_ YI))(v4:Int)(v5:Int)(v6:Qe)(v7:Int)(h:DY v1)(D:(Xa DY) v3)(h_v6:Xm v6)(hp0:0<=v4)(hp1:v4<v3.length):Qd (Co v1 v2 v3 v4 v5 v6 v7) λr=>True:=by
 unfold Co
 refine T0 (Td v1 (h)) (λx_1 hv2=>?_)
 refine T1 (λhc3=>?_) (λhc3=>?_)
 ·exact T3
 refine T0 (Tf v3 v4 v1 (D) (h) (by omega) (by omega)) (λx_4 hv5=>?_)
 refine T1 (λhc6=>?_) (λhc6=>?_)
 ·exact T3
 refine T0 (Tg v6 v1 (h_v6) (h)) (λx_7 hv8=>?_)
 refine T1 (λhc9=>?_) (λhc9=>?_)
 ·exact T3
 exact T3
def Zr (k1:Int)(v2:YI)(v3:(L_ YI))(v4:Qe)(h:DY v2)(D:(Xa DY) v3)(h_v4:Xm v4)(hp0:0<=k1)(hp1:k1<v3.length):Qd (Uu k1 v2 v3 v4) λr=>True:=by
 unfold Uu
 refine T0 (Qci v2 1 v3 k1 5 v4 3 (h) (D) (h_v4) (by omega) (by omega)) (λx_1 hv2=>?_)
 exact T3
def VL (l1:(L_ YI))(v2:(L_ YI))(v3:Qe)(h:(Xa DY) l1)(h_v2:(Xa DY) v2)(h_v3:Xm v3)(hp0:l1.length<=v2.length):Qd (EJ l1 v2 v3) λr=>True:=by
 unfold EJ
 refine T0 (Qd.up (l1.length) (λst=>st) (λ_=>True) (Q:=λq=>True) rfl trivial (λi2 st D hn4 hj5=>?_)) (λq6 hq7=>?_)
 ·obtain⟨x_1,hst⟩:∃y,y=st:=⟨_,rfl⟩
  subst hst
  replace D:x_1=(i2:Int):=D
  show Qd (UC l1 v2 v3 x_1) _
  unfold UC
  refine T1 (λhc8=>?_) (λhc8=>?_)
  ·refine T0 (T4 (by omega) (by simp_all)) (λe_9 hv10=>?_)
   refine T0 (Zr x_1 e_9 v2 v3 (((h).2 e_9 hv10)) (h_v2) (h_v3) (by omega) (by simp_all;omega)) (λx_11 hv12=>?_)
   refine T1 (λhc13=>?_) (λhc13=>?_)
   ·exact T2 (Qn trivial)
   exact T2 (QO ⟨(by simp_all),by subst D;exact Qy (by simp_all) (h).1,trivial⟩)
  exact T2 (Qn trivial)
 rcases q6 with q6 | q6
 ·show Qd (UD q6.1 q6.2) _
  unfold UD
  exact T3
 show Qd (UE) _
 unfold UE
 exact T3
def Qbk (n1:Qe)(l2:(L_ YI))(D:Xm n1)(h:(Xa DY) l2):Qd (AY n1 l2) λr=>True:=by
 unfold AY
 refine T0 (VL l2 l2 n1 (h) (h) (D) (by omega)) (λx_1 hv2=>?_)
 exact T3
def Qex (v1:Qe)(v2:QG)(h:Xm v1)(D:Yv v2):Qd (Iw v1 v2) λr=>True:=by
 unfold Iw
 refine T0 (Qbk v1 v2.Vars (h) (D.2.1)) (λx_1 hv2=>?_)
 exact T3
def Qdx (v1:Qe)(v2:QG)(v3:Int)(h:Xm v1)(D:Yv v2):Qd (Am v1 v2 v3) λr=>True:=by
 unfold Am
 refine T0 (Qex v1 v2 (h) (D)) (λx_1 hv2=>?_)
 exact T3
def Va (n1:Qe)(k2:Int)(h:Xm n1):Qd (WJ n1 k2) λr=>True:=by
 unfold WJ
 refine T0 (HC n1.Tasks k2 (h.2.2.1)) (λx_1 hv2=>?_)
 refine T1 (λhc3=>?_) (λhc3=>?_)
 ·exact T3
 refine T0 (T4 (by simp_all) (by simp_all)) (λe_4 hv5=>?_)
 refine T0 (Qd.up (e_4.Vars.length) (λst=>st.2) (λ_=>True) (Q:=λq=>True) rfl trivial (λi8 st hi9 hn10 hj11=>?_)) (λD hq13=>?_)
 ·obtain⟨out_6,x_7⟩:=st
  replace hi9:x_7=(i8:Int):=hi9
  show Qd (Ui e_4 n1 out_6 x_7) _
  unfold Ui
  refine T1 (λhc14=>?_) (λhc14=>?_)
  ·refine T0 (T4 (by omega) (by simp_all)) (λe_15 hv16=>?_)
   refine T0 (Wt n1.Colours e_15.Colour (h.1)) (λx_17 hv18=>?_)
   refine T1 (λhc19=>?_) (λhc19=>?_)
   ·exact T2 (Qn trivial)
   exact T2 (QO ⟨(by simp_all),by subst hi9;exact Qy (by simp_all) (((h.2.2.1).2 e_4 hv5).2.1).1,trivial⟩)
  exact T2 (Qn trivial)
 rcases D with D | D
 ·show Qd (Mw) _
  unfold Mw
  exact T3
 show Qd (Mx D) _
 unfold Mx
 exact T3
def Qey (D:Qe)(v2:Int)(h:Xm D):Qd (BE D v2) λr=>True:=by
 unfold BE
 refine T0 (Va D v2 (h)) (λx_1 hv2=>?_)
 exact T3
def Qhw (h:Int):Qd (OS h) λr=>0<=r->(h=1\/h=2\/h=3\/h=4\/h=5\/h=6)/\(h=3\/h=4->r=1)/\(h=5->r=2)/\(h=6->r=3):=by
 unfold OS
 refine T1 (λD=>?_) (λD=>?_)
 ·unfold Bq;rw[D]
  simp only[beq_iff_eq]at D
  exact T2 (by omega)
 simp only[beq_eq_false_iff_ne]at D
 unfold Bq
 refine T1 (λD=>T2 (by simp only[beq_iff_eq]at D;omega)) (λhc2=>?_)
 simp only[beq_eq_false_iff_ne]at hc2
 refine T1 (λhc3=>?_) (λhc3=>?_)
 ·unfold Bp;rw[hc3]
  simp only[beq_iff_eq]at hc3
  exact T2 (by omega)
 simp only[beq_eq_false_iff_ne]at hc3
 unfold Bp
 refine T1 (λD=>T2 (by simp only[beq_iff_eq]at D;omega)) (λhc4=>?_)
 simp only[beq_eq_false_iff_ne]at hc4
 refine T1 (λD=>T2 (by simp only[beq_iff_eq]at D;omega)) (λhc5=>?_)
 simp only[beq_eq_false_iff_ne]at hc5
 exact T1 (λD=>T2 (by simp only[beq_iff_eq]at D;omega)) (λhc6=>T2 (by omega))
def QgF (DU:Int)  : Qd (MY DU) λr=>True:=by
 unfold MY
 exact T3
def OC (rec_:Ql->Int->O_ Bool)(D:L_ Ql)(v2:Int)(h1:D.length<=maxLen)(h:∀k∈D,Qd (rec_ k v2) λr=>r=true->Zo v2 k):Qd (YO rec_ D v2) λr=>r=false->∀k∈D,Zo v2 k:=by
 unfold YO KO
 refine T0 (P:=λx=>x<0->∀k∈D,Zo v2 k) ?_ λx hx=>T2 λh=>hx (by simp only[Xj]at h;omega)
 refine T0 (Qd.up D.length (λst=>st) (λst=>∀(j:Nat) k,(j:Int)<st->D[j]? = some k->Zo v2 k) (Q:=λq=>(∀x,q=.inl x->0<=x)/\(q=.inr ()->∀k∈D,Zo v2 k)) rfl (λj k hj=>by omega) (λi st hi hn hj=>?_)) (λq hq=>?_)
 ·show Qd (JU D rec_ v2 st) _
  unfold JU Om
  refine T1 (λhc=>?_) (λhc=>T2 (Qn ⟨λx h=>(by cases h),λ_ k hk=>by
   obtain⟨j,hj1,hj2⟩:=Fs.1 hk
   simp only[Xj]at hc
   exact hj j k (by omega) (by rw[Qz hj1,hj2])⟩))
  simp only[QK]at hc
  rw[BG (by omega)]
  have hlt:st.toNat<D.length:=by omega
  rw[Qz hlt]
  refine T0 (P:=λk=>k=D[st.toNat]) (T2 rfl) λk hk=>?_
  subst hk
  refine T0 (P:=λr=>r=false->Zo v2 D[st.toNat]) (T0 (h _ (Yf hlt)) λx hx=>T2 λh=>hx (by simpa using h)) λx hx=>?_
  refine T1 (λ_=>T2 (Qn ⟨λx h=>(by cases h;omega),λh=>(by cases h)⟩)) λhxf=>T2 (QO ⟨by omega,by rw[hi];exact Qy (by omega) h1,?_⟩)
  rw[hi,Qy (show i<D.length by omega) h1]
  intro j k hj' hk
  by_cases c:j=i
  ·subst c
   have e:st.toNat=j:=by omega
   have:=hx hxf
   rw[Qz (by omega)]at hk
   cases hk
   simpa only[e] using this
  exact hj j k (by omega) hk
 rcases q with q | q
 ·exact T2 λh=>absurd (hq.1 q rfl) (by omega)
 exact T2 λ_=>hq.2 rfl
def SQ : ∀(n:Nat) (e:Ql) (v:Int),WZ e->SizeOf.sizeOf e<=n->Qd (Gc n e v) λr=>r=true->Zo v e
 | 0,e,_,_,h=>absurd e.pos (by omega)
 | n+1,e,v,he,h=>by
  unfold Gc On
  refine T0 (Qhw e.Kind) λx hx=>?_
  refine T1 (λ_=>T2 λh=>by cases h) λh1=>T1 (λ_=>T2 λh=>by cases h) λh2=>?_
  refine T0 (P:=λ_=>True) ?_ λy _=>?_
  ·unfold TD
   exact T1 (λ_=>T0 (QgF e.Num) λx _=>T3) λ_=>T3
  unfold TE
  refine T1 (λ_=>T2 λh=>by cases h) λ_=>?_
  refine T0 (OC (Gc n) e.Kids v (GE he).1 λk D=>SQ n k v ((GE he).2 k D) (by have:=Qcc D;omega)) λx hx2=>T2 λhx3=>?_
  simp only[Ww]at h1
  have h3:=hx (by omega)
  simp only[Bool.and_eq_false_iff,KZ,Xj,beq_eq_false_iff_ne]at h2
  exact .mk e h3.1 (λD=>by omega) (λD=>by have:=h3.2.1 D;omega) (λD=>by have:=h3.2.2.1 D;omega) (λD=>by have:=h3.2.2.2 D;omega) (hx2 (by simpa using hx3))
def QgG (e1:Ql)(h:Int)(D:WZ e1):Qd (Sm e1 h) λr=>r=true->Zo h e1:=SQ _ e1 h D (Jn _)
def SR : ∀(n:Nat) (e:Ql),WZ e->SizeOf.sizeOf e<=n->Qd (Gb n e) λ_=>True
 | 0,e,_,h=>absurd e.pos (by omega)
 | n+1,e,he,h=>by
  unfold Gb Ok
  refine T0 (Qd.up e.Kids.length (λst=>st.2) (λ_=>True) (Q:=λ_=>True) rfl trivial (λi st hi hn _=>?_)) (λq _=>?_)
  ·obtain⟨a,x⟩:=st
   replace hi:x=(i:Int):=hi
   show Qd (MX e (Gb n) a x) _
   unfold MX
   refine T1 (λD=>?_) (λD=>?_)
   ·simp only[QK]at D
    refine T0 (T4 (by omega) (by omega)) λk hk=>?_
    have:=Qcc hk
    refine T0 (SR n k ((GE he).2 k hk) (by omega)) λd _=>?_
    exact T2 (QO ⟨by omega,by subst hi;exact Qy (by omega) (GE he).1,trivial⟩)
   exact T2 (Qn trivial)
  unfold TC
  exact T3
def QgH (D:Ql)(h:WZ D):Qd (Sk D) λ_=>True:=SR _ D h (Jn _)
def Vb : ∀(n:Nat) (e:Ql),WZ e->SizeOf.sizeOf e<=n->Qd (Ea n e) λ_=>True
 | 0,e,_,h=>absurd e.pos (by omega)
 | n+1,e,he,h=>by
  unfold Ea PB
  refine T0 (Qd.up e.Kids.length (λst=>st.2) (λ_=>True) (Q:=λ_=>True) rfl trivial (λi st hi hn _=>?_)) (λq _=>?_)
  ·obtain⟨a,x⟩:=st
   replace hi:x=(i:Int):=hi
   show Qd (Ol e (Ea n) a x) _
   unfold Ol
   refine T1 (λD=>?_) (λD=>?_)
   ·simp only[QK]at D
    refine T0 (T4 (by omega) (by omega)) λk hk=>?_
    have:=Qcc hk
    refine T0 (Vb n k ((GE he).2 k hk) (by omega)) λd _=>?_
    exact T2 (QO ⟨by omega,by subst hi;exact Qy (by omega) (GE he).1,trivial⟩)
   exact T2 (Qn trivial)
  unfold VX
  exact T3
def Qhx (D:Ql)(h:WZ D):Qd (Vy D) λ_=>True:=Vb _ D h (Jn _)
def OD (e1:Ql)(D:Int)(h_e1:WZ e1):Qd (Bs e1 D) λr=>r=true->Zo D e1:=by
 unfold Bs
 refine T0 (P:=λr=>r=true->Zo D e1) ?_ (λx hx=>T2 hx)
 unfold TF
 refine T0 (QgH e1 h_e1) (λx _=>?_)
 refine T1 (λ_=>?_) (λ_=>T2 λh=>by cases h)
 refine T0 (Qhx e1 h_e1) (λx _=>?_)
 refine T1 (λ_=>?_) (λ_=>T2 λh=>by cases h)
 exact T0 (QgG e1 D h_e1) (λx hx=>T2 hx)
def Qez (v1:QG)(v2:Int)(h:Yv v1):Qd (Ix v1 v2) λr=>True:=by
 unfold Ix
 refine T0 (P:=λ_=>True) ?_ (λx_1 hv2=>?_)
 ·unfold PX
  refine T0 (OD v1.Guard v2 (h.2.2.1)) (λx_3 hv4=>?_)
  refine T1 (λD=>?_) (λD=>?_)
  ·refine T1 (λhc6=>?_) (λhc6=>?_)
   ·exact T3
   exact T3
  exact T3
 unfold PY
 exact T3
def Qcj (D:Qe)(v2:Xo)(h:Xm D)(h_v2:HB v2):Qd (Cp D v2) λr=>True:=by
 unfold Cp
 refine T0 (Ku D.Places v2.Place (h.2.1)) (λx_1 hv2=>?_)
 exact T3
def Qck (D:Xo)(v2:Int)(h:HB D):Qd (Cq D v2) λr=>True:=by
 unfold Cq
 refine T0 (OD D.Expr v2 (h.2)) (λx_1 hv2=>?_)
 exact T3
def Qcl (v1:Qe)(v2:Xo)(v3:Int)(v4:Int)(v5:Int)(D:Xm v1)(h:HB v2):Qd (Cr v1 v2 v3 v4 v5) λr=>True:=by
 unfold Cr
 refine T0 (Qcj v1 v2 (D) (h)) (λx_1 hv2=>?_)
 refine T1 (λhc3=>?_) (λhc3=>?_)
 ·exact T3
 refine T0 (Qck v2 v4 (h)) (λx_4 hv5=>?_)
 refine T1 (λhc6=>?_) (λhc6=>?_)
 ·exact T3
 exact T3
def QeA (p1:Int)(a2:Xo)(v3:Qe)(v4:Int)(h:HB a2)(D:Xm v3):Qd (Iy p1 a2 v3 v4) λr=>True:=by
 unfold Iy
 refine T0 (Qcl v3 a2 3 v4 1 (D) (h)) (λx_1 hv2=>?_)
 exact T3
def VM (l1:(L_ Xo))(v2:Qe)(v3:Int)(h:(Xa HB) l1)(h_v2:Xm v2):Qd (EK l1 v2 v3) λr=>True:=by
 unfold EK
 refine T0 (Qd.up (l1.length) (λst=>st) (λ_=>True) (Q:=λq=>True) rfl trivial (λi2 st D hn4 hj5=>?_)) (λq6 hq7=>?_)
 ·obtain⟨x_1,hst⟩:∃y,y=st:=⟨_,rfl⟩
  subst hst
  replace D:x_1=(i2:Int):=D
  show Qd (UF l1 v2 v3 x_1) _
  unfold UF
  refine T1 (λhc8=>?_) (λhc8=>?_)
  ·refine T0 (T4 (by omega) (by simp_all)) (λe_9 hv10=>?_)
   refine T0 (QeA x_1 e_9 v2 v3 (((h).2 e_9 hv10)) (h_v2)) (λx_11 hv12=>?_)
   refine T1 (λhc13=>?_) (λhc13=>?_)
   ·exact T2 (Qn trivial)
   exact T2 (QO ⟨(by simp_all),by subst D;exact Qy (by simp_all) (h).1,trivial⟩)
  exact T2 (Qn trivial)
 rcases q6 with q6 | q6
 ·show Qd (UG q6.1 q6.2) _
  unfold UG
  exact T3
 show Qd (UH) _
 unfold UH
 exact T3
def Zs (n1:Qe)(l2:(L_ Xo))(h:Int)(h_n1:Xm n1)(D:(Xa HB) l2):Qd (Hy n1 l2 h) λr=>True:=by
 unfold Hy
 refine T0 (VM l2 n1 h (D) (h_n1)) (λx_1 hv2=>?_)
 exact T3
def QeB (v1:Qe)(v2:QG)(v3:Int)(h:Xm v1)(D:Yv v2):Qd (Iz v1 v2 v3) λr=>True:=by
 unfold Iz
 refine T0 (Zs v1 v2.Ins v3 (h) (D.2.2.2.2.2.1)) (λx_1 hv2=>?_)
 exact T3
def QaC (v1:Qe)(v2:QG)(v3:Int)(v4:Int)(h:Xm v1)(D:Yv v2):Qd (An v1 v2 v3 v4) λr=>True:=by
 unfold An
 refine T0 (QeB v1 v2 v3 (h) (D)) (λx_1 hv2=>?_)
 exact T3
def QeC (v1:Qe)(v2:QG)(v3:Int)(h:Xm v1)(D:Yv v2):Qd (IA v1 v2 v3) λr=>True:=by
 unfold IA
 refine T0 (Zs v1 v2.Outs v3 (h) (D.2.2.2.2.2.2.1)) (λx_1 hv2=>?_)
 exact T3
def QaD (v1:Qe)(v2:QG)(v3:Int)(v4:Int)(h:Xm v1)(D:Yv v2):Qd (Ao v1 v2 v3 v4) λr=>True:=by
 unfold Ao
 refine T0 (QeC v1 v2 v3 (h) (D)) (λx_1 hv2=>?_)
 exact T3
def Zt (D:Qe)(v2:Int)(h:Xm D):Qd (Uv D v2) λr=>True:=by
 unfold Uv
 refine T0 (Ku D.Places v2 (h.2.1)) (λx_1 hv2=>?_)
 exact T3
def SS (s1:(L_ Int))(v2:Int)(D:(Xa (λ_=>True)) s1):Qd (WB s1 v2) λr=>True:=by
 unfold WB
 refine T0 (Qd.up (s1.length) (λst=>st) (λ_=>True) (Q:=λq=>True) rfl trivial (λi2 st h hn4 hj5=>?_)) (λq6 hq7=>?_)
 ·obtain⟨x_1,hst⟩:∃y,y=st:=⟨_,rfl⟩
  subst hst
  replace h:x_1=(i2:Int):=h
  show Qd (Yl s1 v2 x_1) _
  unfold Yl
  refine T1 (λhc8=>?_) (λhc8=>?_)
  ·refine T0 (T4 (by omega) (by simp_all)) (λe_9 hv10=>?_)
   refine T1 (λhc11=>?_) (λhc11=>?_)
   ·exact T2 (Qn trivial)
   exact T2 (QO ⟨(by simp_all),by subst h;exact Qy (by simp_all) (D).1,trivial⟩)
  exact T2 (Qn trivial)
 rcases q6 with q6 | q6
 ·show Qd (Ey q6) _
  unfold Ey
  exact T3
 show Qd (Ez) _
 unfold Ez
 exact T3
def BT (D:(L_ Int))(v2:Int)(h:(Xa (λ_=>True)) D):Qd (XO D v2) λr=>True:=by
 unfold XO
 refine T0 (SS D v2 (h)) (λx_1 hv2=>?_)
 exact T3
def Zu (D:(L_ Int))(v2:Int)(v3:Int)(h:(Xa (λ_=>True)) D)(hp0:0<=v2)(hp1:v2<D.length):Qd (Uw D v2 v3) λr=>True:=by
 unfold Uw
 refine T0 (T5 (by simp_all;omega)) (λ_ _=>?_)
 refine T0 (BT ((D.drop 0).take (v2.toNat-0)) v3 (((h).drop _).take _)) (λx_1 hv2=>?_)
 exact T3
def Qcm (v1:Qe)(v2:Int)(v3:Int)(v4:(L_ Int))(v5:Int)(v6:Int)(h:Xm v1)(D:(Xa (λ_=>True)) v4)(hp0:0<=v5)(hp1:v5<v4.length):Qd (Cs v1 v2 v3 v4 v5 v6) λr=>True:=by
 unfold Cs
 refine T0 (Zt v1 v2 (h)) (λx_1 hv2=>?_)
 refine T1 (λhc3=>?_) (λhc3=>?_)
 ·exact T3
 refine T0 (Zu v4 v5 v2 (D) (by omega) (by omega)) (λx_4 hv5=>?_)
 refine T1 (λhc6=>?_) (λhc6=>?_)
 ·exact T3
 exact T3
def Qbl (k1:Int)(h:Int)(v3:Qe)(v4:(L_ Int))(D:Xm v3)(h_v4:(Xa (λ_=>True)) v4)(hp0:0<=k1)(hp1:k1<v4.length):Qd (AZ k1 h v3 v4) λr=>True:=by
 unfold AZ
 refine T0 (Qcm v3 h 3 v4 k1 5 (D) (h_v4) (by omega) (by omega)) (λx_1 hv2=>?_)
 exact T3
def Qcn (l1:(L_ Int))(v2:Qe)(v3:(L_ Int))(h_l1:(Xa (λ_=>True)) l1)(h_v2:Xm v2)(h_v3:(Xa (λ_=>True)) v3)(hp0:l1.length<=v3.length):Qd (Ct l1 v2 v3) λr=>True:=by
 unfold Ct
 refine T0 (Qd.up (l1.length) (λst=>st) (λ_=>True) (Q:=λq=>True) rfl trivial (λi2 st h hn4 hj5=>?_)) (λq6 hq7=>?_)
 ·obtain⟨D,hst⟩:∃y,y=st:=⟨_,rfl⟩
  subst hst
  replace h:D=(i2:Int):=h
  show Qd (Fk l1 v2 v3 D) _
  unfold Fk
  refine T1 (λhc8=>?_) (λhc8=>?_)
  ·refine T0 (T4 (by omega) (by simp_all)) (λe_9 hv10=>?_)
   refine T0 (Qbl D e_9 v2 v3 (h_v2) (h_v3) (by omega) (by simp_all;omega)) (λx_11 hv12=>?_)
   refine T1 (λhc13=>?_) (λhc13=>?_)
   ·exact T2 (Qn trivial)
   exact T2 (QO ⟨(by simp_all),by subst h;exact Qy (by simp_all) (h_l1).1,trivial⟩)
  exact T2 (Qn trivial)
 rcases q6 with q6 | q6
 ·show Qd (Fl q6.1 q6.2) _
  unfold Fl
  exact T3
 show Qd (Fm) _
 unfold Fm
 exact T3
def Qdy (n1:Qe)(l2:(L_ Int))(D:Xm n1)(h:(Xa (λ_=>True)) l2):Qd (FR n1 l2) λr=>True:=by
 unfold FR
 refine T0 (Qcn l2 n1 l2 (h) (D) (h) (by omega)) (λx_1 hv2=>?_)
 exact T3
def Qdz (v1:Qe)(v2:QG)(h:Xm v1)(D:Yv v2):Qd (FT v1 v2) λr=>True:=by
 unfold FT
 refine T0 (Qdy v1 v2.Cancel (h) (D.2.2.2.2.2.2.2.1)) (λx_1 hv2=>?_)
 exact T3
def QaE (v1:Qe)(v2:QG)(v3:Int)(h:Xm v1)(D:Yv v2):Qd (Ap v1 v2 v3) λr=>True:=by
 unfold Ap
 refine T0 (Qdz v1 v2 (h) (D)) (λx_1 hv2=>?_)
 exact T3
def Rb (k1:Int)(D:(L_ Xo))(h:(Xa HB) D):Qd (Aq k1 D) λr=>True:=by
 unfold Aq
 exact T3
def QfN (D:QG)(h:Yv D):Qd (LU D) λr=>True:=by
 unfold LU
 refine T0 (P:=λ_=>True) ?_ (λx_1 hv2=>?_)
 ·unfold SK
  refine T0 (Rb D.Join D.Ins (h.2.2.2.2.2.1)) (λx_3 hv4=>?_)
  refine T1 (λhc5=>?_) (λhc5=>?_)
  ·refine T0 (Rb D.Split D.Outs (h.2.2.2.2.2.2.1)) (λx_6 hv7=>?_)
   refine T1 (λhc8=>?_) (λhc8=>?_)
   ·refine T1 (λhc9=>?_) (λhc9=>?_)
    ·refine T1 (λhc10=>?_) (λhc10=>?_)
     ·exact T3
     exact T3
    exact T3
   exact T3
  exact T3
 unfold SL
 exact T3
def QdA (D:QG)(h:Yv D):Qd (FU D) λr=>True:=by
 unfold FU
 refine T0 (QfN D (h)) (λx_1 hv2=>?_)
 exact T3
def Qco (v1:QG)(v2:Int)(v3:Qe)(v4:Int)(v5:Int)(v6:Int)(v7:Int)(v8:Int)(v9:Int)(v10:Int)(v11:Int)(v12:Int)(v13:Int)(v14:Int)(v15:Int)(h:Yv v1)(D:Xm v3)(hp0:0<=v4)(hp1:v4<v3.Tasks.length):Qd (Gi v1 v2 v3 v4 v5 v6 v7 v8 v9 v10 v11 v12 v13 v14 v15) λr=>True:=by
 unfold Gi
 refine T0 (Qet v1 (h)) (λx_1 hv2=>?_)
 refine T1 (λhc3=>?_) (λhc3=>?_)
 ·exact T3
 refine T0 (Qev v3 v4 v1 (D) (h) (by omega) (by omega)) (λx_4 hv5=>?_)
 refine T1 (λhc6=>?_) (λhc6=>?_)
 ·exact T3
 refine T0 (Qew v6 v1 (h)) (λx_7 hv8=>?_)
 refine T1 (λhc9=>?_) (λhc9=>?_)
 ·exact T3
 refine T0 (Qdx v3 v1 v8 (D) (h)) (λx_10 hv11=>?_)
 refine T1 (λhc12=>?_) (λhc12=>?_)
 ·exact T3
 refine T0 (Qey v3 v4 (D)) (λx_13 hv14=>?_)
 refine T1 (λhc15=>?_) (λhc15=>?_)
 ·exact T3
 refine T0 (Qez v1 v6 (h)) (λx_16 hv17=>?_)
 refine T1 (λhc18=>?_) (λhc18=>?_)
 ·exact T3
 refine T0 (QaC v3 v1 v6 x_10.2 (D) (h)) (λx_19 hv20=>?_)
 refine T1 (λhc21=>?_) (λhc21=>?_)
 ·exact T3
 refine T0 (QaD v3 v1 v6 x_19.2 (D) (h)) (λx_22 hv23=>?_)
 refine T1 (λhc24=>?_) (λhc24=>?_)
 ·exact T3
 refine T0 (QaE v3 v1 x_22.2 (D) (h)) (λx_25 hv26=>?_)
 refine T1 (λhc27=>?_) (λhc27=>?_)
 ·exact T3
 refine T0 (QdA v1 (h)) (λx_28 hv29=>?_)
 refine T1 (λhc30=>?_) (λhc30=>?_)
 ·exact T3
 exact T3
def Zv (n1:Qe)(k2:Int)(h:Xm n1):Qd (Ka n1 k2) λr=>True:=by
 unfold Ka
 refine T0 (HC n1.Tasks k2 (h.2.2.1)) (λx_1 hv2=>?_)
 refine T1 (λhc3=>?_) (λhc3=>?_)
 ·exact T3
 refine T0 (Ra n1 (h)) (λx_4 hv5=>?_)
 refine T1 (λhc6=>?_) (λhc6=>?_)
 ·exact T3
 refine T0 (T4 (by simp_all) (by simp_all)) (λD hv8=>?_)
 refine T0 (T4 (by simp_all) (by simp_all)) (λe_9 hv10=>?_)
 refine T0 (QfM 0 n1 D (h) (((h.2.2.1).2 D hv8))) (λx_11 hv12=>?_)
 refine T0 (Qcf 0 n1 D (e_9.Vars.length:Int) (h) (((h.2.2.1).2 D hv8))) (λx_13 hv14=>?_)
 refine T0 (Qcg 0 n1 D (e_9.Vars.length:Int) (h) (((h.2.2.1).2 D hv8))) (λx_15 hv16=>?_)
 refine T0 (Qch 0 n1 D (h) (((h.2.2.1).2 D hv8))) (λx_17 hv18=>?_)
 refine T0 (Qco D 1 n1 k2 5 (e_9.Vars.length:Int) 2 0 (-1) 2 1 (-1) (-1) (-1) 11 (((h.2.2.1).2 D hv8)) (h) (by simp_all) (by simp_all)) (λx_19 hv20=>?_)
 refine T1 (λhc21=>?_) (λhc21=>?_)
 ·exact T3
 exact T3
def QfO (k1:Int)(p2:QG)(v3:Qe)(D:Yv p2)(h:Xm v3):Qd (CN k1 p2 v3) λr=>True:=by
 unfold CN
 refine T0 (Zv v3 k1 (h)) (λx_1 hv2=>?_)
 exact T3
def Th (l1:(L_ QG))(v2:Qe)(h:(Xa Yv) l1)(h_v2:Xm v2):Qd (KB l1 v2) λr=>True:=by
 unfold KB
 refine T0 (Qd.up (l1.length) (λst=>st) (λ_=>True) (Q:=λq=>True) rfl trivial (λi2 st D hn4 hj5=>?_)) (λq6 hq7=>?_)
 ·obtain⟨x_1,hst⟩:∃y,y=st:=⟨_,rfl⟩
  subst hst
  replace D:x_1=(i2:Int):=D
  show Qd (KX l1 v2 x_1) _
  unfold KX
  refine T1 (λhc8=>?_) (λhc8=>?_)
  ·refine T0 (T4 (by omega) (by simp_all)) (λe_9 hv10=>?_)
   refine T0 (QfO x_1 e_9 v2 (((h).2 e_9 hv10)) (h_v2)) (λx_11 hv12=>?_)
   refine T1 (λhc13=>?_) (λhc13=>?_)
   ·exact T2 (Qn trivial)
   exact T2 (QO ⟨(by simp_all),by subst D;exact Qy (by simp_all) (h).1,trivial⟩)
  exact T2 (Qn trivial)
 rcases q6 with q6 | q6
 ·show Qd (Uj q6.1 q6.2) _
  unfold Uj
  exact T3
 show Qd (Uk) _
 unfold Uk
 exact T3
def Qhy (n1:Qe)(h:Xm n1):Qd (ET n1) λr=>True:=by
 unfold ET
 refine T0 (QfF n1 2 3 1 (h)) (λx_1 hv2=>?_)
 refine T1 (λhc3=>?_) (λhc3=>?_)
 ·exact T3
 refine T0 (Ra n1 (h)) (λx_4 hv5=>?_)
 refine T1 (λhc6=>?_) (λhc6=>?_)
 ·exact T3
 refine T0 (SP n1.Places n1 (h.2.1) (h)) (λx_7 hv8=>?_)
 refine T1 (λhc9=>?_) (λhc9=>?_)
 ·exact T3
 refine T0 (Th n1.Tasks n1 (h.2.2.1) (h)) (λx_10 hv11=>?_)
 refine T1 (λD=>?_) (λD=>?_)
 ·exact T3
 exact T3
def Qij (D:Int)(b2:Int)  : Qd (Ro D b2) λr=>True:=by
 unfold Ro
 refine T1 (λh=>?_) (λh=>?_)
 ·exact T3
 exact T3
def Qbm (D:Int)(b2:Int)  : Qd (AO D b2) λr=>True:=by
 unfold AO
 refine T1 (λh=>?_) (λh=>?_)
 ·exact T3
 exact T3
def QaU (D:Int)  : Qd (Lh D) λr=>True:=by
 unfold Lh
 refine T1 (λh=>?_) (λh=>?_)
 ·exact T3
 exact T3
def Qbn (h:Int)(D:Int)  : Qd (AP h D) λr=>True:=by
 unfold AP
 exact T3
def QeD (a1:Int)(b2:Int)  : Qd (HY a1 b2) λr=>True:=by
 unfold HY
 refine T0 (QaU a1 ) (λx_1 hv2=>?_)
 refine T0 (QaU b2 ) (λx_3 hv4=>?_)
 refine T0 (Qbn x_1 x_3 ) (λx_5 hv6=>?_)
 refine T1 (λh=>?_) (λh=>?_)
 ·unfold Ej
  refine T1 (λD=>?_) (λD=>?_)
  ·exact T3
  exact T3
 unfold Ej
 refine T1 (λhc9=>?_) (λhc9=>?_)
 ·exact T3
 exact T3
def Rc (a1:Int)(b2:Int)  : Qd (UY a1 b2) λr=>True:=by
 unfold UY
 refine T1 (λh=>?_) (λh=>?_)
 ·exact T3
 refine T1 (λD=>?_) (λD=>?_)
 ·exact T3
 refine T0 (T5 (by simp_all)) (λ_ _=>?_)
 refine T0 (T5 (by simp_all)) (λ_ _=>?_)
 exact T3
def GF (D:Bool)  : Qd (Dq D) λr=>True:=by
 unfold Dq
 refine T1 (λh=>?_) (λh=>?_)
 ·exact T3
 exact T3
def Lw (DU:Int)(D:Int)(h:Int)  : Qd (Hm DU D h) λr=>True:=by
 unfold Hm
 refine T1 (λhc1=>?_) (λhc1=>?_)
 ·refine T0 (Qij D h ) (λx_2 hv3=>?_)
  exact T3
 refine T1 (λhc4=>?_) (λhc4=>?_)
 ·refine T0 (Qbm D h ) (λx_5 hv6=>?_)
  exact T3
 refine T1 (λhc7=>?_) (λhc7=>?_)
 ·refine T0 (QeD D h ) (λx_8 hv9=>?_)
  exact T3
 refine T1 (λhc10=>?_) (λhc10=>?_)
 ·refine T0 (Rc D h ) (λx_11 hv12=>?_)
  exact T3
 refine T1 (λhc13=>?_) (λhc13=>?_)
 ·refine T0 (Rc D h ) (λx_14 hv15=>?_)
  exact T3
 refine T1 (λhc16=>?_) (λhc16=>?_)
 ·refine T0 (GF (D==h) ) (λx_17 hv18=>?_)
  exact T3
 refine T1 (λhc19=>?_) (λhc19=>?_)
 ·refine T0 (GF (D != h) ) (λx_20 hv21=>?_)
  exact T3
 refine T1 (λhc22=>?_) (λhc22=>?_)
 ·refine T0 (GF (decide (D<h)) ) (λx_23 hv24=>?_)
  exact T3
 refine T1 (λhc25=>?_) (λhc25=>?_)
 ·refine T0 (GF (decide (D<=h)) ) (λx_26 hv27=>?_)
  exact T3
 refine T1 (λhc28=>?_) (λhc28=>?_)
 ·refine T0 (P:=λ_=>True) ?_ (λv_29 hv30=>?_)
  ·unfold QbP
   refine T1 (λhc31=>?_) (λhc31=>?_)
   ·refine T0 (GF (h != 0) ) (λx_32 hv33=>?_)
    exact T3
   refine T0 (GF false ) (λx_34 hv35=>?_)
   exact T3
  unfold QbQ
  exact T3
 refine T1 (λhc36=>?_) (λhc36=>?_)
 ·refine T0 (P:=λ_=>True) ?_ (λv_37 hv38=>?_)
  ·unfold QbR
   refine T1 (λhc39=>?_) (λhc39=>?_)
   ·refine T0 (GF true ) (λx_40 hv41=>?_)
    exact T3
   refine T0 (GF (h != 0) ) (λx_42 hv43=>?_)
   exact T3
  unfold QbS
  exact T3
 exact T3
def Qcp (h:Int)  : Qd (Rp h) λr=>True:=by
 unfold Rp
 refine T0 (Lw 2 0 h ) (λx_1 D=>?_)
 exact T3
def ST (b:L_ (Int×Int))(h:b.length<=maxLen):Wx b=some (BH (-1) b):=by
 unfold Wx
 have D:=TZ (body:=λst=>Kd b st.1 st.2) (l:=b) (ρ:=Unit⊕Unit) (λi (t:Int)=>(t,(i:Int)))
  (λi t x=>bif ((decide (x.1<=t))||((decide (x.2<1))||(decide (1048576<x.2))))then .inr (.inl ())else .inl x.1) (λ_=>.inr ())
  (λi t x hi hx=>by
   show Kd b t i=_
   unfold Kd
   rw[Yw (by omega:(i:Int)<b.length),Xq,Xd,hx,Qf]
   cases ((decide (x.1<=t))||((decide (x.2<1))||(decide (1048576<x.2))))with
   | true=>rfl
   | false=>simp only[Xw,Sum.elim_inl];rw[Qy hi h])
  (λt=>by
   show Kd b t b.length=_
   unfold Kd
   rw[KJ (by omega)];rfl) (-1) (s0:=(-1,0)) rfl
 rw[D]
 have:∀(l:L_ (Int×Int)) (k:Nat) (t:Int),Ba (λi t (x:Int×Int)=>(bif ((decide (x.1<=t))||((decide (x.2<1))||(decide (1048576<x.2))))then .inr (.inl ())else .inl x.1:Int⊕(Unit⊕Unit))) (λ_=>.inr ()) k t l=bif BH t l then .inr ()else .inl ():=by
  intro l
  induction l with
  | nil=>intro k t;rfl
  | cons x l ih=>
   intro k t
   rw[Ba,BH]
   cases ((decide (x.1<=t))||((decide (x.2<1))||(decide (1048576<x.2))))with
   | true=>rfl
   | false=>simp only[Xw,Sum.elim_inl,Tk,Bool.true_and];exact ih _ _
 rw[this]
 cases BH (-1) b<;>rfl
def Vc (b:L_ (Int×Int))(h:b.length<=maxLen):BZ b=some (bif BH (-1) b then .inr b else .inl ()):=by
 unfold BZ
 rw[ST b h,Qf]
 cases hr:BH (-1) b with
 | false=>rfl
 | true=>
  simp only[En,Xw,Xq]
  have ha:=(Ek.1 hr).1
  obtain⟨r,h1,h2⟩:=CX (body:=λst=>Dk b st.1 st.2) b.length (λi s=>s=((i:Int),b.take i)) (λr=>r=b)
   (λi s hi D=>by
    subst D
    refine .inl ⟨(((i+1:Nat):Int),b.take (i+1)),?_,rfl⟩
    show Dk b i (b.take i)=_
    unfold Dk
    rw[Yw (by omega:(i:Int)<b.length),Xq,Xd,Qz hi,Qf,Qy hi h]
    have e:b.take (i+1)=b.take i++[b[i]]:=by rw[Un,Qz hi];rfl
    rw[e,<-Qmi (by have:=(ha.sublist (List.take_sublist (i+1) b));rw[e]at this;exact this)])
   (λs D=>by
    subst D
    refine⟨_,?_,rfl⟩
    show Dk b b.length (b.take b.length)=_
    unfold Dk
    rw[KJ (by omega),Ft];rfl) (0,[]) rfl
  rw[h1,h2];rfl
def VN (a b:L_ (Int×Int))(D:a.length<=maxLen)(h:b.length<=maxLen):HU a b=some (bif BH (-1) a then(bif BH (-1) b then .inr (.inr (.inr (a,b)))else .inr (.inr (.inl a)))else(bif BH (-1) b then .inr (.inl b)else .inl ())):=by
 unfold HU
 rw[Vc a D]
 cases BH (-1) a with
 | true=>
  simp only[Xq,Qf,Sum.elim_inr]
  unfold Py
  rw[Vc b h]
  cases BH (-1) b<;>rfl
 | false=>
  simp only[Xw,Qf,Sum.elim_inl]
  unfold Px
  rw[Vc b h]
  cases BH (-1) b<;>rfl
def LV (m:L_ (Int×Int))(ha:FV m)(h':m.length<=4294967296):Ga m=some (Hz m):=by
 have h:m.length<=maxLen:=by unfold maxLen;omega
 unfold Ga Dn Fe
 simp only[Yw h',Rz rfl,Qf,Qk4 ha]
 obtain⟨r,h1,h2⟩:=CX (body:=λst=>Wu (m.map Prod.fst) m st.1 st.2) m.length (λi s=>s=((i:Int),Hz (m.take i))) (λr=>r=Hz m)
  (λi s hi D=>by
   subst D
   refine .inl ⟨(((i+1:Nat):Int),Hz (m.take (i+1))),?_,rfl⟩
   show Wu (m.map Prod.fst) m i (Hz (m.take i))=_
   unfold Wu
   have e:m.take (i+1)=m.take i++[m[i]]:=by rw[Un,Qz hi];rfl
   have ec:(Qq m m[i].1).getD 0=m[i].2:=CY ha.nd (Yf hi)
   rw[Yw (by simp;omega),Xq,Xd,XQ,Qz hi,JT,Qf,ec]
   have hl:(Hz (m.take i)).length<=i:=Yh (Fq _ _) (by simp;omega)
   cases hc:decide (0<m[i].2)with
   | true=>
    simp only[Xq]
    rw[Gr (by simp;omega),Qf]
    unfold DV
    rw[Qy hi h,e]
    unfold Hz
    rw[Fp,GJ,if_pos hc];rfl
   | false=>
    simp only[Xw]
    unfold DV
    rw[Qy hi h,e]
    unfold Hz
    rw[Fp,GJ,if_neg (by rw[hc];decide),List.filter_nil,OG])
  (λs D=>by
   subst D
   refine⟨_,?_,rfl⟩
   show Wu (m.map Prod.fst) m m.length (Hz (m.take m.length))=_
   unfold Wu
   rw[KJ (by simp),Ft];rfl) (0,[]) rfl
 rw[h1,h2];rfl
def Qik (m:L_ (Int×Int)):(Hz m).length<=m.length:=Fq _ _
def HE (a b:L_ (Int×Int))(h:a.length+b.length<=4294967296):(¬(Rt a/\Rt b)/\Ju a b=some ([],1))\/(Rt a/\Rt b/\(∃k,1048576<QY a k+QY b k)/\Ju a b=some ([],2))\/
  (Rt a/\Rt b/\∃r,Ju a b=some (r,0)/\Rt r/\(∀k,QY r k=QY a k+QY b k)/\r.length<=a.length+b.length):=by
 unfold Ju
 rw[VN a b (by unfold maxLen;omega) (by unfold maxLen;omega),Qf]
 cases ra:BH (-1) a with
 | false=>exact .inl ⟨λhh=>(by rw[Ek.2 hh.1]at ra;cases ra),by cases BH (-1) b<;>rfl⟩
 | true=>
  cases rb:BH (-1) b with
  | false=>exact .inl ⟨λhh=>(by rw[Ek.2 hh.2]at rb;cases rb),rfl⟩
  | true=>
   have hra:=Ek.1 ra
   have D:=Ek.1 rb
   simp only[Xq,Sum.elim_inr]
   unfold RZ
   have hw:∀p∈b,QY a p.1+p.2=QY a p.1+QY b p.1:=λp hp=>by rw[CY D.1.nd hp]
   rcases QfA (g:=λx v=>Qi (x+v)) (stop:=λx=>decide (1048576<x)) (q:=some ()) (body:=λst p=>Bm st p.1 p.2) (λs p=>by
     show Bm s p.1 p.2=_
     unfold Bm
     rw[JJ,if_pos rfl]
     unfold QY
     simp only[Eg]
     cases decide (1048576<Qi ((Qq s p.1).getD 0+p.2))<;>rfl) hra.1 D.1.nd with⟨⟨p,h1,h2⟩,h3⟩|⟨h1,s',h3,h4,h5,h6⟩
   ·refine .inr (.inl ⟨hra,D,⟨p.1,?_⟩,?_⟩)
    ·have:=hra.cnt p.1
     have:=D.cnt p.1
     have h2:=Xs h2
     rw[CY D.1.nd h1]
     rw[CY D.1.nd h1]at this
     rwa[XX (by omega)]at h2
    simp only[h3 () rfl];rfl
   have hk:∀k,QY s' k=QY a k+QY b k/\QY s' k<=1048576:=λk=>by
    have ca:=hra.cnt k
    have cb:=D.cnt k
    have e:=h6 k
    unfold QcO at e
    cases hm:Qq b k with
    | none=>
     rw[hm]at e
     simp only at e
     have:QY b k=0:=by unfold QY;rw[hm];rfl
     have e2:QY s' k=QY a k:=by unfold QY;rw[e]
     omega
    | some v=>
     rw[hm]at e
     simp only at e
     have e1:QY b k=v:=by unfold QY;rw[hm];rfl
     have e2:QY s' k=Qi (QY a k+v):=by unfold QY;rw[e];rfl
     have h7:=h1 (k,v) ((DL D.1.nd).1 hm)
     simp only[Xj]at h7
     rw[XX (by omega)]at e2 h7
     omega
   refine .inr (.inr ⟨hra,D,Hz s',?_,Qk3 h4 (λk hk0=>⟨?_,(hk k).2⟩),λk=>?_,Yh (Qik s') h5⟩)
   ·simp only[h3,Qf,Sum.elim_inl]
    unfold MU
    rw[LV s' h4 (by omega)];rfl
   ·have:=(hk k).1
    have ca:=hra.cnt k
    have cb:=D.cnt k
    by_cases c:0<QY a k
    ·exact hra.cnt_pos c
    exact D.cnt_pos (by omega)
   rw[Qii h4,(hk k).1]
   have ca:=hra.cnt k
   have cb:=D.cnt k
   split<;>omega
def SU (m h:L_ (Int×Int)):DW m h=some (!(m.any λp=>decide (QY h p.1<p.2))):=by
 unfold DW
 rw[QjP (bad:=λp=>decide (QY h p.1<p.2)) (q:=()) (λp=>by
  show WA h p.1 p.2=_
  unfold WA QY
  cases decide ((Qq h p.1).getD 0<p.2)<;>rfl)]
 cases m.any λp=>decide (QY h p.1<p.2)<;>rfl
def QfP {a b:L_ (Int×Int)}(D:Rt a)(hb:Rt b):(a.any λp=>decide (QY b p.1<p.2))=false↔∀k,QY a k<=QY b k:=by
 rw[<-OF,HH]
 simp only[QK,not_exists,not_and]
 constructor
 ·intro h k
  have cb:=hb.cnt k
  cases e:Qq a k with
  | none=>
   have:QY a k=0:=by unfold QY;rw[e];rfl
   omega
  | some v=>
   have h1:=h _ ((DL D.1.nd).1 e)
   have:QY a k=v:=by unfold QY;rw[e];rfl
   simp only at h1
   omega
 intro h p hp hlt
 have:=h p.1
 rw[CY D.1.nd hp]at this
 omega
def QfQ (a b:L_ (Int×Int))(ha:a.length<=maxLen)(hb:b.length<=maxLen):∃r,Nf a b=some r/\(r=true↔Rt a/\Rt b/\∀k,QY a k<=QY b k):=by
 unfold Nf
 rw[VN a b ha hb,Qf]
 cases ra:BH (-1) a with
 | false=>exact⟨false,by cases BH (-1) b<;>rfl,by simp;intro hh;rw[Ek.2 hh]at ra;cases ra⟩
 | true=>
  cases rb:BH (-1) b with
  | false=>exact⟨false,rfl,by simp;intro _ hh;rw[Ek.2 hh]at rb;cases rb⟩
  | true=>
   have D:=Ek.1 ra
   have hrb:=Ek.1 rb
   refine⟨!(a.any λp=>decide (QY b p.1<p.2)),?_,?_⟩
   ·simp only[Xq,Sum.elim_inr]
    unfold Nd
    rw[SU];rfl
   rw[GI,QfP D hrb]
   exact⟨λh=>⟨D,hrb,h⟩,λh=>h.2.2⟩
def PI (a b:L_ (Int×Int))(h:a.length+b.length<=4294967296):(¬(Rt a/\Rt b)/\JM a b=some ([],1))\/(Rt a/\Rt b/\(∃k,QY a k<QY b k)/\JM a b=some ([],10))\/
  (Rt a/\Rt b/\(∀k,QY b k<=QY a k)/\∃r,JM a b=some (r,0)/\Rt r/\(∀k,QY r k=QY a k-QY b k)/\r.length<=a.length+b.length):=by
 unfold JM
 rw[VN a b (by unfold maxLen;omega) (by unfold maxLen;omega),Qf]
 cases ra:BH (-1) a with
 | false=>exact .inl ⟨λhh=>(by rw[Ek.2 hh.1]at ra;cases ra),by cases BH (-1) b<;>rfl⟩
 | true=>
  cases rb:BH (-1) b with
  | false=>exact .inl ⟨λhh=>(by rw[Ek.2 hh.2]at rb;cases rb),rfl⟩
  | true=>
   have D:=Ek.1 ra
   have hrb:=Ek.1 rb
   simp only[Xq,Sum.elim_inr]
   unfold PE
   rw[SU,Qf]
   cases hw:b.any λp=>decide (QY a p.1<p.2)with
   | true=>
    refine .inr (.inl ⟨D,hrb,?_,rfl⟩)
    obtain⟨p,h1,h2⟩:=HH.1 hw
    exact⟨p.1,by rw[CY hrb.1.nd h1];exact Xs h2⟩
   | false=>
    have hle:=(QfP hrb D).1 hw
    simp only[Tk,En,Xw]
    rcases QfA (g:=λx v=>Qi (x-v)) (stop:=λ_=>false) (q:=none) (body:=λst p=>UQ st p.1 p.2) (λs p=>by
      show UQ s p.1 p.2=_
      unfold UQ QY
      rfl) D.1 hrb.1.nd with⟨⟨p,h1,h2⟩,h3⟩|⟨h1,s',h3,h4,h5,h6⟩
    ·cases h2
    have hk:∀k,QY s' k=QY a k-QY b k:=λk=>by
     have ca:=D.cnt k
     have cb:=hrb.cnt k
     have e:=h6 k
     unfold QcO at e
     cases hm:Qq b k with
     | none=>
      rw[hm]at e
      simp only at e
      have:QY b k=0:=by unfold QY;rw[hm];rfl
      have e2:QY s' k=QY a k:=by unfold QY;rw[e]
      omega
     | some v=>
      rw[hm]at e
      simp only at e
      have e1:QY b k=v:=by unfold QY;rw[hm];rfl
      have e2:QY s' k=Qi (QY a k-v):=by unfold QY;rw[e];rfl
      rw[XX (by omega)]at e2
      omega
    refine .inr (.inr ⟨D,hrb,hle,Hz s',?_,Qk3 h4 (λk hk0=>?_),λk=>?_,Yh (Qik s') h5⟩)
    ·simp only[h3,Qf,Sum.elim_inl]
     unfold LF
     rw[LV s' h4 (by omega)];rfl
    ·have:=hk k
     have ca:=D.cnt k
     have cb:=hrb.cnt k
     exact⟨D.cnt_pos (by omega),by omega⟩
    rw[Qii h4,hk k]
    have:=hle k
    split<;>omega
def QfR (t:Int):Og [t]=some (bif decide (0<=t)then [(t,1)]else []):=by
 unfold Og
 rw[WL]
 show((Av [t] 0 []).bind _).bind _=_
 unfold Av
 rw[Yw (by simp),Xq,show idx [t] 0=some t from rfl,Qf]
 unfold OQ
 rw[show Qi (0+1)=1 from by decide]
 cases h:decide (0<=t)with
 | false=>
  simp only[Xw,Qf,Sum.elim_inl]
  rw[WL]
  show((Av [t] 1 []).bind _).bind _=_
  unfold Av
  rw[KJ (by simp)]
  simp only[Xw,Qf,Sum.elim_inr]
  unfold Vx
  rw[LV [] List.Pairwise.nil (by simp)];rfl
 | true=>
  simp only[Xq,Qf,Sum.elim_inl]
  rw[WL]
  show((Av [t] 1 [(t,min2 (Qi (0+1)) 1048576)]).bind _).bind _=_
  unfold Av
  rw[KJ (by simp)]
  simp only[Xw,Qf,Sum.elim_inr]
  unfold Vx
  rw[LV _ (Tp _ _) (by simp[maxLen]),show min2 (Qi (0+1)) 1048576=1 from by decide];rfl
def Qi6 : ∀(n:Nat) (e:Ql) (d:Int),WZ e->SizeOf.sizeOf e<=n->Qd (Ec n e d) λ_=>True
 | 0,e,_,_,h=>absurd e.pos (by omega)
 | n+1,e,d,he,h=>by
  unfold Ec PG
  refine T1 (λ_=>T3) λ_=>?_
  refine T0 (Qd.up e.Kids.length (λst=>st.2) (λ_=>True) (Q:=λ_=>True) rfl trivial (λi st hi hn _=>?_)) (λq _=>?_)
  ·obtain⟨a,x⟩:=st
   replace hi:x=(i:Int):=hi
   show Qd (Ox e (Ec n) d a x) _
   unfold Ox
   refine T1 (λD=>?_) (λD=>T2 (Qn trivial))
   simp only[QK]at D
   refine T0 (T4 (by omega) (by omega)) λk hk=>?_
   have:=Qcc hk
   refine T0 (Qi6 n k _ ((GE he).2 k hk) (by omega)) λy _=>?_
   refine T1 (λ_=>T2 (Qn trivial)) λ_=>T1 (λ_=>T2 (Qn trivial)) λ_=>?_
   exact T2 (QO ⟨by omega,by subst hi;exact Qy (by omega) (GE he).1,trivial⟩)
  rcases q with q | q
  ·exact T3
  exact T3
def QgI (e:Ql)(h:WZ e):Qd (CW e) λ_=>True:=by
 unfold CW VF
 exact T0 (Qi6 _ e 60 h (Jn _)) λ_ _=>T3
def Qi7 (n1:Qe)(h:Xm n1)(q0:Int):Qd (NB n1 q0) λr=>r=true->q0<=400:=by
 unfold NB
 refine T0 (Qd.up n1.Tasks.length (λst=>st.2) (λ_=>True) (Q:=λ_=>True) rfl trivial (λi st hi hn _=>?_)) (λq _=>?_)
 ·obtain⟨a,x⟩:=st
  replace hi:x=(i:Int):=hi
  show Qd (NA n1 a x) _
  unfold NA
  refine T1 (λhc=>?_) (λ_=>T2 (Qn trivial))
  simp only[QK]at hc
  refine T0 (T4 (by omega) (by omega)) λe he=>?_
  have ke:=h.2.2.1.2 e he
  refine T1 (λ_=>T2 (Qn trivial)) λ_=>?_
  refine T0 (Qd.up e.Vars.length (λst=>st) (λ_=>True) (Q:=λ_=>True) rfl trivial (λi2 st D hn2 _=>?_)) (λq _=>?_)
  ·show Qd (Nu e st) _
   unfold Nu
   refine T1 (λhc=>?_) (λ_=>T2 (Qn trivial))
   simp only[QK]at hc
   refine T0 (T4 (by omega) (by omega)) λs _=>?_
   exact T1 (λ_=>T2 (Qn trivial)) λ_=>T2 (QO ⟨by omega,by rw[D];exact Qy (by omega) ke.2.1.1,trivial⟩)
  rcases q with q | q
  ·exact T2 (Qn trivial)
  show Qd (Nz e a x) _
  unfold Nz
  refine T0 (QgI e.Guard ke.2.2.1) λg _=>?_
  refine T0 (Qd.up e.Ins.length (λst=>st.2) (λ_=>True) (Q:=λ_=>True) rfl trivial (λi2 st D hn2 _=>?_)) (λq _=>?_)
  ·obtain⟨b,y⟩:=st
   replace D:y=(i2:Int):=D
   show Qd (Nv e b y) _
   unfold Nv
   refine T1 (λhc=>?_) (λ_=>T2 (Qn trivial))
   simp only[QK]at hc
   refine T0 (T4 (by omega) (by omega)) λs hs=>?_
   refine T0 (QgI s.Expr (ke.2.2.2.2.2.1.2 s hs).2) λg _=>?_
   exact T2 (QO ⟨by omega,by subst D;exact Qy (by omega) ke.2.2.2.2.2.1.1,trivial⟩)
  show Qd (Ny e a x q) _
  unfold Ny
  refine T0 (Qd.up e.Outs.length (λst=>st.2) (λ_=>True) (Q:=λ_=>True) rfl trivial (λi2 st D hn2 _=>?_)) (λq _=>?_)
  ·obtain⟨b,y⟩:=st
   replace D:y=(i2:Int):=D
   show Qd (Nw e b y) _
   unfold Nw
   refine T1 (λhc=>?_) (λ_=>T2 (Qn trivial))
   simp only[QK]at hc
   refine T0 (T4 (by omega) (by omega)) λs hs=>?_
   refine T0 (QgI s.Expr (ke.2.2.2.2.2.2.1.2 s hs).2) λg _=>?_
   exact T2 (QO ⟨by omega,by subst D;exact Qy (by omega) ke.2.2.2.2.2.2.1.1,trivial⟩)
  show Qd (Nx a e x q) _
  unfold Nx
  exact T1 (λ_=>T2 (Qn trivial)) λ_=>T2 (QO ⟨by omega,by subst hi;exact Qy (by omega) h.2.2.1.1,trivial⟩)
 rcases q with q | q
 ·exact T2 λh=>by cases h
 exact T2 λh=>by simpa using h
def Qnl (n1:Qe)(h:Xm n1):Qd (AD n1) λr=>r=true->n1.Colours.length<=40/\n1.Places.length<=70/\n1.Tasks.length<=70:=by
 unfold AD
 refine T1 (λ_=>T2 λh=>by cases h) λD=>?_
 simp only[KZ,Xj]at D
 refine T6 (P:=λ_=>True) ?_ λ_ _ _=>by omega
 refine T0 (Qd.up n1.Colours.length (λst=>st.2) (λ_=>True) (Q:=λ_=>True) rfl trivial (λi st hi hn _=>?_)) (λq _=>?_)
 ·obtain⟨a,x⟩:=st
  replace hi:x=(i:Int):=hi
  show Qd (BA n1 a x) _
  unfold BA
  refine T1 (λD=>?_) (λ_=>T2 (Qn trivial))
  simp only[QK]at D
  refine T0 (T4 (by omega) (by omega)).self λe he=>?_
  obtain⟨he,hm⟩:=he
  refine T0 (P:=λ_=>True) ?_ λy _=>?_
  ·unfold Oz
   rw[he,Qf]
   exact T1 (λ_=>T3) λ_=>T3
  unfold OA
  refine T1 (λ_=>T2 (Qn trivial)) λ_=>?_
  refine T0 (Qd.up e.Names.length (λst=>st) (λ_=>True) (Q:=λ_=>True) rfl trivial (λi2 st hi2 hn2 _=>?_)) (λq _=>?_)
  ·show Qd (Bz n1 x st) _
   unfold Bz
   simp only[he,Qf]
   refine T1 (λD=>?_) (λ_=>T2 (Qn trivial))
   simp only[QK]at D
   refine T0 (T4 (by omega) (by omega)) λs _=>?_
   refine T1 (λ_=>T2 (Qn trivial)) λ_=>?_
   exact T2 (QO ⟨by omega,by rw[hi2];exact Qy (by omega) (h.1.2 e hm).2.2.2.2.1.1,trivial⟩)
  rcases q with q | q
  ·exact T2 (Qn trivial)
  exact T2 (QO ⟨by omega,by subst hi;exact Qy (by omega) h.1.1,trivial⟩)
 rcases q with q | q
 ·exact T3
 show Qd (Aj n1 q) _
 unfold Aj
 refine T0 (Qd.up n1.Places.length (λst=>st.2) (λ_=>True) (Q:=λ_=>True) rfl trivial (λi st hi hn _=>?_)) (λq _=>?_)
 ·obtain⟨a,x⟩:=st
  replace hi:x=(i:Int):=hi
  show Qd (BB n1 a x) _
  unfold BB
  refine T1 (λD=>?_) (λ_=>T2 (Qn trivial))
  simp only[QK]at D
  refine T0 (T4 (by omega) (by omega)) λe _=>?_
  refine T0 (T4 (by omega) (by omega)) λe2 _=>?_
  exact T1 (λ_=>T2 (Qn trivial)) λ_=>T2 (QO ⟨by omega,by subst hi;exact Qy (by omega) h.2.1.1,trivial⟩)
 rcases q with q | q
 ·exact T3
 exact(Qi7 n1 h q).mono λ_ _=>trivial
def Qnm (m:L_ QBg)(h:m.length<=maxLen):Qd (OW m) λ_=>True:=by
 unfold OW
 refine T0 (Qd.up m.length (λst=>st.2) (λ_=>True) (Q:=λ_=>True) rfl trivial (λi st hi hn _=>?_)) (λq _=>T3)
 obtain⟨a,x⟩:=st
 replace hi:x=(i:Int):=hi
 show Qd (OB m a x) _
 unfold OB
 refine T1 (λD=>?_) (λ_=>T2 (Qn trivial))
 simp only[QH,QK]at D
 refine T0 (T4 (by omega) (by omega)) λe _=>?_
 exact T2 (QO ⟨by omega,by subst hi;exact Qy (by omega) h,trivial⟩)
def Qi8 {l:L_ (Int×Int)}(h:FV l):∀{a:Int},(∀p∈l,a<=p.1)->∀(i:Nat) (hi:i<l.length),a+i<=(l[i]).1:=by
 induction l with
 | nil=>intro a _ i hi;simp at hi
 | cons p l ih=>
  intro a D i hi
  obtain⟨h1,h2⟩:=Ul.1 h
  cases i with
  | zero=>have:=D p XM;simpa using this
  | succ i=>
   have h3:=ih h2 (a:=a+1) (λq hq=>by have:=h1 q hq;have:=D p XM;omega) i (by simpa using hi)
   simp only[List.getElem_cons_succ]
   omega
def Qmn {l:L_ (Int×Int)}(h:FV l)(h0:0<l.length){k:Int}(hk:0<QY l k):k<=(l[l.length-1]).1:=by
 unfold QY at hk
 cases e:Qq l k with
 | none=>rw[e]at hk;simp at hk
 | some v=>
  obtain⟨j,hj,D⟩:=Fs.1 ((DL h.nd).1 e)
  by_cases c:j=l.length-1
  ·subst c;rw[D];exact Int.le_refl _
  have:=QeN.1 h j (l.length-1) hj (by omega) (by omega)
  rw[D]at this
  simp only at this
  omega
def Kh (n:Qe)(c:Nat)(m:L_ QBg):Prop:=m.length=n.Places.length/\∀b∈m,Rt b/\b.length<=c
def Kh.mono {n:Qe}{c D:Nat}{m:L_ QBg}(h:Kh n c m)(hc:c<=D):Kh n D m:=⟨h.1,λb hb=>⟨(h.2 b hb).1,Yh (h.2 b hb).2 hc⟩⟩
def FW (n:Qe)(m:L_ QBg):Prop:=∀(j:Nat) b p,m[j]? = some b->n.Places[j]? = some p->∀k,0<QY b k->∃z,YP n.Colours p.Colour=some z/\k<z
def Qil (n1:Qe)(m:L_ QBg)(h:Xm n1)(hm:Xa (Xa λ_=>True) m):Qd (NE n1 m) λr=>r=true->Kh n1 1024 m/\FW n1 m:=by
 unfold NE
 refine T1 (λ_=>T2 λh=>by cases h) λhc=>?_
 have hl:m.length=n1.Places.length:=by simp only[Ww]at hc;omega
 refine T0 (Qd.up m.length (λst=>st) (λst=>∀(j:Nat) (hj:j<m.length),(j:Int)<st->(Rt m[j]/\(m[j]).length<=1024)/\∀p,n1.Places[j]? = some p->∀k,0<QY m[j] k->∃z,YP n1.Colours p.Colour=some z/\k<z) (Q:=λq=>q=.inr ()->(∀b∈m,Rt b/\b.length<=1024)/\FW n1 m) rfl (λj _ hj=>by omega) (λi st hi hn hJ=>?_)) (λq hq=>?_)
 ·show Qd (ND m n1 st) _
  unfold ND
  refine T1 (λhc=>?_) (λhc=>T2 (Qn λ_=>⟨λb hb=>by
   obtain⟨j,hj,rfl⟩:=Fs.1 hb
   simp only[Xj]at hc
   exact(hJ j hj (by omega)).1,λj b p hb hp=>by
   obtain⟨hj,rfl⟩:=QX.1 hb
   simp only[Xj]at hc
   exact(hJ j hj (by omega)).2 p hp⟩))
  simp only[QK]at hc
  have D:i<m.length:=by omega
  have hlp:i<n1.Places.length:=by omega
  rw[hi,Xd,Qz D,Qf,Xd,Qz hlp,Qf]
  refine T0 (Wt n1.Colours (n1.Places[i]).Colour h.1).self λsz hsz=>?_
  obtain⟨hze,hsz⟩:=hsz
  have hb:=hm.2 _ (Yf D)
  have hbl:=hb.1
  refine T0 (P:=λr=>r=false->(Rt m[i]/\(m[i]).length<=1024)/\∀k,0<QY m[i] k->k<sz) ?_ λx hx=>?_
  ·unfold TV
   rw[ST _ hb.1,Qf]
   refine T1 (λ_=>T2 λh=>by cases h) λhr=>?_
   have hrt:=Ek.1 (by simpa using hr:BH (-1) m[i]=true)
   refine T1 (λh0=>?_) (λh0=>T2 λ_=>⟨⟨hrt,by simp only[Xj]at h0;omega⟩,λk hk=>by
    simp only[Xj]at h0
    rw[show m[i]=[]from HK.1 (by omega)]at hk
    simp[QY,Qq]at hk⟩)
   simp only[QK]at h0
   unfold maxLen at hbl
   rw[XX (by omega),show((m[i]).length:Int)-1=(((m[i]).length-1:Nat):Int) by omega,Xd,Qz (by omega),Qf]
   refine T2 λhf=>?_
   simp only[Xj]at hf
   have:=Qi8 hrt.1 (a:=0) (λp hp=>(hrt.2 p hp).1) ((m[i]).length-1) (by omega)
   refine⟨⟨hrt,by omega⟩,λk hk=>?_⟩
   have:=Qmn hrt.1 (by omega) hk
   omega
  unfold TW
  refine T1 (λ_=>T2 (Qn λh=>by cases h)) λhxf=>?_
  refine T2 (QO ⟨D,Qy D hm.1,λj hj hjs=>?_⟩)
  rw[Qy D hm.1]at hjs
  by_cases c:j=i
  ·subst c
   refine⟨(hx hxf).1,λp hp k hk=>⟨sz,?_,(hx hxf).2 k hk⟩⟩
   rw[Qz hlp]at hp
   cases hp
   exact hze
  exact hJ j hj (by omega)
 rcases q with q | q
 ·exact T2 λh=>by cases h
 exact T2 λ_=>⟨⟨hl,(hq rfl).1⟩,(hq rfl).2⟩
structure Xn (n:Qe):Prop where
 k:Xm n
 pl:n.Places.length<=70
 tl:n.Tasks.length<=12
 tk:∀t∈n.Tasks,t.Vars.length<=16/\t.Ins.length<=16/\t.Outs.length<=16/\t.Cancel.length<=16
def Qk8 (n1:Qe)(k2:Int)(h:Ka n1 k2=some 0):∃t,idx n1.Tasks k2=some t/\t.Vars.length<=16/\t.Ins.length<=16/\t.Outs.length<=16/\t.Cancel.length<=16:=by
 unfold Ka at h
 obtain⟨x5,_,h⟩:=Qv h
 rcases XN h with⟨_,h⟩|⟨_,h⟩
 ·cases h
 obtain⟨x7,_,h⟩:=Qv h
 rcases XN h with⟨c,h⟩|⟨_,h⟩
 ·simp only[Option.some.injEq]at h;rw[h]at c;cases c
 obtain⟨e9,he9,h⟩:=Qv h
 obtain⟨e10,he10,h⟩:=Qv h
 rw[he9]at he10;cases he10
 obtain⟨_,_,h⟩:=Qv h
 obtain⟨_,_,h⟩:=Qv h
 obtain⟨_,_,h⟩:=Qv h
 obtain⟨_,_,h⟩:=Qv h
 obtain⟨x15,D,h⟩:=Qv h
 have bad:∀a b:Int,0<a->x15=(a,b)->False:=λa b ha e=>by
  subst e
  simp only at h
  rcases XN h with⟨c,h⟩|⟨_,h⟩
  ·simp only[beq_iff_eq]at c;omega
  simp only[Option.some.injEq]at h;omega
 unfold Gi at D
 obtain⟨x20,_,D⟩:=Qv D
 rcases XN D with⟨_,D⟩|⟨_,D⟩
 ·exact(bad _ _ (by decide) (Option.some.inj D).symm).elim
 obtain⟨x22,_,D⟩:=Qv D
 rcases XN D with⟨_,D⟩|⟨_,D⟩
 ·exact(bad _ _ (by decide) (Option.some.inj D).symm).elim
 obtain⟨x24,h24,D⟩:=Qv D
 rcases XN D with⟨_,D⟩|⟨c,D⟩
 ·exact(bad _ _ (by decide) (Option.some.inj D).symm).elim
 unfold BD at h24
 simp only[Option.some.injEq]at h24
 rw[<-h24]at c
 simp only[AH,QH,QK,IB]at c
 exact⟨e9,he9,by omega,by omega,by omega,by omega⟩
def QdM (l1:L_ QG)(n1:Qe)(h:Xm n1)(hl:Xa Yv l1):Qd (KB l1 n1) λr=>r.2=0->∀(j:Nat),j<l1.length->Ka n1 j=some 0:=by
 unfold KB
 refine T0 (Qd.up l1.length (λst=>st) (λst=>∀(j:Nat),(j:Int)<st->Ka n1 j=some 0) (Q:=λq=>(∀a b,q=.inl (a,b)->b≠0)/\(q=.inr ()->∀(j:Nat),j<l1.length->Ka n1 j=some 0)) rfl (λj hj=>by omega) (λi st hi hn hJ=>?_)) (λq hq=>?_)
 ·show Qd (KX l1 n1 st) _
  unfold KX
  refine T1 (λD=>?_) (λD=>T2 (Qn ⟨λa b h=>(by cases h),λ_ j hj=>by
   simp only[Xj]at D
   exact hJ j (by omega)⟩))
  simp only[QK]at D
  refine T0 (T4 (by omega) (by omega)) λe he=>?_
  refine T0 (P:=λx=>Ka n1 st=some x) ?_ λx hx=>?_
  ·unfold CN
   exact T0 (Zv n1 st h).self λx hx=>T2 hx.1
  refine T1 (λD=>T2 (Qn ⟨λa b h=>(by cases h;simpa using D),λh=>(by cases h)⟩)) λD=>?_
  simp only[Ww]at D
  refine T2 (QO ⟨by omega,by rw[hi];exact Qy (by omega) hl.1,λj hj=>?_⟩)
  rw[hi,Qy (show i<l1.length by omega) hl.1]at hj
  by_cases c:j=i
  ·subst c;rw[<-hi,hx,D]
  exact hJ j (by omega)
 rcases q with q | q
 ·exact T2 λh=>absurd h (hq.1 q.1 q.2 rfl)
 exact T2 λ_=>hq.2 rfl
def Qk9 (n1:Qe)(h:Xm n1){p:GN}(D:ET n1=some (0,p)):∀t∈n1.Tasks,t.Vars.length<=16/\t.Ins.length<=16/\t.Outs.length<=16/\t.Cancel.length<=16:=by
 unfold ET at D
 obtain⟨x6,_,D⟩:=Qv D
 rcases XN D with⟨c,D⟩|⟨_,D⟩
 ·simp only[Option.some.injEq,Prod.mk.injEq]at D;rw[D.1]at c;cases c
 obtain⟨x8,_,D⟩:=Qv D
 rcases XN D with⟨c,D⟩|⟨_,D⟩
 ·simp only[Option.some.injEq,Prod.mk.injEq]at D;rw[D.1]at c;cases c
 obtain⟨x10,_,D⟩:=Qv D
 rcases XN D with⟨c,D⟩|⟨_,D⟩
 ·simp only[Option.some.injEq,Prod.mk.injEq]at D;rw[D.1]at c;cases c
 obtain⟨x12,h12,D⟩:=Qv D
 rcases XN D with⟨c,D⟩|⟨c,D⟩
 ·simp only[Option.some.injEq,Prod.mk.injEq]at D;rw[D.1]at c;cases c
 simp only[Ww]at c
 obtain⟨r,hr,hr2⟩:=QdM n1.Tasks n1 h h.2.2.1
 rw[h12]at hr;cases hr
 intro t ht
 obtain⟨j,hj,rfl⟩:=Fs.1 ht
 obtain⟨t,h1,h2⟩:=Qk8 n1 j (hr2 c j hj)
 rw[Xd,Qz hj]at h1
 cases h1
 exact h2
def Qn7 (n1:Qe)(m:L_ QBg)(h:Xm n1)(hm:Xa (Xa λ_=>True) m):Qd (BF n1 m) λr=>r=true->Xn n1/\Kh n1 1024 m/\FW n1 m:=by
 unfold BF
 refine T0 (Qnl n1 h) λx5 h5=>?_
 refine T0 (Qnm m hm.1) λx6 _=>?_
 refine T1 (λ_=>T2 λh=>by cases h) λhc=>?_
 simp only[KZ,AH,Xj]at hc
 have h5:=h5 hc.1
 refine T0 (Qhy n1 h).self λx11 h11=>?_
 refine T0 (P:=λr=>r=false->Xn n1/\Kh n1 1024 m/\FW n1 m) ?_ λx12 h12=>?_
 ·unfold NF
  refine T1 (λ_=>T2 λh=>by cases h) λD=>?_
  simp only[Ww]at D
  refine T0 (Qil n1 m h hm) λr hr=>T2 λhrf=>⟨⟨h,h5.2.1,by omega,?_⟩,hr (by simpa using hrf)⟩
  obtain⟨a,b⟩:=x11
  simp only at D
  subst D
  exact Qk9 n1 h h11.1
 unfold NH
 refine T1 (λ_=>T2 λh=>by cases h) λhx=>?_
 have hfin:=h12 hx
 refine T6 (P:=λ_=>True) ?_ λ_ _ _=>hfin
 refine T0 (Qd.up n1.Tasks.length (λst=>st.2) (λ_=>True) (Q:=λ_=>True) rfl trivial (λi st hi hn _=>?_)) (λq _=>T3)
 obtain⟨a,x⟩:=st
 replace hi:x=(i:Int):=hi
 show Qd (NG n1 a x) _
 unfold NG
 refine T1 (λhc=>?_) (λ_=>T2 (Qn trivial))
 simp only[QK]at hc
 refine T0 (T4 (by omega) (by omega)) λe _=>?_
 refine T0 (Va n1 x h) λy _=>?_
 exact T2 (QO ⟨by omega,by subst hi;exact Qy (by omega) h.2.2.1.1,trivial⟩)
def Qg6 (s:YJ)(m:Int)(h:0<=s.k/\s.k<s.sizes.length):Qd (WN s m) λr=>r=true->0<=m:=by
 unfold WN
 refine T0 (P:=λr=>r=true->0<=m) ?_ λx hx=>T2 hx
 unfold Up
 refine T1 (λD=>?_) λ_=>T2 λh=>by cases h
 exact T0 (T4 h.1 h.2) λ_ _=>T2 λ_=>by simpa using D
def BJ (s:YJ)(h:0<=s.k/\s.k<s.all.length):Qd (Wv s) λ_=>True:=by
 unfold Wv
 exact T0 (T4 h.1 h.2) λ_ _=>T3
def Qmo (l:L_ QI)(k m:Int)(hl:Xa Kg l):Qd (GP l k m) λ_=>True:=by
 unfold GP
 refine T0 (CP l k hl) λx hx=>?_
 refine T0 (P:=λr=>r=false->x.1=true) ?_ λr hr=>?_
 ·unfold Hk
  refine T1 (λ_=>T2 λh=>by cases h) λD=>?_
  have D:x.1=true:=by simpa using D
  have h:=hx.2 D
  exact T0 (Qg6 x.2 m (by omega)) λ_ _=>T2 λ_=>D
 unfold Hl
 refine T1 (λ_=>T3) λD=>?_
 have h:=hx.2 (hr D)
 refine T0 (BJ x.2 (by omega)) λ_ _=>?_
 refine T1 (λ_=>?_) λ_=>T3
 exact T0 (BJ x.2 (by omega)) λ_ _=>T3
def Qmp (l:L_ QI)(k n:Int)(hl:Xa Kg l):Qd (GQ l k n) λr=>r.2=true->0<=r.1:=by
 unfold GQ
 refine T0 (CP l k hl) λx hx=>?_
 refine T1 (λ_=>T2 λh=>by cases h) λD=>?_
 have h:=hx.2 (by simpa using D)
 have k1:∀m,Qd (KQ x m) λr=>r.2=true->0<=r.1:=λm=>by
  unfold KQ
  refine T0 (Qg6 x.2 m (by omega)) λy hy=>?_
  exact T1 (λ_=>T2 λh=>by cases h) λD=>T2 λ_=>hy (by simpa using D)
 refine T0 (BJ x.2 (by omega)) λ_ _=>?_
 refine T1 (λ_=>?_) λ_=>k1 _
 exact T1 (λ_=>T2 λh=>by cases h) λ_=>k1 _
def Qla (l:L_ QI)(k n:Int)(hl:Xa Kg l):Qd (GQ l k n) λr=>r.2=true->∃z,YP l k=some z/\r.1<z:=by
 unfold GQ YP
 refine T0 (CP l k hl).self λx hx=>?_
 obtain⟨hxe,hx⟩:=hx
 refine T1 (λ_=>T2 λh=>by cases h) λhc=>?_
 have h:=hx.2 (by simpa using hc)
 have hk:k.toNat<x.2.sizes.length:=by omega
 have ei:idx x.2.sizes k=some x.2.sizes[k.toNat]:=Qca h.1.1 h.1.2
 have k1:∀m,Qd (KQ x m) λr=>r.2=true->∃z,((ES l k).bind λx5=>bif (!x5.1)then some 0 else(idx x5.2.sizes k).bind λe7=>some e7)=some z/\r.1<z:=λm=>by
  unfold KQ
  refine T0 (P:=λy=>y=true->m<x.2.sizes[k.toNat]) ?_ λy hy=>?_
  ·unfold WN
   refine T0 (P:=λy=>y=true->m<x.2.sizes[k.toNat]) ?_ λy hy=>T2 hy
   unfold Up
   refine T1 (λ_=>?_) λ_=>T2 λh=>by cases h
   rw[h.2.1,ei,Qf]
   exact T2 λh=>by simpa using h
  refine T1 (λ_=>T2 λh=>by cases h) λD=>T2 λ_=>⟨x.2.sizes[k.toNat],?_,hy (by simpa using D)⟩
  rw[hxe,Qf,hc,Xw,ei];rfl
 refine T0 (BJ x.2 (by omega)) λ_ _=>?_
 refine T1 (λ_=>?_) λ_=>k1 _
 exact T1 (λ_=>T2 λh=>by cases h) λ_=>k1 _
def BK {α:Type}{o:O_ α}{P:α->Prop}(h:Qd o P){r:α}(e:o=some r):P r:=by
 obtain⟨r',D,h2⟩:=h
 rw[e]at D;cases D;exact h2
def Qim : ∀(n:Nat) (v:L_ Int) (e:Ql),Zo v.length e->SizeOf.sizeOf e<=n->Qd (Yr n v e) λ_=>True
 | 0,_,e,_,h=>absurd e.pos (by omega)
 | n+1,v,e,he,h=>by
  cases he with
  | mk _ D h2 h3 h5 h6 hr=>
  unfold Yr IP
  have sub:∀(j:Nat) (hj:j<e.Kids.length),Qd (Yr n v (e.Kids[j])) λ_=>True:=λj hj=>
   Qim n v _ (hr _ (Yf hj)) (by have:=Qcc (Yf hj);omega)
  have kid:∀(j:Nat) (hj:j<e.Kids.length),idx e.Kids (j:Int)=some e.Kids[j]:=λj hj=>by rw[Xd,Qz hj]
  rcases D with D | D | D | D | D | D
  ·refine T0 (P:=λx=>x=.inl v) (by unfold Wr;rw[D];exact T2 rfl) λx hx=>?_
   subst hx
   exact T3
  ·refine T0 (P:=λx=>x=.inr (.inl v)) (by unfold Wr;rw[D];exact T2 rfl) λx hx=>?_
   subst hx
   show Qd (UZ e v) _
   unfold UZ Fg
   have:=h2 D
   exact T0 (T0 (T4 (by omega) (by omega)) λ_ _=>T3) λ_ _=>T3
  ·refine T0 (P:=λx=>x=.inr (.inr (.inl v))) (by unfold Wr KP;rw[D];exact T2 rfl) λx hx=>?_
   subst hx
   show Qd (WU (Yr n) e v) _
   unfold WU AQ
   have hl:=h3 (.inl D)
   refine T0 (P:=λ_=>True) ?_ λ_ _=>T3
   rw[show idx e.Kids 0=some (e.Kids[0]'(by omega))from kid 0 (by omega),Qf]
   refine T0 (sub 0 (by omega)) λx _=>?_
   refine T1 (λ_=>T3) λ_=>T1 (λ_=>T0 (Qcp _) λ_ _=>T3) λ_=>T0 (Lw _ _ _) λ_ _=>T3
  ·refine T0 (P:=λx=>x=.inr (.inr (.inl v))) (by unfold Wr KP;rw[D];exact T2 rfl) λx hx=>?_
   subst hx
   show Qd (WU (Yr n) e v) _
   unfold WU AQ
   have hl:=h3 (.inr D)
   refine T0 (P:=λ_=>True) ?_ λ_ _=>T3
   rw[show idx e.Kids 0=some (e.Kids[0]'(by omega))from kid 0 (by omega),Qf]
   refine T0 (sub 0 (by omega)) λx _=>?_
   refine T1 (λ_=>T3) λ_=>T1 (λ_=>T0 (Qcp _) λ_ _=>T3) λ_=>T0 (Lw _ _ _) λ_ _=>T3
  ·refine T0 (P:=λx=>x=.inr (.inr (.inr (.inl v)))) (by unfold Wr KP;rw[D];exact T2 rfl) λx hx=>?_
   subst hx
   show Qd (Aa (Yr n) e v) _
   unfold Aa Oo
   have hl:=h5 D
   refine T0 (P:=λ_=>True) ?_ λ_ _=>T3
   rw[show idx e.Kids 0=some (e.Kids[0]'(by omega))from kid 0 (by omega),Qf]
   refine T0 (sub 0 (by omega)) λx _=>?_
   have k1:∀b,Qd (DB x e (Yr n) v b) λ_=>True:=λb=>by
    unfold DB
    refine T1 (λ_=>T0 (Lw _ _ _) λ_ _=>T3) λ_=>?_
    rw[show idx e.Kids 1=some (e.Kids[1]'(by omega))from kid 1 (by omega),Qf]
    refine T0 (sub 1 (by omega)) λy _=>?_
    exact T1 (λ_=>T3) λ_=>T0 (Lw _ _ _) λ_ _=>T3
   exact T1 (λ_=>T3) λ_=>T1 (λ_=>k1 _) λ_=>T1 (λ_=>k1 _) λ_=>k1 _
  refine T0 (P:=λx=>x=.inr (.inr (.inr (.inr v)))) (by unfold Wr KP;rw[D];exact T2 rfl) λx hx=>?_
  subst hx
  show Qd (Ab (Yr n) e v) _
  unfold Ab IN
  have hl:=h6 D
  refine T0 (P:=λ_=>True) ?_ λ_ _=>T3
  rw[show idx e.Kids 0=some (e.Kids[0]'(by omega))from kid 0 (by omega),Qf]
  refine T0 (sub 0 (by omega)) λx _=>?_
  refine T1 (λ_=>T3) λ_=>T1 (λ_=>?_) λ_=>?_
  ·rw[show idx e.Kids 1=some (e.Kids[1]'(by omega))from kid 1 (by omega),Qf]
   exact T0 (sub 1 (by omega)) λy _=>T3
  rw[show idx e.Kids 2=some (e.Kids[2]'(by omega))from kid 2 (by omega),Qf]
  exact T0 (sub 2 (by omega)) λy _=>T3
def Qlb (e:Ql)(v:L_ Int)(h:WZ e):Qd (Li e v) λ_=>True:=by
 unfold Li
 refine T0 (OD e v.length h) λx hx=>?_
 refine T1 (λ_=>T3) λD=>?_
 unfold Nb
 exact T0 (Qim _ v e (hx (by simpa using D)) (Jn _)) λ_ _=>T3
def QjT (n:Qe)(D:Int)(vars:L_ Int)(h:Xn n):Qd (Ex n D vars) λr=>r.2=0->0<=D/\D<n.Tasks.length:=by
 unfold Ex
 refine T1 (λ_=>T2 λh=>by cases h) λhc=>?_
 simp only[KZ,Xj]at hc
 refine T0 (T4 (by omega) (by omega)) λe he=>?_
 have hv:=(h.tk e he).1
 have ke:=h.k.2.2.1.2 e he
 refine T1 (λ_=>T2 λh=>by cases h) λhl=>?_
 simp only[Ww]at hl
 refine T0 (T5 (by simp only[QH,QK];omega)) λ_ _=>?_
 refine T6 (P:=λ_=>True) ?_ λ_ _ _=>by omega
 refine T0 (Qd.up e.Vars.length (λst=>st.1) (λst=>st.2.length=e.Vars.length) (Q:=λ_=>True) rfl (by simp) (λi st hi hn hJ=>?_)) (λq _=>?_)
 ·obtain⟨x,l⟩:=st
  replace hi:x=(i:Int):=hi
  replace hJ:l.length=e.Vars.length:=hJ
  show Qd (CE e vars n x l) _
  unfold CE
  refine T1 (λhc=>?_) (λ_=>T2 (Qn trivial))
  simp only[QK]at hc
  refine T0 (T4 (by omega) (by omega)) λa _=>?_
  refine T0 (T4 (by omega) (by omega)) λb _=>?_
  refine T0 (Qmo _ _ _ h.k.1) λc _=>?_
  refine T1 (λ_=>T2 (Qn trivial)) λ_=>?_
  refine T0 (T4 (by omega) (by omega)) λd _=>?_
  exact T2 (QO ⟨by omega,by subst hi;exact Qy (by omega) (by unfold maxLen;omega:e.Vars.length<=maxLen),by simpa using hJ⟩)
 rcases q with q | q
 ·exact T3
 exact T3
def Zw {α:Type}{l:L_ α}{i:Nat}{x y:α}(h:y∈l.set i x):y=x\/y∈l:=by
 rcases List.mem_or_eq_of_mem_set h with h | h
 ·exact .inr h
 exact .inl h
def SV (n:Qe)(l:L_ Xo)(D env:L_ Int)(h:Xn n)(hl:Xa HB l)(hw:D.length<=1000):Qd (DI n l D env) λr=>r.2=0->Kh n D.length r.1/\FW n r.1:=by
 unfold DI
 have hpl:=h.pl
 refine T0 (T5 (by simp only[QH,QK];omega)) λ_ _=>?_
 refine T0 (Qd.up D.length (λst=>st.1) (λst=>(st.2.length=n.Places.length/\∀b∈st.2,Rt b/\(b.length:Int)<=st.1)/\FW n st.2) (Q:=λq=>(∀x,q=.inl x->x≠0)/\∀m,q=.inr m->Kh n D.length m/\FW n m) rfl ⟨⟨by simp,λb hb=>?_⟩,λj b p hb hp k hk=>?_⟩ (λi st hi hn hJ=>?_)) (λq hq=>?_)
 ·have:=ZD hb
  subst this
  exact⟨Rt.nil,by simp⟩
 ·have:=ZD (XG hb)
  subst this
  simp[QY,Qq]at hk
 ·obtain⟨x,m⟩:=st
  replace hi:x=(i:Int):=hi
  obtain⟨⟨hJ1,hJ2⟩,hJ3⟩:(m.length=n.Places.length/\∀b∈m,Rt b/\(b.length:Int)<=x)/\FW n m:=hJ
  have err:∀y:Int,y≠0->(∀s',(Sum.inr (Sum.inl y):(Int×L_ QBg)⊕(Int⊕L_ QBg))=.inl s'->i<D.length/\s'.1=((i+1:Nat):Int)/\(s'.2.length=n.Places.length/\∀b∈s'.2,Rt b/\(b.length:Int)<=s'.1)/\FW n s'.2)/\∀r,(Sum.inr (Sum.inl y):(Int×L_ QBg)⊕(Int⊕L_ QBg))=.inr r->(∀x,r=.inl x->x≠0)/\∀m,r=.inr m->Kh n D.length m/\FW n m:=
   λy hy=>⟨λs' e=>(by cases e),λr e=>(by cases e;exact⟨λx e=>(by cases e;exact hy),λm e=>(by cases e)⟩)⟩
  show Qd (Me D l env n x m) _
  unfold Me
  refine T1 (λhc=>?_) (λhc=>T2 (Qn ⟨λx e=>(by cases e),λm' e=>?_⟩))
  ·simp only[QK]at hc
   refine T0 (T4 (by omega) (by omega)) λe18 _=>?_
   refine T1 (λ_=>T2 (err _ (by decide))) λhc1=>?_
   simp only[KZ,Xj]at hc1
   refine T0 (T4 (by omega) (by omega)) λe22 h22=>?_
   refine T0 (Qlb e22.Expr env (hl.2 e22 h22).2) λx23 _=>?_
   refine T1 (λhc2=>T2 (err _ (by simpa using hc2))) λ_=>?_
   refine T0 (T4 (by omega) (by omega)) λe25 _=>?_
   refine T1 (λ_=>T2 (err _ (by decide))) λhc3=>?_
   simp only[KZ,Xj]at hc3
   refine T0 (T4 (by omega) (by omega)).self λe29 h29=>?_
   refine T0 (Qmp _ _ _ h.k.1).self λx30 h30=>?_
   refine T1 (λ_=>T2 (err _ (by decide))) λhc4=>?_
   have hz:=BK (Qla _ _ _ h.k.1) h30.1 (by simpa using hc4)
   have h30:=h30.2 (by simpa using hc4)
   refine T0 (T4 (by omega) (by omega)).self λe32 h32e=>?_
   have h32:=h32e.2
   have h32e:=h32e.1
   have h29:=h29.1
   rw[QfR,Yw h30]
   simp only[Xq,Qf]
   have hb:=hJ2 e32 h32
   have key:∃s,Ju e32 [(x30.1,1)]=some s/\(s.2=0->(Rt s.1/\s.1.length<=e32.length+1)/\∀k,QY s.1 k=QY e32 k+QY [(x30.1,1)] k):=by
    rcases HE e32 [(x30.1,1)] (by simp;omega)with⟨_,e⟩|⟨_,_,_,e⟩|⟨_,_,r,e,h1,hcn,h2⟩
    ·exact⟨_,e,λh=>by cases h⟩
    ·exact⟨_,e,λh=>by cases h⟩
    exact⟨_,e,λ_=>⟨⟨h1,by simpa using h2⟩,hcn⟩⟩
   obtain⟨s,es,hs⟩:=key
   rw[es,Qf]
   refine T0 (T4 (by omega) (by omega)) λ_ _=>?_
   refine T1 (λhc5=>T2 (err _ (by simpa using hc5))) λhc5=>?_
   obtain⟨hs,hcn⟩:=hs (by simpa using hc5)
   refine T2 (QO ⟨by omega,by subst hi;exact Qy (by omega) (by unfold maxLen;omega:D.length<=maxLen),⟨by simpa using hJ1,λb hb'=>?_⟩,λj b p hb' hp k hk=>?_⟩)
   ·subst hi
    show Rt b/\(b.length:Int)<=Qi ((i:Int)+1)
    rw[Qy (by omega) (by unfold maxLen;omega:D.length<=maxLen)]
    rcases Zw hb' with rfl | hb'
    ·exact⟨hs.1,by omega⟩
    have:=hJ2 b hb'
    exact⟨this.1,by omega⟩
   have hb':(m.set e25.Place.toNat s.1)[j]? = some b:=hb'
   by_cases cj:e25.Place.toNat=j
   ·subst cj
    rw[OI (by omega)]at hb'
    cases hb'
    rw[BG (by omega)]at h29 h32e
    rw[h29]at hp
    cases hp
    rw[hcn]at hk
    by_cases c0:0<QY e32 k
    ·exact hJ3 _ e32 e29 h32e h29 k c0
    have h9:0<QY [(x30.1,1)] k:=by omega
    have h8:x30.1=k:=by
     apply Decidable.byContradiction
     intro hne
     simp[QY,Qq,hne]at h9
    obtain⟨z,hz1,hz2⟩:=hz
    exact⟨z,hz1,by omega⟩
   rw[HI cj]at hb'
   exact hJ3 j b p hb' hp k hk
  cases e
  exact⟨⟨hJ1,λb hb=>⟨(hJ2 b hb).1,by have:=(hJ2 b hb).2;omega⟩⟩,hJ3⟩
 rcases q with q | q
 ·exact T2 λh=>absurd h (hq.1 q rfl)
 exact T2 λ_=>hq.2 q rfl
def Qin (a m:L_ QBg)(D:Xa (Xa λ_=>True) a)(hm:Xa (Xa λ_=>True) m):Qd (CI a m) λ_=>True:=by
 unfold CI Yd
 refine T0 (P:=λ_=>True) ?_ λ_ _=>T3
 refine T1 (λ_=>T3) λh=>?_
 simp only[Ww]at h
 refine T0 (Qd.up a.length (λst=>st) (λ_=>True) (Q:=λ_=>True) rfl trivial (λi st hi hn hJ=>?_)) (λq _=>?_)
 ·show Qd (XS a m st) _
  unfold XS
  refine T1 (λh=>?_) (λ_=>T2 (Qn trivial))
  simp only[QK]at h
  refine T0 (T4 (by omega) (by omega)) λx hx=>?_
  refine T0 (T4 (by omega) (by omega)) λy hy=>?_
  refine T0 (P:=λ_=>True) (by obtain⟨r,hr,_⟩:=QfQ x y (D.2 x hx).1 (hm.2 y hy).1;exact⟨r,hr,trivial⟩) λ_ _=>?_
  exact T1 (λ_=>T2 (Qn trivial)) λ_=>T2 (QO ⟨by omega,by rw[hi];exact Qy (by omega) D.1,trivial⟩)
 rcases q with q | q
 ·exact T3
 exact T3
def Kh.len {n:Qe}{c:Nat}{m:L_ QBg}(h:Kh n c m)(hn:Xn n)(hc:c<=1000000):Xa (Xa λ_=>True) m:=
 ⟨by have:=h.1;have:=hn.pl;unfold maxLen;omega,λb D=>⟨by have:=(h.2 b D).2;unfold maxLen;omega,λ_ _=>trivial⟩⟩
structure BOk (n:Qe) (m:List QBg) (b:Xk):Prop where
 net:b.net=n
 mm:b.m=m
 task:b.task∈n.Tasks
def Qi9 (n:Qe)(m:L_ QBg)(D:Int)(vars:L_ Int)(h:Xn n):Qd (JB n m D vars) λr=>r.1=0->BOk n m r.2:=by
 unfold JB
 refine T0 (QjT n D vars h) λx hx=>?_
 refine T1 (λhc=>T2 λh=>absurd h (by simpa using hc)) λhc=>?_
 have:=hx (by simpa using hc)
 exact T0 (T4 this.1 this.2) λe he=>T2 λ_=>⟨rfl,rfl,he⟩
def Qg7 (n:Qe)(m:L_ QBg)(b:Xk)(h:Xn n)(D:BOk n m b):Qd (XL b) λ_=>True:=by
 unfold XL
 refine T0 (Qlb _ _ (h.k.2.2.1.2 _ D.task).2.2.1) λx _=>?_
 exact T1 (λ_=>T3) λ_=>T1 (λ_=>T3) λ_=>T3
def QgJ (n:Qe)(m:L_ QBg)(b:Xk)(outs:L_ Int)(h:Xn n)(D:BOk n m b)(ho:outs.length<=1000):Qd (Yk b outs) λ_=>True:=by
 unfold Yk
 rw[D.net]
 exact T0 (SV n _ outs _ h (h.k.2.2.1.2 _ D.task).2.2.2.2.2.2.1 ho) λx _=>T3
def QjU (l:L_ Int)(x:Int)(h:l.length<=maxLen):Qd (XO l x) λ_=>True:=BT l x ⟨h,λ_ _=>trivial⟩
def Pq (l:L_ Int)(h:l.length<=4294967296):Yu l=some l:=by
 unfold Yu
 rw[Gr (by simp;omega)];rfl
def Qio (l:L_ Int)(h:l.length<=4294967296):YA l=some (KC l):=by
 unfold YA
 rw[Gr (by omega)];rfl
def Qja (n:Qe)(m:L_ QBg)(b:Xk)(D:L_ Int)(h:Xn n)(hb:BOk n m b)(hm:Xa (Xa λ_=>True) m)(hi:D.length<=100):Qd (XJ b D) λ_=>True:=by
 have ki:=(h.k.2.2.1.2 _ hb.task).2.2.2.2.2.1
 have kl:=(h.tk _ hb.task).2.1
 unfold XJ
 rw[hb.net,hb.mm]
 refine T0 (SV n _ D _ h ki (by omega)) λx hx=>?_
 refine T1 (λ_=>T3) λhc=>?_
 have hx:=hx (by simpa using hc)
 refine T0 (Qin _ _ (hx.1.len h (by omega)) hm) λy _=>?_
 refine T1 (λ_=>T3) λ_=>T1 (λ_=>T3) λ_=>?_
 refine T0 (Qd.up b.task.Ins.length (λst=>st) (λ_=>True) (Q:=λ_=>True) rfl trivial (λi st hi hn _=>?_)) (λq _=>?_)
 ·show Qd (AA b D st) _
  unfold AA
  refine T1 (λhc=>?_) (λ_=>T2 (Qn trivial))
  simp only[QK]at hc
  have step:Qd (Gl st) λo=>(∀s',o=.inl s'->i<b.task.Ins.length/\s'=((i+1:Nat):Int)/\True)/\∀r:Unit⊕Unit,o=.inr r->True:=
   T2 (QO (ix:=λst=>st) (J:=λ_=>True) (Q:=λ_=>True) ⟨by omega,by rw[hi];exact Qy (by omega) ki.1,trivial⟩)
  refine T0 (QjU D st (by unfold maxLen;omega)) λz _=>?_
  refine T1 (λ_=>step) λ_=>?_
  rw[Pq D (by omega),Qf]
  refine T0 (T5 (by simp;omega)) λ_ _=>?_
  rw[Qio _ (by simp;omega),Qf]
  refine T0 (T5 (by simp[BP])) λ_ _=>?_
  rw[hb.net]
  refine T0 (SV n _ _ _ h ki (by rw[BP];simp;omega)) λu hu=>?_
  refine T0 (P:=λ_=>True) ?_ λv _=>?_
  ·unfold Lm
   rw[hb.mm]
   refine T1 (λhc2=>?_) λ_=>T3
   have hu:=hu (by simpa using hc2)
   refine T0 (Qin _ _ (hu.1.len h (by rw[BP];simp;omega)) hm) λ_ _=>T3
  unfold Ln
  exact T1 (λ_=>T2 (Qn trivial)) λ_=>step
 rcases q with q | q
 ·exact T3
 exact T3
def NN (r:L_ (L_ Int)):Prop:=r.length<=16/\∀row∈r,row.length<=16
def chB (o:O_ QLL):Bool:=match o with
 | some r=>decide (r.length<=16)&&r.all λrow=>decide (row.length<=16)
 | none=>false
def Qip {o:O_ QLL}(h:chB o=true):Qd o NN:=by
 cases o with
 | none=>cases h
 | some r=>
  simp only[chB,QH,QK,Xz]at h
  exact T2 h
def near {h:Int}(D:¬h<0)(h1:¬16<h):h=0\/h=1\/h=2\/h=3\/h=4\/h=5\/h=6\/h=7\/h=8\/h=9\/h=10\/h=11\/h=12\/h=13\/h=14\/h=15\/h=16:=by omega
set_option maxRecDepth 100000 in
def Vd (kind D:Int):Qd (We kind D) NN:=by
 by_cases hg:((decide (D<0))||((decide (16<D))||((kind==3)&&(decide (4<D)))))=true
 ·unfold We
  rw[hg]
  exact T2 ⟨by simp,λr h=>by cases h⟩
 simp only[Wa,QH,QK,beq_iff_eq,not_or,not_and]at hg
 obtain⟨h0,h1,h2⟩:=hg
 by_cases e1:kind=1
 ·subst e1
  rcases near h0 h1 with rfl | rfl | rfl | rfl | rfl | rfl | rfl | rfl | rfl | rfl | rfl | rfl | rfl | rfl | rfl | rfl | rfl<;>exact Qip (by kernel_rfl)
 by_cases e2:kind=2
 ·subst e2
  rcases near h0 h1 with rfl | rfl | rfl | rfl | rfl | rfl | rfl | rfl | rfl | rfl | rfl | rfl | rfl | rfl | rfl | rfl | rfl<;>exact Qip (by kernel_rfl)
 by_cases e3:kind=3
 ·subst e3
  have h3:=h2 rfl
  have:D=0\/D=1\/D=2\/D=3\/D=4:=by omega
  rcases this with rfl | rfl | rfl | rfl | rfl<;>exact Qip (by kernel_rfl)
 have f1:(kind==1)=false:=by simpa using e1
 have f2:(kind==2)=false:=by simpa using e2
 have f3:(kind==3)=false:=by simpa using e3
 unfold We Ei
 rw[f1,f2,f3]
 exact T1 (λ_=>T2 ⟨by simp,λr h=>by cases h⟩) λ_=>T2 ⟨by simp,λr h=>by cases h⟩
def Qnn (a b:L_ Int)(D:a.length<=maxLen):Qd (Jl a b) λ_=>True:=by
 unfold Jl
 refine T1 (λ_=>T3) λh=>?_
 simp only[Ww]at h
 refine T0 (Qd.up a.length (λst=>st) (λ_=>True) (Q:=λ_=>True) rfl trivial (λi st hi hn hJ=>?_)) (λq _=>?_)
 ·show Qd (Kq a b st) _
  unfold Kq
  refine T1 (λh=>?_) (λ_=>T2 (Qn trivial))
  simp only[QK]at h
  refine T0 (T4 (by omega) (by omega)) λx hx=>?_
  refine T0 (T4 (by omega) (by omega)) λy hy=>?_
  exact T1 (λ_=>T2 (Qn trivial)) λ_=>T2 (QO ⟨by omega,by rw[hi];exact Qy (by omega) D,trivial⟩)
 rcases q with q | q
 ·exact T3
 exact T3
def Qiq (D h:Int)(row:L_ Int):Qd (DJ D h row) λ_=>True:=by
 unfold DJ KF KE
 refine T0 (Vd D h) λx hx=>?_
 refine T0 (P:=λ_=>True) ?_ λ_ _=>T3
 refine T0 (P:=λ_=>True) ?_ λ_ _=>T3
 have hl:=hx.1
 refine T0 (Qd.up x.length (λst=>st) (λ_=>True) (Q:=λ_=>True) rfl trivial (λi st hi hn hJ=>?_)) (λq _=>?_)
 ·show Qd (Yo x row st) _
  unfold Yo Fz
  refine T1 (λhc=>?_) (λ_=>T2 (Qn trivial))
  simp only[QK]at hc
  refine T0 (T4 (by omega) (by omega)) λe he=>?_
  have:=hx.2 e he
  refine T0 (T0 (Qnn e row (by unfold maxLen;omega)) λ_ _=>T3) λ_ _=>?_
  exact T1 (λ_=>T2 (Qn trivial)) λ_=>T2 (QO ⟨by omega,by rw[hi];exact Qy (by omega) (by unfold maxLen;omega:x.length<=maxLen),trivial⟩)
 rcases q with q | q
 ·exact T3
 exact T3
def Kv (n:Qe)(o:Qj):Prop:=o.Vars.length<=20/\o.Ins.length<=20/\o.Outs.length<=20
def Qjb (n:Qe)(m:L_ QBg)(o:Qj)(h:Xn n)(hm:Xa (Xa λ_=>True) m)(ho:Kv n o):Qd (JC n m o) λ_=>True:=by
 unfold JC
 refine T0 (Qi9 n m o.Task o.Vars h) λx hx=>?_
 have k3:∀e,(e=0->x.1=0)->Qd (Ws x o e) λ_=>True:=λe he=>by
  unfold Ws
  refine T1 (λ_=>T3) λD=>?_
  have hb:=hx (he (by simpa using D))
  refine T0 (P:=λ_=>True) ?_ λy _=>?_
  ·unfold FA
   refine T0 (Qiq _ _ _) λz _=>?_
   exact T1 (λ_=>T3) λ_=>T0 (Qiq _ _ _) λ_ _=>T3
  unfold FB
  refine T1 (λ_=>T3) λ_=>?_
  refine T0 (Qja n m x.2 o.Ins h hb hm (by have:=ho.2.1;omega)) λz _=>?_
  refine T1 (λ_=>T3) λ_=>?_
  exact T0 (QgJ n m x.2 o.Outs h hb (by have:=ho.2.2;omega)) λ_ _=>T3
 refine T1 (λD=>?_) λD=>k3 _ λh=>h
 have D:x.1=0:=by simpa using D
 exact T0 (Qg7 n m x.2 h (hx D)) λe _=>k3 e λ_=>D
def Qjc (n:Qe)(o:Qj)(h:Xn n)(ho:Kv n o):Qd (Hu n o) λr=>r.2=0->Kh n 20 r.1/\FW n r.1:=by
 unfold Hu
 refine T0 (QjT n o.Task o.Vars h) λx hx=>?_
 refine T1 (λD=>T2 λh=>absurd h (by simpa using D)) λD=>?_
 have:=hx (by simpa using D)
 refine T0 (T4 this.1 this.2) λe he=>?_
 have hl:=ho.2.1
 exact T0 (SV n _ _ _ h (h.k.2.2.1.2 _ he).2.2.2.2.2.1 (by omega)) λy hy=>T2 λh0=>⟨(hy h0).1.mono hl,(hy h0).2⟩
def Qjd (n:Qe)(o:Qj)(h:Xn n)(ho:Kv n o):Qd (Nm n o) λr=>r.2=0->(Kh n 20 r.1/\FW n r.1)/\0<=o.Task/\o.Task<n.Tasks.length:=by
 unfold Nm
 refine T0 (QjT n o.Task o.Vars h) λx hx=>?_
 refine T1 (λD=>T2 λh=>absurd h (by simpa using D)) λD=>?_
 have:=hx (by simpa using D)
 refine T0 (T4 this.1 this.2) λe he=>?_
 have hl:=ho.2.2
 exact T0 (SV n _ _ _ h (h.k.2.2.1.2 _ he).2.2.2.2.2.2.1 (by omega)) λy hy=>T2 λh0=>⟨⟨(hy h0).1.mono hl,(hy h0).2⟩,this⟩
def Qlc {σ ρ:Type}{body:σ->O_ (σ⊕ρ)}(mu:σ->Nat)(J:σ->Prop){Q:ρ->Prop}{s0:σ}(hJ:J s0)
  (D:∀s,J s->Qd (body s) λo=>(∀h,o=.inl h->mu h<mu s/\J h)/\∀r,o=.inr r->Q r):Qd (QD body s0) Q:=by
 have key:∀k s,mu s<=k->J s->Qd (QD body s) Q:=by
  intro k
  induction k with
  | zero=>
   intro s hk hj
   obtain⟨o,ho,h1,h2⟩:=D s hj
   cases o with
   | inl h=>have:=(h1 h rfl).1;omega
   | inr r=>exact⟨r,by rw[WL,ho];rfl,h2 r rfl⟩
  | succ k ih=>
   intro s hk hj
   obtain⟨o,ho,h1,h2⟩:=D s hj
   cases o with
   | inl h=>
    obtain⟨h3,h4⟩:=h1 h rfl
    obtain⟨r,h5,h6⟩:=ih h (by omega) h4
    exact⟨r,by rw[WL,ho];exact h5,h6⟩
   | inr r=>exact⟨r,by rw[WL,ho];rfl,h2 r rfl⟩
 exact key _ s0 (Jn _) hJ
def Qir {l:L_ Int}{k:Nat}(h:k<l.length)(Z:L_ Int)(x:Int):(l.take (k+1)++Z).set k x=l.take k++x::Z:=by
 have e:l.take (k+1)=l.take k++[l[k]]:=by rw[Un,Qz h];rfl
 rw[e,Wn,List.set_append,if_neg (by simp;omega)]
 have:k-(l.take k).length=0:=by simp;omega
 rw[this];rfl
end Go.Proofs
