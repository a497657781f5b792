/- A part of the proof. -/
import Derived.Test.YtholdcjomliiiaaGreatDoorW2P4
import Derived.Test.YtholdcjomliiiaaGreatDoorW2P4
import Derived.Test.YtholdcjomliiiaaGreatDoorW2P4
import Derived.Test.YtholdcjomliiiaaGreatDoorW2P4
import Derived.Test.YtholdcjomliiiaaGreatDoorW2P4
import Derived.Test.YtholdcjomliiiaaGreatDoorW2P4
set_option linter.all false
noncomputable section
namespace Go.Proofs
open Go Go.RowKit Go.Vm
open Option renaming some→C
open Bool renaming true→t_,false→f_
variable {l L:L_ (L_ Bag)}{k a:Int}{p:Int×Int}{n:Qc}{m y x:L_ Bag}{o:Qd}{mm:L_ (ByteArray×Int)}{most:Nat}
def QcY (p:Int×Int)(l:Bag)(k:Int):QJ (p::l) k=if p.1=k then p.2 else QJ l k:=by
 unfold QJ;rw[Xg];split<;>rfl
def QqO {l:Bag}(h:∀p∈l,p.1≠k):QJ l k=0:=by
 unfold QJ;rw[Rm.2 h];rfl
def Qus {l:Bag}(h:Rt (p::l)):Rt l:=⟨(GY.1 h.1).2,λq O=>h.2 q (Ys _ O)⟩
def Qxe {l:Bag}(h:Rt (p::l))(hk:k<p.1):QJ (p::l) k=0:=QqO λq O=>by
 rcases XP.1 O with rfl|O
 ·omega
 have:=(GY.1 h.1).1 q O;omega
def rt_ext : ∀{a b:Bag},Rt a->Rt b->(∀k,QJ a k=QJ b k)->a=b:=by
 intro a
 induction a with
 |nil=>
  intro b _ O e;cases b with
  |nil=>rfl|cons q s=>
   have:=e q.1;rw[QcY q s,if_pos rfl]at this;have h2:=(O.2 q Yc).2.1;have h3:QJ ([]:Bag) q.1=0:=rfl;omega
 |cons p r ih=>
  intro b ha O e;have hp:=(ha.2 p Yc).2.1;have ep:=e p.1;rw[QcY p r,if_pos rfl]at ep;cases b with
  |nil=>
   have h3:QJ ([]:Bag) p.1=0:=rfl;omega
  |cons q s=>
   have hq:=(O.2 q Yc).2.1;have eq:=e q.1;rw[QcY q s,if_pos rfl]at eq;have h1:p.1=q.1:=by
    rcases Int.lt_trichotomy p.1 q.1 with h|h|h
    ·rw[Qxe O h]at ep;omega
    ·exact h
    rw[Qxe ha h]at eq;omega
   rw[QcY q s,if_pos h1.symm]at ep;have h2:p=q:=Prod.ext h1 ep;subst h2;refine congrArg (p::·) (ih (Qus ha) (Qus O) λk=>?_);have:=e k;rw[QcY,QcY]at this;by_cases hk:p.1=k
   ·subst hk;rw[QqO λx hx=>by have:=(GY.1 ha.1).1 x hx;omega,QqO λx hx=>by have:=(GY.1 O.1).1 x hx;omega]
   rwa[if_neg hk,if_neg hk]at this
def Qyt {a b:Bag}(h:Rt a)(hb:Rt b)(O:a.length<=maxLen)(lb:b.length<=maxLen):Zs a b=C (decide (a=b)):=by
 obtain⟨r1,e1,h1⟩:=AU a b O lb;obtain⟨r2,e2,h2⟩:=AU b a lb O;unfold Zs Qfi Qfj;rw[Qbg O lb,Qbg lb O,e1,e2];cases r1 with
 |false=>
  have:a≠b:=λe=>by
   subst e;have:=h1.2 ⟨h,h,λ_=>Int.le_refl _⟩;cases this
  rw[Qn this];rfl
 |true=>cases r2 with
  |false=>
   have:a≠b:=λe=>by
    subst e;have:=h2.2 ⟨h,h,λ_=>Int.le_refl _⟩;cases this
   rw[Qn this];rfl
  |true=>
   have:a=b:=rt_ext h hb λk=>Int.le_antisymm ((h1.1 rfl).2.2 k) ((h2.1 rfl).2.2 k);rw[Ql this];rfl
def Qrw {a b:L_ Bag}(hl:a.length=b.length)(la:a.length<=maxLen)(ha:∀x∈a,Rt x/\x.length<=maxLen)(hb:∀x∈b,Rt x/\x.length<=maxLen):Ao a b=C (decide (a=b)):=by
 unfold Ao;rw[show((a.length:Int) != (b.length:Int))=f_ by rw[hl];simp,Qe];have O:Qg (Qq (λst=>Ou a b st) 0) λq=>(q=.inl ()->a≠b)/\(q=.inr ()->a=b):=by
  refine Qg.up a.length (λst=>st) (λst=>∀(j:Nat),(j:Int)<st->a[j]? = b[j]?) rfl (λj hj=>by omega) (λi st hi hn hJ=>?_);replace hi:st=(i:Int):=hi;subst hi;show Qg (Ou a b i) _;unfold Ou;refine T1 (λhc=>?_) (λhc=>T2 (Qp ⟨λe=>(by cases e),λ_=>?_⟩))
  ·simp only[Qw]at hc;have h:i<a.length:=by omega
   have i2:i<b.length:=by omega
   rw[QG,QG,Qv h,Qv i2,Qa,Qa];have hx:=ha _ (Xc h);have hy:=hb _ (Xc i2);rw[Qyt hx.1 hy.1 hx.2 hy.2,Qa];by_cases c:a[i]=b[i]
   ·rw[Ql c];refine T2 (QH ⟨h,Qo h la,λj hj=>?_⟩);rw[Qo h la]at hj;by_cases cj:j=i
    ·subst cj;rw[Qv h,Qv i2,c]
    exact hJ j (by omega)
   rw[Qn c];refine T2 (Qp ⟨λ_ e=>c ?_,λe=>by cases e⟩);subst e;rfl
  simp only[QU]at hc;refine List.ext_getElem? λj=>?_;by_cases cj:j<i
  ·exact hJ j (by omega)
  rw[SA (by omega),SA (by omega)]
 obtain⟨q,q1,q2,q3⟩:=O;rw[q1,Qa];rcases q with q|q
 ·rw[Qn (q2 rfl)];rfl
 rw[Ql (q3 rfl)];rfl
def XL.rt (O:XL n m):∀x∈m,Rt x/\x.length<=maxLen:=λx hx=>by
 have mx:(1024:Nat)<=maxLen:=by decide
 obtain⟨h,h2⟩:=O.1.2 x hx;exact⟨h,by omega⟩
def QvJ (h:QT n){a b:L_ Bag}(O:XL n a)(hb:XL n b):Ao a b=C (decide (a=b)):=by
 have hpl:=h.pl;have mx:(70:Nat)<=maxLen:=by decide
 exact Qrw (by rw[O.1.1,hb.1.1]) (by rw[O.1.1];omega) O.rt hb.rt
def Qrx (hl:l.length<=maxLen)(hS:∀y∈l,Ao y m=C (decide (y=m))):FK l m=C (l.any λy=>decide (y=m)):=by
 unfold FK;have main:Qg (Qq (λst=>Mn l m st) 0) λq=>(q=.inl ()->∃y∈l,y=m)/\(q=.inr ()->∀y∈l,y≠m):=by
  refine Qg.up l.length (λst=>st) (λst=>∀y∈l.take st.toNat,y≠m) rfl (λy h=>by cases h) (λi st hi hn hJ=>?_);replace hi:st=(i:Int):=hi;subst hi;rw[XM]at hJ;show Qg (Mn l m i) _;unfold Mn;refine T1 (λhc=>?_) (λhc=>T2 (Qp ⟨λe=>(by cases e),λ_=>?_⟩))
  ·simp only[Qw]at hc;have O:i<l.length:=by omega
   rw[QG,Qv O,Qa,hS _ (Xc O),Qa];by_cases c:l[i]=m
   ·rw[Ql c];exact T2 (Qp ⟨λ_=>⟨_,Xc O,c⟩,λe=>by cases e⟩)
   rw[Qn c];refine T2 (QH ⟨O,Qo O hl,λy h=>?_⟩);rw[Qo O hl,XM,Gi O]at h;rcases YT.1 h with h|h
   ·exact hJ y h
   simp at h;subst h;exact c
  simp only[QU]at hc;rw[YV (by omega)]at hJ;exact hJ
 obtain⟨q,q1,q2,q3⟩:=main;rw[q1,Qa];rcases q with q|q
 ·obtain⟨y,h,e⟩:=q2 rfl;rw[show(l.any λy=>decide (y=m))=t_ from Aw.2 ⟨y,h,Ql e⟩];rfl
 rw[show(l.any λy=>decide (y=m))=f_ from List.any_eq_false.2 λy h=>by simpa using q3 rfl y h];rfl
def Qxf (h:QT n)(hl:l.length<=maxLen)(O:∀x∈l,XL n x)(hm:XL n m):FK l m=C (l.any λy=>decide (y=m)):=Qrx hl λy hy=>QvJ h (O y hy) hm
def QAB {c:Int}(h:YP n m o=C (y,c))(hc:c≠0):y=[]:=by
 have bad:∀{a:Int} {v:L_ Bag},(a != 0)=f_->C (v,a)=C (y,c)->y=[]:=λh0 e=>by
  simp only[Option.some.injEq,Prod.mk.injEq]at e;obtain⟨_,rfl⟩:=e;exact absurd (by simpa using h0) hc
 have nil:∀{a:Int},C (([]:L_ Bag),a)=C (y,c)->y=[]:=λe=>by
  simp only[Option.some.injEq,Prod.mk.injEq]at e;exact e.1.symm
 unfold YP at h;obtain⟨x,_,h⟩:=QI h;rcases Xy h with⟨_,h⟩|⟨_,h⟩
 ·exact nil h
 obtain⟨z,O,h⟩:=QI h;simp only[Option.some.injEq,Prod.mk.injEq]at h;obtain⟨rfl,rfl⟩:=h;unfold WC at O;obtain⟨x8,_,O⟩:=QI O;rcases Xy O with⟨_,O⟩|⟨_,O⟩
 ·rw[<-Option.some.inj O]
 obtain⟨_,_,O⟩:=QI O;obtain⟨_,_,O⟩:=QI O;obtain⟨q,_,O⟩:=QI O;unfold Uz at O;obtain⟨w,hw,O⟩:=QI O;rw[<-Option.some.inj O]at hc ⊢;simp only at hc ⊢;unfold Ws at hw;obtain⟨_,_,hw⟩:=QI hw;obtain⟨u,_,hw⟩:=QI hw;rcases u with u|u
 ·replace hw:Nt u=C w:=hw;unfold Nt at hw;rw[<-Option.some.inj hw]
 replace hw:Nu u=C w:=hw;unfold Nu at hw;rw[<-Option.some.inj hw]at hc;exact absurd rfl hc
def Qxg (h:QT n){a:L_ Bag}(ha:XL n a):Ao a []=C (decide (a=[])):=by
 cases a with
 |nil=>exact Qrw rfl (Ii _) (λx O=>by cases O) λx O=>by cases O
 |cons x r=>
  unfold Ao;rw[show(((x::r).length:Int) != (([]:L_ Bag).length:Int))=t_ by simp;omega,Qn (by simp)];rfl
def QvK (h:QT n)(hl:l.length<=maxLen)(O:∀x∈l,XL n x):FK l []=C (l.any λy=>decide (y=[])):=Qrx hl λy hy=>Qxg h (O y hy)
def QyL (budget:Int):min2 (max2 budget 0) 4096=(Xi budget:Int):=by
 rw[(QgT budget).1];unfold max2 min2
 repeat' split
 all_goals omega
def QzA (h:QT n)(hp:n.Places.length<=64)(hg:∀x∈l,XL n x)(hy:XL n y):(l.any λz=>decide (z=y))=Qne XO l y:=by
 have e:Qne XO l y=l.any λz=>decide (XO z=XO y):=rfl;rw[e];refine HN.2 ?_;rw[Aw,Aw];constructor
 ·rintro ⟨z,O,e⟩;exact⟨z,O,Ql (congrArg XO (Xe e))⟩
 rintro ⟨z,O,e⟩;exact⟨z,O,Ql (Qzz h hp (hg z O) hy (Xe e))⟩
def Qt4 (w budget:Int)(h:QT n)(hr:RN n)(hb:Bd n)(hp:n.Places.length<=64)(hg:XL n m):SX n m w budget=C (Hu n w budget m):=by
 have hm:=QgT budget;have hpl:=h.pl;have mx:(4194304:Nat)<=maxLen:=by decide
 unfold SX Hu;rw[QyL];by_cases c0:Xi budget=0
 ·rw[if_pos c0,c0];rfl
 rw[if_neg c0,show((Xi budget:Int)==0)=f_ by simp;omega];simp only[Qe];generalize hR:Uq XO (Ht n w) (Xi budget) (Xi budget+1) [m] 0=R;have main:Qg (Qq (λst=>Mp n w budget st.1 st.2) ((0:Int),[m])) λq:L_ (L_ Bag)⊕L_ (L_ Bag)=>(∀l,q=.inl l->R=(l,f_))/\∀l,q=.inr l->R=(l,t_):=by
  refine Qg.up (Xi budget) (λst=>st.1) (λst=>(∀x∈st.2,XL n x)/\st.2.length<=Xi budget/\Uq XO (Ht n w) (Xi budget) (Xi budget+1-st.1.toNat) st.2 st.1.toNat=R) rfl ⟨?_,?_,hR⟩ (λi st hi hn hJ=>?_)
  ·intro x hx;simp at hx;subst hx;exact hg
  ·show 1<=_;omega
  obtain⟨a,l⟩:=st;replace hi:a=(i:Int):=hi;subst hi;obtain⟨j2,j3,j4⟩:(∀x∈l,XL n x)/\l.length<=Xi budget/\Uq XO (Ht n w) (Xi budget) (Xi budget+1-(i:Int).toNat) l (i:Int).toNat=R:=hJ;rw[XM,show Xi budget+1-i=(Xi budget-i)+1 by omega,Uq]at j4;show Qg (Mp n w budget i l) _;unfold Mp;refine T1 (λhc=>?_) (λhc=>T2 (Qp ⟨λl' e=>(by cases e),λl' e=>?_⟩))
  ·simp only[Qw]at hc;have i1:i<l.length:=by omega
   have hx:=Qv i1;have hgx:=j2 _ (Xc i1);rw[QG,hx,Qa];rw[hx]at j4;simp only at j4;generalize l[i]=x at hx hgx j4 ⊢;have hal:=QqI x h hb;rw[Qyk h hr (hgx.len h) (by unfold XW;omega) (.inr λk=>by have:=Qq7 x (k:Int) h hb;omega),Qnu n x 9223372036854775807 h (hgx.len h) (by omega) (by omega) (.inr (by omega)),Qa];have hxl:=hgx.len h;have e0:(KB n x).take (9223372036854775807:Int).toNat=KB n x:=YV (by omega);rw[e0];have hok:=λo=>QgR (o:=o) h hxl;have inner:Qg (Qq (λst=>Mo (KB n x) w i n budget st.1 st.2) ((0:Int),l)) λq:L_ (L_ Bag)⊕L_ (L_ Bag)=>
     (∀o,q=.inl o->Jp XO (Xi budget) l (Ht n w x)=.inl o)/\∀o,q=.inr o->Jp XO (Xi budget) l (Ht n w x)=.inr o/\(∀x∈o,XL n x)/\o.length<=Xi budget:=by
    generalize hT:Jp XO (Xi budget) l (Ht n w x)=T;have hT:Jp XO (Xi budget) l ((KB n x).filterMap (WS n w x))=T:=hT;generalize KB n x=X at hT hal hok ⊢;refine Qg.up X.length (λst=>st.1) (λst=>(∀x∈st.2,XL n x)/\st.2.length<=Xi budget/\st.2[i]? = C x/\Jp XO (Xi budget) st.2 ((X.drop st.1.toNat).filterMap (WS n w x))=T) rfl ⟨j2,j3,hx,hT⟩ (λk st hk hn2 hK=>?_);obtain⟨a,l⟩:=st;replace hk:a=(k:Int):=hk;subst hk;obtain⟨k2,k3,k4,O⟩:(∀x∈l,XL n x)/\l.length<=Xi budget/\l[i]? = C x/\Jp XO (Xi budget) l ((X.drop (k:Int).toNat).filterMap (WS n w x))=T:=hK;rw[XM]at O;show Qg (Mo X w i n budget k l) _;unfold Mo;refine T1 (λhc2=>?_) (λhc2=>T2 (Qp ⟨λo e=>(by cases e),λo e=>?_⟩))
    ·simp only[Qw]at hc2;have i2:k<X.length:=by omega
     have hw:Qh ((k:Int)+1)=((k+1:Nat):Int):=Qo i2 (by unfold maxLen;omega:X.length<=maxLen);have next:∀l',(∀x∈l',XL n x)->l'.length<=Xi budget->l'[i]? = C x->Jp XO (Xi budget) l' ((X.drop (k+1)).filterMap (WS n w x))=T->
       Qg (UM k l') λo=>(∀s',o=.inl s'->k<X.length/\s'.1=((k+1:Nat):Int)/\(∀x∈s'.2,XL n x)/\s'.2.length<=Xi budget/\s'.2[i]? = C x/\Jp XO (Xi budget) s'.2 ((X.drop s'.1.toNat).filterMap (WS n w x))=T)/\
        ∀r:L_ (L_ Bag)⊕L_ (L_ Bag),o=.inr r->(∀o,r=.inl o->T=.inl o)/\∀o,r=.inr o->T=.inr o/\(∀x∈o,XL n x)/\o.length<=Xi budget:=λl' f2 f3 f4 f5=>by
      unfold UM;refine T2 (QH (ix:=λst:Int×L_ (L_ Bag)=>st.1) (J:=λst:Int×L_ (L_ Bag)=>(∀x∈st.2,XL n x)/\st.2.length<=Xi budget/\st.2[i]? = C x/\Jp XO (Xi budget) st.2 ((X.drop st.1.toNat).filterMap (WS n w x))=T) ⟨i2,hw,f2,f3,f4,?_⟩);show Jp XO (Xi budget) l' ((X.drop (Qh ((k:Int)+1)).toNat).filterMap (WS n w x))=T;rw[hw,XM];exact f5
     rw[QG,Qv i2,Qa];rw[NE i2,List.filterMap_cons]at O;have hox:=hok _ (Xc i2);generalize X[k]=o at O hox ⊢;refine T1 (λhc3=>?_) λhc3=>?_
     ·have:WS n w x o=none:=by unfold WS;rw[if_pos (by simpa using hc3)]
      rw[this]at O;exact next l k2 k3 k4 O
     simp only[beq_eq_false_iff_ne]at hc3;rw[QG,k4,Qa,Qa];obtain⟨⟨y,c⟩,hD,_⟩:=Qvd n x o 1024 h hgx.1 (by omega) hox;rw[Qzx h hr (by omega) hgx.1 hox,hD,Qa];by_cases cc:c=0
     ·subst cc;have hgy:=QgS h hgx hox hD;have:WS n w x o=C y:=by unfold WS;rw[if_neg hc3,hD];rfl
      rw[this]at O;simp only at O;rw[Jp]at O;simp only;rw[Qxf h (by omega) k2 hgy,Qa,QzA h hp k2 hgy,show((0:Int) != 0)=f_ from rfl,Qco];refine T1 (λhh=>?_) λhh=>?_
      ·rw[if_pos hh]at O;exact next l k2 k3 k4 O
      rw[if_neg (by rw[hh];decide)]at O;rw[QyL];refine T1 (λhf=>?_) λhf=>?_
      ·simp only[Qw]at hf;rw[if_pos (by omega)]at O;exact T2 (Qp ⟨λo e=>(by cases e;exact O.symm),λo e=>by cases e⟩)
      simp only[QU]at hf;rw[if_neg (by omega)]at O;refine T0 (T5 (by simp;omega)) λ_ _=>?_;refine next _ (λz hz=>?_) (by simp;omega) (by rw[Jh ((Xf.1 k4).1)];exact k4) O;rcases YT.1 hz with hz|hz
      ·exact k2 z hz
      simp at hz;subst hz;exact hgy
     have:WS n w x o=none:=by unfold WS;rw[if_neg hc3,hD];simp only;rw[if_neg cc]
     rw[this]at O;obtain rfl:=QAB hD cc;simp only;rw[QvK h (by omega) k2,Qa,show(c != 0)=t_ by simpa using cc,Bool.true_or,Qr];exact next l k2 k3 k4 O
    cases e;simp only[QU]at hc2;rw[Qj7 (by omega),List.filterMap_nil,Jp]at O;exact⟨O.symm,k2,k3⟩
   obtain⟨q,hq1,hq2,hq3⟩:=inner;rw[hq1,Qa];rcases q with q|o
   ·have:=hq2 q rfl;rw[this]at j4;show Qg (TM q) _;unfold TM;exact T2 (Qp ⟨λl' e=>(by cases e;exact j4.symm),λl' e=>by cases e⟩)
   obtain⟨f1,f3,f4⟩:=hq3 o rfl;rw[f1]at j4;simp only at j4;show Qg (TN i o) _;unfold TN;have hw:Qh ((i:Int)+1)=((i+1:Nat):Int):=Qo (by omega:i<Xi budget) (by unfold maxLen;omega);refine T2 (QH ⟨by omega,hw,f3,f4,?_⟩);show Uq XO (Ht n w) (Xi budget) (Xi budget+1-(Qh ((i:Int)+1)).toNat) o (Qh ((i:Int)+1)).toNat=R;rw[hw,XM,show Xi budget+1-(i+1)=Xi budget-i by omega];exact j4
  cases e;simp only[QU]at hc;rw[SA (by omega)]at j4;exact j4.symm
 obtain⟨q,hq1,hq2,hq3⟩:=main;rw[hq1,Qa];rcases q with q|q
 ·rw[hq2 q rfl];rfl
 rw[hq3 q rfl];rfl
def asc_ext : ∀{a b:LI_},a.Pairwise (·<·)->b.Pairwise (·<·)->(∀k,k∈a↔k∈b)->a=b:=by
 intro a
 induction a with
 |nil=>
  intro b _ _ e;cases b with|nil=>rfl|cons y s=>have:=(e y).2 Yc;cases this
 |cons x r ih=>
  intro b ha hb e;cases b with
  |nil=>have:=(e x).1 Yc;cases this
  |cons y s=>
   obtain⟨a1,a2⟩:=Bu.1 ha;obtain⟨b1,b2⟩:=Bu.1 hb;have h1:x=y:=by
    rcases XP.1 ((e x).1 Yc)with h|h
    ·exact h
    rcases XP.1 ((e y).2 Yc)with h'|h'
    ·exact h'.symm
    have:=b1 x h;have:=a1 y h';omega
   subst h1;refine congrArg (x::·) (ih a2 b2 λk=>?_);constructor
   ·intro O;rcases XP.1 ((e k).1 (Ys _ O))with h|h
    ·subst h;have:=a1 k O;omega
    exact h
   intro O;rcases XP.1 ((e k).2 (Ys _ O))with h|h
   ·subst h;have:=b1 k O;omega
   exact h
def QvL {l:LI_}:∀(j:Nat) (h:j<l.length),l[j]∈EE l:=by
 intro j
 induction j with
 |zero=>
  intro h;unfold EE Lib.compact Lib.compactUpTo;refine Yt.2 ⟨0,FP.2 ⟨CU.2 h,?_⟩,Rp h⟩;unfold Lib.keeps;simp
 |succ j ih=>
  intro h;have O:j<l.length:=by omega
  by_cases e:l[j+1]=l[j]
  ·rw[e];exact ih O
  unfold EE Lib.compact Lib.compactUpTo;refine Yt.2 ⟨j+1,FP.2 ⟨CU.2 h,?_⟩,Rp h⟩;unfold Lib.keeps;rw[show j+1-1=j from rfl,Rp h,Rp O];exact Ql (.inr e)
def Qr8 {l:LI_}{x:Int}:x∈EE l↔x∈l:=⟨Qrt,λh=>by
 obtain⟨j,O,rfl⟩:=Ej.1 h;exact QvL j O⟩
def EmP (n:Qc)(m:L_ Bag)(h:Int)(r:LI_):Prop:=∀k,k∈r↔Pq m k/\∃e,idx n.Tasks h=C e/\∃a∈e.Ins,a.Place=k
def Qt5 (n:Qc)(m:L_ Bag)(task:Int)(h:QT n):Qg (DD n m task) λr=>EmP n m task r/\r.Pairwise (·<·):=by
 unfold DD;refine T1 (λhc=>T2 ⟨λk=>⟨λh=>(by cases h),λ⟨_,e,he,_⟩=>?_⟩,List.Pairwise.nil⟩) λhc=>?_
 ·obtain⟨h0,O⟩:=Yz he;have:=(Xf.1 O).1;simp only[KG,Qw]at hc;omega
 simp only[Ku,QU]at hc;refine T0 (T4 (by omega) (by omega)).self λe he=>?_;have hil:=(h.tk e he.2).2.1;refine T0 (Qg.up e.Ins.length (λst=>st.1) (λst=>(st.2.length:Int)<=st.1/\∀k,k∈st.2↔Pq m k/\∃a∈e.Ins.take st.1.toNat,a.Place=k) (Q:=λq:LI_=>q.length<=16/\∀k,k∈q↔Pq m k/\∃a∈e.Ins,a.Place=k) rfl ⟨by simp,λk=>⟨λh=>(by cases h),λ⟨_,a,ha,_⟩=>(by cases ha)⟩⟩ (λi st hi hn hJ=>?_)) (λq hq=>?_)
 ·obtain⟨x,l⟩:=st;replace hi:x=(i:Int):=hi;subst hi;obtain⟨j1,j2⟩:(l.length:Int)<=(i:Int)/\∀k,k∈l↔Pq m k/\∃a∈e.Ins.take (i:Int).toNat,a.Place=k:=hJ;rw[XM]at j2;show Qg (Bp e m i l) _;unfold Bp;refine T1 (λhc2=>?_) (λhc2=>T2 (Qp ⟨by omega,?_⟩))
  rotate_left
  ·simp only[QU]at hc2;rw[YV (by omega)]at j2;exact j2
  simp only[Qw]at hc2;have i1:i<e.Ins.length:=by omega
  have hw:Qh ((i:Int)+1)=((i+1:Nat):Int):=Qo i1 (by unfold maxLen;omega:e.Ins.length<=maxLen);rw[QG,Qv i1,Qa];refine T0 (P:=λy=>y=t_↔Pq m (e.Ins[i]).Place) ?_ λy hy=>?_
  ·unfold RL;refine T1 (λc1=>?_) λc1=>T2 ⟨λh=>(by cases h),λh=>absurd h.1 (by simpa using c1)⟩;refine T1 (λc2=>?_) λc2=>T2 ⟨λh=>(by cases h),λh=>absurd h.2.1 (by simpa using c2)⟩;simp only[Qw]at c1 c2;have hk:(e.Ins[i]).Place.toNat<m.length:=by omega
   rw[DO c1,Qv hk,Qa];refine T2 ⟨λhz=>⟨c1,c2,?_⟩,λhz=>?_⟩
   ·simp only[beq_iff_eq]at hz;rw[Qv hk,HO.1 (show(m[(e.Ins[i]).Place.toNat]).length=0 by omega)]
   have:=hz.2.2;rw[Qv hk]at this;rw[Option.some.inj this];rfl
  unfold RM Bo;have put:∀k,(∃a∈e.Ins.take (i+1),a.Place=k)↔(∃a∈e.Ins.take i,a.Place=k)\/(e.Ins[i]).Place=k:=λk=>by
   rw[Gi i1];constructor
   ·rintro ⟨a,ha,rfl⟩;rcases YT.1 ha with ha|ha
    ·exact .inl ⟨a,ha,rfl⟩
    simp at ha;subst ha;exact .inr rfl
   rintro (⟨a,ha,rfl⟩|rfl)
   ·exact⟨a,SB _ ha,rfl⟩
   exact⟨_,Qg0 _ (by simp),rfl⟩
  refine T1 (λc1=>?_) λc1=>?_
  ·refine T0 (T5 (by simp;omega)) λ_ _=>?_;refine T2 (QH ⟨i1,hw,by show((l++[_]).length:Int)<=Qh _;rw[hw];simp;omega,λk=>?_⟩);show k∈l++[_]↔Pq m k/\∃a∈e.Ins.take (Qh ((i:Int)+1)).toNat,a.Place=k;rw[hw,XM,put k,YT,j2 k];constructor
   ·rintro (⟨O,h2⟩|hk)
    ·exact⟨O,.inl h2⟩
    simp at hk;subst hk;exact⟨hy.1 c1,.inr rfl⟩
   rintro ⟨O,h2|rfl⟩
   ·exact .inl ⟨O,h2⟩
   exact .inr (by simp)
  refine T2 (QH ⟨i1,hw,by show(l.length:Int)<=Qh _;rw[hw];omega,λk=>?_⟩);show k∈l↔Pq m k/\∃a∈e.Ins.take (Qh ((i:Int)+1)).toNat,a.Place=k;rw[hw,XM,put k,j2 k];constructor
  ·rintro ⟨O,h2⟩;exact⟨O,.inl h2⟩
  rintro ⟨O,h2|rfl⟩
  ·exact⟨O,h2⟩
  have:=hy.2 O;rw[c1]at this;cases this
 obtain⟨q1,q2⟩:=hq;show Qg (Bq q) _;unfold Bq;rw[QhP _ (by omega),Qa];refine T0 (T5 (by simp[EX])) λ_ _=>?_;unfold EH;rw[Yv (by rw[EX];omega),Qa,Qa];refine T2 ⟨λk=>?_,Qru (Qtv q)⟩;rw[Qr8,Qrv,q2 k];constructor
 ·rintro ⟨O,h2⟩;exact⟨O,e,he.1,h2⟩
 rintro ⟨O,e',he',h2⟩;rw[he.1]at he';cases he';exact⟨O,h2⟩
def QtB (n:Qc)(m:L_ Bag)(O:Int)(h:QT n)(hl:m.length<=70):Qg (MR n m O) λr=>EmP n m O r/\r.Pairwise (·<·):=by
 have mx:(70:Nat)<=maxLen:=by decide
 unfold MR;by_cases hc:0<=O/\O<n.Tasks.length
 ·obtain⟨e,he,hmem⟩:=T4 hc.1 hc.2;have hil:=(h.tk e hmem).2.1;refine T0 (Qg.up m.length (λst=>st.1) (λst=>((st.2.length:Int)<=st.1/\st.2.Pairwise (·<·))/\∀k,k∈st.2↔k<st.1/\Pq m k/\∃a∈e.Ins,a.Place=k) (Q:=λq:LI_=>(∀k,k∈q↔Pq m k/\∃a∈e.Ins,a.Place=k)/\q.Pairwise (·<·)) rfl ⟨⟨by simp,List.Pairwise.nil⟩,λk=>⟨λh=>(by cases h),λ⟨h1,h2,_⟩=>absurd h2.1 (by show ¬0<=k;have:k<(0:Int):=h1;omega)⟩⟩ (λi st hi hn hJ=>?_)) (λq hq=>?_)
  ·obtain⟨x,l⟩:=st;replace hi:x=(i:Int):=hi;subst hi;obtain⟨⟨j1,j3⟩,j2⟩:((l.length:Int)<=(i:Int)/\l.Pairwise (·<·))/\∀k,k∈l↔k<(i:Int)/\Pq m k/\∃a∈e.Ins,a.Place=k:=hJ;show Qg (CG m O n i l) _;unfold CG;rw[Ql hc.1,Ql hc.2,QaO,QaO];refine T1 (λhc2=>?_) (λhc2=>T2 (Qp ⟨λk=>?_,j3⟩))
   rotate_left
   ·simp only[QU]at hc2;rw[j2 k];exact⟨λh=>h.2,λh=>⟨by have:=h.1.2.1;omega,h⟩⟩
   simp only[Qw]at hc2;have i1:i<m.length:=by omega
   have hw:Qh ((i:Int)+1)=((i+1:Nat):Int):=Qo i1 (by omega:m.length<=maxLen);refine T0 (P:=λb=>b=t_↔∃a∈e.Ins,a.Place=(i:Int)) (Qg.up e.Ins.length (λst=>st.2) (λst=>st.1=t_↔∃a∈e.Ins.take st.2.toNat,a.Place=(i:Int)) rfl ⟨λh=>(by cases h),λ⟨a,ha,_⟩=>(by cases ha)⟩ (λj st hj hn2 hK=>?_)) λb hb=>?_
   ·obtain⟨b,x⟩:=st;replace hj:x=(j:Int):=hj;subst hj;replace hK:b=t_↔∃a∈e.Ins.take (j:Int).toNat,a.Place=(i:Int):=hK;rw[XM]at hK;show Qg (TO n O i b j) _;unfold TO;rw[he,Qa];refine T1 (λhc3=>?_) (λhc3=>T2 (Qp ?_))
    rotate_left
    ·simp only[QU]at hc3;rw[YV (by omega)]at hK;exact hK
    simp only[Qw]at hc3;have k1:j<e.Ins.length:=by omega
    have hw2:Qh ((j:Int)+1)=((j+1:Nat):Int):=Qo k1 (by unfold maxLen;omega:e.Ins.length<=maxLen);refine T0 (P:=λy=>y=t_↔(b=t_\/(e.Ins[j]).Place=(i:Int))) ?_ λy hy=>?_
    ·unfold Qd7;refine T1 (λc=>T2 ⟨λ_=>.inl c,λ_=>rfl⟩) λc=>?_;rw[he,Qa,QG,Qv k1,Qa];refine T2 ⟨λh=>.inr (by simpa using h),λh=>?_⟩;rcases h with h|h
     ·rw[c]at h;cases h
     simpa using h
    unfold Qd8;refine T2 (QH ⟨k1,hw2,?_⟩);show y=t_↔∃a∈e.Ins.take (Qh ((j:Int)+1)).toNat,a.Place=(i:Int);rw[hw2,XM,Gi k1,hy,hK];constructor
    ·rintro (⟨a,ha,e1⟩|e1)
     ·exact⟨a,SB _ ha,e1⟩
     exact⟨_,Qg0 _ (by simp),e1⟩
    rintro ⟨a,ha,e1⟩;rcases YT.1 ha with ha|ha
    ·exact .inl ⟨a,ha,e1⟩
    simp at ha;subst ha;exact .inr e1
   show Qg (TP m i l b) _;unfold TP;have hmi:=Qv i1;refine T0 (P:=λy=>y=t_↔Pq m i/\∃a∈e.Ins,a.Place=(i:Int)) ?_ λy hy=>?_
   ·unfold Qd9;refine T1 (λc=>?_) λc=>T2 ⟨λh=>(by cases h),λh=>by have:=hb.2 h.2;rw[c]at this;cases this⟩;rw[QG,hmi,Qa];refine T2 ⟨λhz=>⟨⟨by omega,by omega,?_⟩,hb.1 c⟩,λhz=>?_⟩
    ·simp only[beq_iff_eq]at hz;rw[XM,hmi,HO.1 (show(m[i]).length=0 by omega)]
    have:=hz.1.2.2;rw[XM,hmi]at this;rw[Option.some.inj this];rfl
   unfold Qea Mq;refine T1 (λc1=>?_) λc1=>?_
   ·refine T0 (T5 (by simp;omega)) λ_ _=>?_;refine T2 (QH ⟨i1,hw,⟨by show((l++[_]).length:Int)<=Qh _;rw[hw];simp;omega,?_⟩,λk=>?_⟩)
    ·refine Qg2.2 ⟨j3,by simp,λa ha c hc'=>?_⟩;simp at hc';subst hc';exact((j2 a).1 ha).1
    show k∈l++[(i:Int)]↔k<Qh ((i:Int)+1)/\_;rw[hw,YT,j2 k];constructor
    ·rintro (h1|hk)
     ·exact⟨by omega,h1.2⟩
     simp at hk;subst hk;exact⟨by omega,hy.1 c1⟩
    rintro ⟨h1,h2⟩;by_cases ck:k=(i:Int)
    ·exact .inr (by simp[ck])
    exact .inl ⟨by omega,h2⟩
   refine T2 (QH ⟨i1,hw,⟨by show(l.length:Int)<=Qh _;rw[hw];omega,j3⟩,λk=>?_⟩);show k∈l↔k<Qh ((i:Int)+1)/\_;rw[hw,j2 k];constructor
   ·rintro ⟨h1,h2⟩;exact⟨by omega,h2⟩
   rintro ⟨h1,h2⟩;refine⟨?_,h2⟩;by_cases ck:k=(i:Int)
   ·subst ck;have:=hy.2 h2;rw[c1]at this;cases this
   omega
  show Qg (CH q) _;unfold CH;refine T2 ⟨λk=>?_,hq.2⟩;rw[hq.1 k];exact⟨λ⟨a,b⟩=>⟨a,e,he,b⟩,λ⟨a,e',h1,b⟩=>by rw[he]at h1;cases h1;exact⟨a,b⟩⟩
 refine T0 (P:=λq:LI_=>q=[]) (Qg.up 0 (λst=>st.1) (λst=>st.2=[]) rfl rfl (λi st hi hn hJ=>?_)) λq hq=>?_
 ·obtain⟨x,l⟩:=st;replace hJ:l=[]:=hJ;subst hJ;show Qg (CG m O n x []) _;unfold CG;have:(decide (0<=O)&&decide (O<(n.Tasks.length:Int)))=f_:=by
   rw[Vj,QU,QU];omega
  rw[this,Bool.and_false];exact T2 (Qp rfl)
 subst hq;show Qg (CH []) _;unfold CH;refine T2 ⟨λk=>⟨λh=>(by cases h),λ⟨_,e,he,_⟩=>?_⟩,List.Pairwise.nil⟩;obtain⟨h0,h1⟩:=Yz he;have:=(Xf.1 h1).1;omega
def Qxh (O:Int)(h:QT n)(hl:m.length<=70):MR n m O=C (Ln n m O):=by
 obtain⟨r,r1,r2,r3⟩:=QtB n m O h hl;obtain⟨s,s1,s2,s3⟩:=Qt5 n m O h;unfold Ln;rw[r1,s1,asc_ext r3 s3 λk=>(r2 k).trans (s2 k).symm];rfl
def QzB : ∀{l:LI_} {a N:Nat},l.Pairwise (·<·)->(∀k∈l,(a:Int)<=k/\k<N)->a<=N->l.length+a<=N:=by
 intro l
 induction l with
 |nil=>intro a N _ _ h;simpa using h|cons x r ih=>
  intro a N h hk ha;obtain⟨h1,h2⟩:=Bu.1 h;have hx:=hk x Yc;have:=ih (a:=x.toNat+1) (N:=N) h2 (λk O=>by have:=h1 k O;have:=hk k (Ys _ O);omega) (by omega);rw[WI];omega
def QBG {fl:Bool}{e:LI_}(i:Nat)(hi:i<l.length)(he:e.length<=maxLen)(hk:∀k∈e,0<=k/\k<(l[i]).length):Qg (Qq (λst=>Mr e (l,fl) i st) 0) λq=>(q=.inl ()->Fs e l[i]=t_)/\(q=.inr ()->Fs e l[i]=f_):=by
 have hx:=Qv hi;generalize l[i]=x at hk hx ⊢;refine Qg.up e.length (λst=>st) (λst=>Fs (e.take st.toNat) x=f_) rfl rfl (λj st hj hn hJ=>?_);replace hj:st=(j:Int):=hj;subst hj;rw[XM]at hJ;show Qg (Mr e (l,fl) i j) _;unfold Mr;refine T1 (λhc=>?_) (λhc=>T2 (Qp ⟨λh=>(by cases h),λ_=>?_⟩))
 ·simp only[Qw]at hc;have O:j<e.length:=by omega
  obtain⟨k0,k1⟩:=hk _ (Xc O);have k2:(e[j]).toNat<x.length:=by omega
  simp only;rw[QG,hx,Qa,QG,Qv O,Qa,DO k0,Qv k2,Qa];have hd:((x[(e[j]).toNat]?).getD [])=x[(e[j]).toNat]:=by rw[Qv k2];rfl
  refine T1 (λc=>T2 (Qp ⟨λ_=>?_,λh=>by cases h⟩)) λc=>T2 (QH ⟨O,Qo O he,?_⟩)
  ·exact Aw.2 ⟨e[j],Xc O,by rw[hd];exact c⟩
  rw[Qo O he,XM,Gi O];unfold Fs at hJ ⊢;rw[List.any_append,hJ,Qco,List.any_cons,List.any_nil,Vk,hd];exact c
 simp only[QU]at hc;rw[YV (by omega)]at hJ;exact hJ
def Qxi (o:Qd)(budget:Int)(h:QT n)(hr:RN n)(hb:Bd n)(hp:n.Places.length<=64)(hg:XL n m)(ho:Xv n o):Bh n m o budget=C (Qj4 n m o budget):=by
 have hml:=hg.len h;have hpl:=h.pl;have mx:(4096:Nat)<=maxLen:=by decide
 unfold Bh;rw[QcR h hr hml ho];obtain⟨x,hx,_⟩:=QaH n m o h hml ho;rw[hx,Qa];by_cases c:x=0
 rotate_left
 ·rw[show(x != 0)=t_ by simpa using c];unfold Qj4;rw[if_neg (by rw[hx];simpa using c)];rfl
 subst c;obtain⟨e,he,hmem⟩:=QpE h hml ho hx;rw[show((0:Int) != 0)=f_ from rfl,Qe,he,Qa];unfold Qj4;rw[if_pos hx,he];simp only;by_cases c3:e.Join=3
 rotate_left
 ·rw[show(e.Join != 3)=t_ by simpa using c3,if_neg c3];rfl
 rw[show(e.Join != 3)=f_ by simpa using c3,Qe,if_pos c3,Qt4 o.Task budget h hr hb hp hg,Qa,Qxh o.Task h (by rw[hg.1.1];omega),Qa];obtain⟨_,e1,e2⟩:=Qtw n m o.Task h;obtain⟨g1,g2,_,_⟩:=QpD (w:=o.Task) (budget:=budget) h hg;have hmo:=QgT budget;have hel:(Ln n m o.Task).length<=maxLen:=by
  have hs:(Ln n m o.Task).length<=m.length:=by have:=QzB (a:=0) (N:=m.length) e2 (λk hk=>⟨(e1 k hk).1,(e1 k hk).2.1⟩) (Ii _);omega
  rw[hg.1.1]at hs;omega
 unfold Qsh;generalize Hu n o.Task budget m=R at g1 g2;obtain⟨l,fl⟩:=R;replace g1:∀x∈l,XL n x:=g1;replace g2:l.length<=Xi budget:=g2;generalize Ln n m o.Task=E at e1 hel ⊢;have main:Qg (Qq (λst=>Ms (l,fl) E st) 0) λq=>(q=.inl ()->l.any (Fs E)=t_)/\(q=.inr ()->l.any (Fs E)=f_):=by
  refine Qg.up l.length (λst=>st) (λst=>(l.take st.toNat).any (Fs E)=f_) rfl rfl (λi st hi hn hJ=>?_);replace hi:st=(i:Int):=hi;subst hi;rw[XM]at hJ;show Qg (Ms (l,fl) E i) _;unfold Ms;refine T1 (λO=>?_) (λO=>T2 (Qp ⟨λh=>(by cases h),λ_=>?_⟩))
  ·replace O:decide ((i:Int)<(l.length:Int))=t_:=O;simp only[Qw]at O;have i1:i<l.length:=by omega
   obtain⟨q,q1,q2,q3⟩:=QBG (fl:=fl) i i1 hel λk hk=>by
    have h1:=e1 k hk;have h2:=(g1 _ (Xc i1)).1.1;have h3:=hg.1.1;exact⟨h1.1,by have:=h1.2.1;omega⟩
   rw[q1,Qa];rcases q with q|q
   ·exact T2 (Qp ⟨λ_=>Aw.2 ⟨_,Xc i1,q2 rfl⟩,λh=>by cases h⟩)
   refine T2 (QH ⟨i1,Qo i1 (by omega),?_⟩);rw[Qo i1 (by omega),XM,Gi i1,List.any_append,hJ,Qco,List.any_cons,List.any_nil,Vk];exact q3 rfl
  replace O:decide ((i:Int)<(l.length:Int))=f_:=O;simp only[QU]at O;rw[YV (by omega)]at hJ;exact hJ
 obtain⟨q,q1,q2,q3⟩:=main;rw[q1,Qa];rcases q with q|q
 ·show Qeb=C (if l.any (Fs E)=t_ then 0 else if fl=t_ then 1 else 2);rw[if_pos (q2 rfl)];rfl
 show TQ (l,fl)=C (if l.any (Fs E)=t_ then 0 else if fl=t_ then 1 else 2);rw[if_neg (by rw[q3 rfl];decide)];unfold TQ;cases fl<;>rfl
def Qyu (budget:Int)(h:QT n)(hb:Bd n)(hg:XL n m):Qg (AY n m budget 9223372036854775807) λr=>r.1.length<=4194304/\∀o∈r.1,o∈KB n m:=by
 have hml:=hg.len h;have hal:=QqI m h hb;unfold AY;rw[Qnu n m 9223372036854775807 h hml (by omega) (by omega) (.inr (by omega)),Qa];have e0:(KB n m).take (9223372036854775807:Int).toNat=KB n m:=YV (by omega);rw[e0];have hok:=λo=>QgR (o:=o) h hml;refine T0 (Qg.up (KB n m).length (λst=>st.2.1) (λst=>(st.2.2.1.length:Int)<=st.2.1/\∀o∈st.2.2.1,o∈KB n m) (Q:=λq:Bool×L_ Qd=>q.2.length<=4194304/\∀o∈q.2,o∈KB n m) rfl ⟨by simp,λo h=>(by cases h)⟩ (λi st hi hn hJ=>?_)) (λq hq=>T2 hq);obtain⟨known,x,l,mm⟩:=st;replace hi:x=(i:Int):=hi;subst hi;obtain⟨j1,j2⟩:(l.length:Int)<=(i:Int)/\∀o∈l,o∈KB n m:=hJ;show Qg (TB (KB n m) n m budget known i l mm) _;unfold TB;refine T1 (λhc=>?_) (λhc=>T2 (Qp ⟨by show l.length<=_;omega,j2⟩));simp only[Qw]at hc;have i1:i<(KB n m).length:=by omega
 have hw:Qh ((i:Int)+1)=((i+1:Nat):Int):=Qo i1 (by unfold maxLen;omega:(KB n m).length<=maxLen);have ho:=Xc i1;rw[QG,Qv i1,Qa];generalize (KB n m)[i]=o at ho ⊢;have k1:∀(O:Bool) l' mm',(l'.length:Int)<=(i:Int)+1->(∀o∈l',o∈KB n m)->Qg (UB i O l' mm') λr=>(∀s',r=.inl s'->i<(KB n m).length/\s'.2.1=((i+1:Nat):Int)/\(s'.2.2.1.length:Int)<=s'.2.1/\∀o∈s'.2.2.1,o∈KB n m)/\∀q:Bool×L_ Qd,r=.inr q->q.2.length<=4194304/\∀o∈q.2,o∈KB n m:=λO l' mm' h1 h2=>by
  unfold UB;exact T2 (QH (ix:=λst:Bool×Int×L_ Qd×QBg=>st.2.1) (J:=λst:Bool×Int×L_ Qd×QBg=>(st.2.2.1.length:Int)<=st.2.1/\∀o∈st.2.2.1,o∈KB n m) ⟨i1,hw,by show(l'.length:Int)<=Qh _;rw[hw];omega,h2⟩)
 have k2:∀mm',Qg (Cy o l i known mm') λr=>(∀s',r=.inl s'->i<(KB n m).length/\s'.2.1=((i+1:Nat):Int)/\(s'.2.2.1.length:Int)<=s'.2.1/\∀o∈s'.2.2.1,o∈KB n m)/\∀q:Bool×L_ Qd,r=.inr q->q.2.length<=4194304/\∀o∈q.2,o∈KB n m:=λmm'=>by
  unfold Cy;refine T1 (λc1=>?_) λc1=>T1 (λc2=>k1 _ _ _ (by omega) j2) λc2=>k1 _ _ _ (by omega) j2;refine T0 (T5 (by simp;omega)) λ_ _=>k1 _ _ _ (by simp;omega) λo' ho'=>?_;rcases YT.1 ho' with ho'|ho'
  ·exact j2 o' ho'
  simp at ho';subst ho';exact ho
 refine T1 (λc=>?_) λc=>k2 _;rw[QnE o budget h hb hg (hok o ho),Qa];exact k2 _
def Gj (n:Qc)(m:L_ Bag)(budget:Int):L_ Qd×Bool:=(AY n m budget 9223372036854775807).getD ([],f_)
def Qut (budget:Int)(h:QT n)(hb:Bd n)(hg:XL n m):AY n m budget 9223372036854775807=C (Gj n m budget)/\(Gj n m budget).1.length<=4194304/\∀o∈(Gj n m budget).1,o∈KB n m:=by
 obtain⟨r,O,h2⟩:=Qyu budget h hb hg;unfold Gj;rw[O];exact⟨rfl,h2⟩
def ZI (L:L_ (L_ Bag))(s:ByteArray):O_ Nat:=L.findIdx? λy=>decide (XO y=s)
def FI (mm:L_ (ByteArray×Int))(L:L_ (L_ Bag)):Prop:=∀s,Xg mm s=(ZI L s).map λi=>(i:Int)
def Qyv (L:L_ (L_ Bag))(y:L_ Bag)(s:ByteArray):ZI (L++[y]) s=match ZI L s with
  |some i=>C i|none=>if XO y=s then C L.length else none:=by
 unfold ZI;rw[List.findIdx?_append];cases L.findIdx? λy=>decide (XO y=s)with
 |some i=>rfl|none=>
  by_cases c:XO y=s
  ·simp[c,List.findIdx?_cons]
  simp[c,List.findIdx?_cons]
def FI.add (h:FI mm L)(O:ZI L (XO y)=none):FI (YQ TX mm (XO y) (L.length:Int)) (L++[y]):=λs=>by
 rw[BX,Qyv];by_cases c:s=XO y
 ·subst c;rw[if_pos rfl,O];simp
 rw[if_neg c,h s];cases ZI L s with|some i=>rfl|none=>simp only;rw[if_neg λe=>c e.symm]
def YG (b:Int):Nat:=(min2 b 4096).toNat
def QzC (h:QT n)(O:XL n m):Qa6 m=C (XO m):=QpC h O
def QpG (b:Int)(E:L_ YU)(full:Bool)(h:QT n)(hg:XL n y)(hI:FI mm L)(hb:0<b):
  ∃k O mm',Gz n.Colours n.Places n.Tasks n.From n.To b mm L E full y=C (k,O,n.Colours,n.Places,n.Tasks,n.From,n.To,b,full,mm')/\FI mm' O/\
   ((∃i:Nat,ZI L (XO y)=C i/\k=(i:Int)/\O=L)\/(ZI L (XO y)=none/\YG b<=L.length/\k=-1/\O=L)\/(ZI L (XO y)=none/\¬YG b<=L.length/\k=(L.length:Int)/\O=L++[y])):=by
 have hmost:(YG b:Int)=min2 b 4096:=by unfold YG min2;split<;>omega
 have hm2:YG b<=4096:=by unfold YG min2;split<;>omega
 unfold Gz;rw[QzC h hg,Qa,hI (XO y)];cases hp:ZI L (XO y)with
 |some i=>exact⟨i,L,mm,rfl,hI,.inl ⟨i,rfl,rfl,rfl⟩⟩|none=>
  simp only[Qbj,Option.isSome_none,Qe];cases hc:decide (min2 b 4096<=(L.length:Int))with
  |true=>exact⟨-1,L,mm,rfl,hI,.inr (.inl ⟨by trivial,by have:=Xe hc;omega,rfl,rfl⟩)⟩|false=>
   have hc':=of_decide_eq_false hc;simp only[Qe,Qa];rw[Yv (by simp;omega),Qa];exact⟨L.length,L++[y],_,rfl,hI.add hp,.inr (.inr ⟨by trivial,by omega,rfl,rfl⟩)⟩
abbrev SSt := L_ (L_ Bag)×L_ YU×Bool
def GZ (most:Nat)(n:Qc)(x:L_ Bag)(a:Int)(st:SSt)(o:Qd):SSt:=match YP n x o with
 |some (y,c)=>if c=0 then(match ZI st.1 (XO y)with|some k=>(st.1,st.2.1++[YU.mk a (k:Int) o],st.2.2)|none=>if most<=st.1.length then(st.1,st.2.1,f_)else(st.1++[y],st.2.1++[YU.mk a (st.1.length:Int) o],st.2.2))
  else(st.1,st.2.1,f_)
 |none=>st
def QvM {E:L_ YU}{full:Bool}{a:Nat}(b:Int)(h:QT n)(hbd:Bd n)(hg:XL n x)(hI:FI mm L)(hb:0<b)(hx:L[a]? = C x)(hE:E.length<=134217728):
  ∃O,let T:=(Gj n x b).1.foldl (GZ (YG b) n x a) (L,E,full&&(Gj n x b).2)
   UV n.Colours n.Places n.Tasks n.From n.To b mm L E full a=C (T.1,T.2.1,n.Colours,n.Places,n.Tasks,n.From,n.To,b,T.2.2,O)/\FI O T.1:=by
 obtain⟨hf,hfl,hfm⟩:=Qut b h hbd hg;unfold UV;rw[QG,hx,Qa,show Qc.mk n.Colours n.Places n.Tasks n.From n.To=n from rfl,hf,Qa];have g1:BN full (Gj n x b)=C (full&&(Gj n x b).2):=by
  unfold BN;cases full<;>rfl
 rw[g1,Qa];have hok:∀o∈(Gj n x b).1,Xv n o:=λo ho=>QgR h (hg.len h) (hfm o ho);unfold Og;generalize hX:(Gj n x b).1=X at hfl hok ⊢;generalize (full&&(Gj n x b).2)=full0;have main:Qg (Qq (λst=>Em (Gj n x b) x a st.1 st.2.1 st.2.2.1 st.2.2.2.1 st.2.2.2.2.1 st.2.2.2.2.2.1 st.2.2.2.2.2.2.1 st.2.2.2.2.2.2.2.1 st.2.2.2.2.2.2.2.2.1 st.2.2.2.2.2.2.2.2.2.1 st.2.2.2.2.2.2.2.2.2.2) ((0:Int),n.Colours,n.Places,n.Tasks,n.From,n.To,b,full0,mm,E,L))
   λq=>∃O,q=(n.Colours,n.Places,n.Tasks,n.From,n.To,b,(X.foldl (GZ (YG b) n x a) (L,E,full0)).2.2,O,(X.foldl (GZ (YG b) n x a) (L,E,full0)).2.1,(X.foldl (GZ (YG b) n x a) (L,E,full0)).1)/\FI O (X.foldl (GZ (YG b) n x a) (L,E,full0)).1:=by
  refine Qg.up X.length (λst=>st.1) (λst=>st.2.1=n.Colours/\st.2.2.1=n.Places/\st.2.2.2.1=n.Tasks/\st.2.2.2.2.1=n.From/\st.2.2.2.2.2.1=n.To/\st.2.2.2.2.2.2.1=b/\FI st.2.2.2.2.2.2.2.2.1 st.2.2.2.2.2.2.2.2.2.2/\(st.2.2.2.2.2.2.2.2.2.1.length:Int)<=E.length+st.1/\(X.drop st.1.toNat).foldl (GZ (YG b) n x a) (st.2.2.2.2.2.2.2.2.2.2,st.2.2.2.2.2.2.2.2.2.1,st.2.2.2.2.2.2.2.1)=X.foldl (GZ (YG b) n x a) (L,E,full0)) rfl ⟨rfl,rfl,rfl,rfl,rfl,rfl,hI,by simp,rfl⟩ (λi st hi hn hJ=>?_);obtain⟨i',c,p,t,fr,tz,b',fu,mm,E',L'⟩:=st;replace hi:i'=(i:Int):=hi;subst hi;obtain⟨e1,e2,e3,e4,e5,e6,j1,j2,j3⟩:c=n.Colours/\p=n.Places/\t=n.Tasks/\fr=n.From/\tz=n.To/\b'=b/\FI mm L'/\(E'.length:Int)<=E.length+(i:Int)/\(X.drop (i:Int).toNat).foldl (GZ (YG b) n x a) (L',E',fu)=X.foldl (GZ (YG b) n x a) (L,E,full0):=hJ;subst e1;subst e2;subst e3;subst e4;subst e5;subst e6;rw[XM]at j3;show Qg (Em (Gj n x b') x a i n.Colours n.Places n.Tasks n.From n.To b' fu mm E' L') _;unfold Em;rw[hX];refine T1 (λhc=>?_) (λhc=>T2 (Qp ?_))
  ·simp only[Qw]at hc;have i1:i<X.length:=by omega
   have hw:Qh ((i:Int)+1)=((i+1:Nat):Int):=Qo i1 (by unfold maxLen;omega:X.length<=maxLen);rw[QG,Qv i1,Qa,show Qc.mk n.Colours n.Places n.Tasks n.From n.To=n from rfl];rw[NE i1,List.foldl_cons]at j3;have ho:=hok _ (Xc i1);generalize X[i]=o at ho j3 ⊢;obtain⟨⟨y,cc⟩,hD,_⟩:=Qvd n x o 1024 h hg.1 (by omega) ho;rw[hD,Qa];have next:∀(fu':Bool) O E'' L'',FI O L''->(E''.length:Int)<=E.length+((i:Int)+1)->GZ (YG b') n x a (L',E',fu) o=(L'',E'',fu')->
     Qg (WP i n.Colours n.Places n.Tasks n.From n.To b' fu' O E'' L'') λr=>(∀s',r=.inl s'->i<X.length/\s'.1=((i+1:Nat):Int)/\(s'.2.1=n.Colours/\s'.2.2.1=n.Places/\s'.2.2.2.1=n.Tasks/\s'.2.2.2.2.1=n.From/\s'.2.2.2.2.2.1=n.To/\s'.2.2.2.2.2.2.1=b'/\FI s'.2.2.2.2.2.2.2.2.1 s'.2.2.2.2.2.2.2.2.2.2/\(s'.2.2.2.2.2.2.2.2.2.1.length:Int)<=E.length+s'.1/\(X.drop s'.1.toNat).foldl (GZ (YG b') n x a) (s'.2.2.2.2.2.2.2.2.2.2,s'.2.2.2.2.2.2.2.2.2.1,s'.2.2.2.2.2.2.2.1)=X.foldl (GZ (YG b') n x a) (L,E,full0)))/\
      ∀q,r=.inr q->∃O,q=(n.Colours,n.Places,n.Tasks,n.From,n.To,b',(X.foldl (GZ (YG b') n x a) (L,E,full0)).2.2,O,(X.foldl (GZ (YG b') n x a) (L,E,full0)).2.1,(X.foldl (GZ (YG b') n x a) (L,E,full0)).1)/\FI O (X.foldl (GZ (YG b') n x a) (L,E,full0)).1:=λfu' O E'' L'' f1 f2 f3=>by
    unfold WP;refine T2 ⟨λs' e=>?_,λq e=>by cases e⟩;cases e;refine⟨i1,hw,rfl,rfl,rfl,rfl,rfl,rfl,f1,by show(E''.length:Int)<=_+Qh _;rw[hw];omega,?_⟩;show(X.drop (Qh ((i:Int)+1)).toNat).foldl (GZ (YG b') n x a) (L'',E'',fu')=_;rw[hw,XM,<-j3,f3]
   by_cases c0:cc=0
   ·subst c0;have hgy:=QgS h hg ho hD;simp only[show((0:Int)==0)=t_ from rfl,Qr];obtain⟨k,L'',mm'',hs,f1,f2⟩:=QpG b' E' fu h hgy j1 hb;rw[hs,Qa];simp only;unfold WQ;rcases f2 with⟨p,p1,rfl,rfl⟩|⟨p1,p2,rfl,rfl⟩|⟨p1,p2,rfl,rfl⟩
    ·rw[Qn (by omega),Qe];refine T0 (T5 (by simp;omega)) λ_ _=>next _ _ _ _ f1 (by simp;omega) ?_;unfold GZ;rw[hD];simp only;rw[if_pos trivial,p1]
    ·rw[show decide ((-1:Int)<0)=t_ from rfl,Qr];refine next _ _ _ _ f1 (by omega) ?_;unfold GZ;rw[hD];simp only;rw[if_pos trivial,p1];simp only;rw[if_pos p2]
    rw[Qn (by omega),Qe];refine T0 (T5 (by simp;omega)) λ_ _=>next _ _ _ _ f1 (by simp;omega) ?_;unfold GZ;rw[hD];simp only;rw[if_pos trivial,p1];simp only;rw[if_neg p2]
   rw[show(cc==0)=f_ by simpa using c0,Qe];unfold WQ;rw[show decide ((-1:Int)<0)=t_ from rfl,Qr];refine next _ _ _ _ j1 (by omega) ?_;unfold GZ;rw[hD];simp only;rw[if_neg c0]
  simp only[QU]at hc;rw[Qj7 (by omega),List.foldl_nil]at j3;rw[<-j3];exact⟨mm,rfl,j1⟩
 obtain⟨q,hq1,O,rfl,hq2⟩:=main;refine⟨O,?_,hq2⟩;rw[hq1];rfl
def Qj5 (x:L_ Bag):Int:=Qh (tS x x.length)
def Qbh (n:Qc)(b tokens:Int):Nat->SSt->Nat->SSt
 |0,st,_=>st|f+1,st,a=>match st.1[a]? with
  |none=>st|some x=>if tokens<Qj5 x then Qbh n b tokens f (st.1,st.2.1,f_) (a+1)
   else Qbh n b tokens f ((Gj n x b).1.foldl (GZ (YG b) n x a) (st.1,st.2.1,st.2.2&&(Gj n x b).2)) (a+1)
def Qyw {st:SSt}(h:QT n)(hg:XL n x)(ho:Xv n o)(hs:∀y∈st.1,XL n y):∀y∈(GZ most n x a st o).1,XL n y:=by
 unfold GZ;cases hD:YP n x o with
 |none=>exact hs|some r=>
  obtain⟨y,c⟩:=r;simp only;by_cases c0:c=0
  ·subst c0;rw[if_pos rfl];cases ZI st.1 (XO y)with
   |some k=>exact hs|none=>
    simp only;split
    ·exact hs
    intro z O;rcases YT.1 O with O|O
    ·exact hs z O
    simp at O;subst O;exact QgS h hg ho hD
  rw[if_neg c0];exact hs
def QzD {st:SSt}(h:st.1.length<=most):(GZ most n x a st o).1.length<=most/\(GZ most n x a st o).2.1.length<=st.2.1.length+1:=by
 unfold GZ;cases hD:YP n x o with
 |none=>exact⟨h,by simp⟩|some r=>
  obtain⟨y,c⟩:=r;simp only;by_cases O:c=0
  ·rw[if_pos O];cases ZI st.1 (XO y)with
   |some k=>exact⟨h,by simp⟩|none=>
    simp only;split
    ·exact⟨h,by simp⟩
    exact⟨by simp;omega,by simp⟩
  rw[if_neg O];exact⟨h,by simp⟩
def Qxj (h:QT n)(hg:XL n x):∀{X:L_ Qd} {st:SSt},(∀o∈X,Xv n o)->(∀y∈st.1,XL n y)->st.1.length<=most->(∀y∈(X.foldl (GZ most n x a) st).1,XL n y)/\(X.foldl (GZ most n x a) st).1.length<=most/\(X.foldl (GZ most n x a) st).2.1.length<=st.2.1.length+X.length:=by
 intro X
 induction X with
 |nil=>intro st _ hs O;exact⟨hs,O,by simp⟩|cons o X ih=>
  intro st ho hs O;have h1:=QzD (n:=n) (x:=x) (a:=a) (o:=o) O;obtain⟨k1,k2,k3⟩:=ih (st:=GZ most n x a st o) (λo' ho'=>ho o' (Ys _ ho')) (Qyw h hg (ho o Yc) hs) h1.1;rw[List.foldl_cons];exact⟨k1,k2,by simp;omega⟩
def Qxk (b tokens:Int)(h:QT n)(hbd:Bd n)(hg:XL n m)(hb:b<=31):
  Zl n m b tokens=C (if b<=0 then Sg.mk [] [] f_ else let r:=Qbh n b tokens (YG b+1) ([m],[],t_) 0;Sg.mk r.1 r.2.1 r.2.2):=by
 have hpl:=h.pl;have hm1:=hg.1.1;unfold Zl;by_cases c0:b<=0
 ·rw[Ql c0,if_pos c0];rfl
 rw[Qn c0,if_neg c0,Qe,Lk m (by omega) (λb hb=>by have:=(hg.1.2 b hb).2;omega),Qa];have hmost:(YG b:Int)=b:=by unfold YG min2;split<;>omega
 obtain⟨k,L',mm',hs,f1,f2⟩:=QpG (mm:=[]) (L:=[]) b [] t_ h hg (λs=>rfl) (by omega);rw[hs,Qa];have hL:L'=[m]:=by
  rcases f2 with⟨i,p1,_,_⟩|⟨_,p2,_,_⟩|⟨_,_,_,e⟩
  ·simp[ZI]at p1
  ·simp at p2;omega
  simpa using e
 subst hL;simp only;generalize hR:Qbh n b tokens (YG b+1) ([m],[],t_) 0=R;have main:Qg (Qq (λst=>Oh tokens st.1 st.2.1 st.2.2.1 st.2.2.2.1 st.2.2.2.2.1 st.2.2.2.2.2.1 st.2.2.2.2.2.2.1 st.2.2.2.2.2.2.2.1 st.2.2.2.2.2.2.2.2.1 st.2.2.2.2.2.2.2.2.2.1 st.2.2.2.2.2.2.2.2.2.2) ((0:Int),n.Colours,n.Places,n.Tasks,n.From,n.To,b,t_,mm',[m],([]:L_ YU)))
   λq=>∃mm,q=(n.Colours,n.Places,n.Tasks,n.From,n.To,b,R.2.2,mm,R.1,R.2.1):=by
  refine Qg.up (YG b) (λst=>st.1) (λst=>st.2.1=n.Colours/\st.2.2.1=n.Places/\st.2.2.2.1=n.Tasks/\st.2.2.2.2.1=n.From/\st.2.2.2.2.2.1=n.To/\st.2.2.2.2.2.2.1=b/\FI st.2.2.2.2.2.2.2.2.1 st.2.2.2.2.2.2.2.2.2.1/\(∀y∈st.2.2.2.2.2.2.2.2.2.1,XL n y)/\st.2.2.2.2.2.2.2.2.2.1.length<=YG b/\(st.2.2.2.2.2.2.2.2.2.2.length:Int)<=st.1*4194304/\Qbh n b tokens (YG b+1-st.1.toNat) (st.2.2.2.2.2.2.2.2.2.1,st.2.2.2.2.2.2.2.2.2.2,st.2.2.2.2.2.2.2.1) st.1.toNat=R) rfl ⟨rfl,rfl,rfl,rfl,rfl,rfl,f1,λy hy=>by simp at hy;subst hy;exact hg,by show 1<=_;omega,by simp,hR⟩ (λi st hi hn hJ=>?_);obtain⟨i',c,p,t,fr,tz,O,fu,mm,L,E⟩:=st;replace hi:i'=(i:Int):=hi;subst hi;obtain⟨e1,e2,e3,e4,e5,e6,j1,j2,j3,j4,j5⟩:c=n.Colours/\p=n.Places/\t=n.Tasks/\fr=n.From/\tz=n.To/\O=b/\FI mm L/\(∀y∈L,XL n y)/\L.length<=YG b/\(E.length:Int)<=(i:Int)*4194304/\Qbh n b tokens (YG b+1-(i:Int).toNat) (L,E,fu) (i:Int).toNat=R:=hJ;subst e1;subst e2;subst e3;subst e4;subst e5;subst e6;rw[XM,show YG O+1-i=(YG O-i)+1 by omega,Qbh]at j5;show Qg (Oh tokens i n.Colours n.Places n.Tasks n.From n.To O fu mm L E) _;unfold Oh;refine T1 (λhc=>?_) (λhc=>T2 (Qp ?_))
  ·simp only[Qw]at hc;have i1:i<L.length:=by omega
   have hx:=Qv i1;have hgx:=j2 _ (Xc i1);rw[QG,hx,Qa];simp only[hx]at j5;generalize L[i]=x at hx hgx j5 ⊢;rw[Qii h hgx.1 (by omega),Qa];have hw:Qh ((i:Int)+1)=((i+1:Nat):Int):=Qo (by omega:i<YG O) (by unfold maxLen;omega);have next:∀(fu':Bool) mm' L' E',FI mm' L'->(∀y∈L',XL n y)->L'.length<=YG O->(E'.length:Int)<=((i:Int)+1)*4194304->Qbh n O tokens (YG O-i) (L',E',fu') (i+1)=R->
     Qg (Hl i n.Colours n.Places n.Tasks n.From n.To O fu' mm' L' E') λr=>(∀s',r=.inl s'->i<YG O/\s'.1=((i+1:Nat):Int)/\(s'.2.1=n.Colours/\s'.2.2.1=n.Places/\s'.2.2.2.1=n.Tasks/\s'.2.2.2.2.1=n.From/\s'.2.2.2.2.2.1=n.To/\s'.2.2.2.2.2.2.1=O/\FI s'.2.2.2.2.2.2.2.2.1 s'.2.2.2.2.2.2.2.2.2.1/\(∀y∈s'.2.2.2.2.2.2.2.2.2.1,XL n y)/\s'.2.2.2.2.2.2.2.2.2.1.length<=YG O/\(s'.2.2.2.2.2.2.2.2.2.2.length:Int)<=s'.1*4194304/\Qbh n O tokens (YG O+1-s'.1.toNat) (s'.2.2.2.2.2.2.2.2.2.1,s'.2.2.2.2.2.2.2.2.2.2,s'.2.2.2.2.2.2.2.1) s'.1.toNat=R))/\
      ∀q,r=.inr q->∃mm,q=(n.Colours,n.Places,n.Tasks,n.From,n.To,O,R.2.2,mm,R.1,R.2.1):=λfu' mm' L' E' g1 g2 g3 g4 g5=>by
    unfold Hl;refine T2 ⟨λs' e=>?_,λq e=>by cases e⟩;cases e;refine⟨by omega,hw,rfl,rfl,rfl,rfl,rfl,rfl,g1,g2,g3,by show(E'.length:Int)<=Qh _*_;rw[hw];omega,?_⟩;show Qbh n O tokens (YG O+1-(Qh ((i:Int)+1)).toNat) (L',E',fu') (Qh ((i:Int)+1)).toNat=R;rw[hw,XM,show YG O+1-(i+1)=YG O-i by omega];exact g5
   refine T1 (λhc2=>?_) λhc2=>?_
   ·rw[if_pos (show tokens<Qj5 x by simpa[Qj5] using hc2)]at j5;exact next _ _ _ _ j1 j2 j3 (by omega) j5
   rw[if_neg (show ¬tokens<Qj5 x by simpa[Qj5] using hc2)]at j5;obtain⟨mm',hl,f3⟩:=QvM (full:=fu) (E:=E) O h hbd hgx j1 (by omega) hx (by omega);rw[hl,Qa];obtain⟨q1,q2,q3⟩:=Qut O h hbd hgx;obtain⟨g1,g2,g3⟩:=Qxj (a:=(i:Int)) (most:=YG O) h hgx (X:=(Gj n x O).1) (st:=(L,E,fu&&(Gj n x O).2)) (λo ho=>QgR h (hgx.len h) (q3 o ho)) j2 j3;exact next _ _ _ _ f3 g1 g2 (by simp only at g3 ⊢;omega) j5
  simp only[QU]at hc;rw[SA (show L.length<=i by omega)]at j5;rw[<-j5];exact⟨mm,rfl⟩
 obtain⟨q,hq1,mm,rfl⟩:=main;rw[hq1];rfl
section
variable {n:Qc}{m:L_ Bag}{b tokens:Int}{a:Nat}
end
def Rch (n:Qc):Prop:=(∀p∈n.Places,p.First.length*16<=140737488351232)/\∀c∈n.Colours,c.Names.length*16<=140737488351232
def Qry (hk:Xu n)(hr:Rch n):Qg (HG n) λr=>r=t_->(n.Colours.length<=40/\n.Places.length<=70/\n.Tasks.length<=70)/\∀p∈n.Places,p.First.length<=400:=by
 unfold HG;refine T1 (λ_=>T2 λh=>by cases h) λO=>?_;simp only[Ku,QU]at O;refine T6 (P:=λr=>r=t_->∀p∈n.Places,p.First.length<=400) ?_ λr hr2 e=>⟨by omega,hr2 e⟩;refine T0 (Qg.up n.Colours.length (λst=>st.2) (λst=>0<=st.1/\st.1<=400) (Q:=λq:Unit⊕Int=>∀x,q=.inr x->0<=x/\x<=400) rfl ⟨by show(0:Int)<=0;omega,by show(0:Int)<=400;omega⟩ (λi st hi hn hJ=>?_)) (λq hq=>?_)
 ·obtain⟨a,x⟩:=st;replace hi:x=(i:Int):=hi;subst hi;obtain⟨j1,j2⟩:0<=a/\a<=400:=hJ;show Qg (IU n a i) _;unfold IU;refine T1 (λO=>?_) (λ_=>T2 (Qp λx e=>by cases e;exact⟨j1,j2⟩));simp only[Qw]at O;refine T0 (T4 (by omega) (by omega)).self λe he=>?_;obtain⟨he,hm⟩:=he;have hel:=hr.2 e hm;have hw:Qh (a+(e.Names.length:Int))=a+(e.Names.length:Int):=Xb (by omega);refine T0 (P:=λy=>y=f_->a+(e.Names.length:Int)<=400) ?_ λy hy=>?_
  ·unfold Qar;rw[he,Qa,hw];exact T1 (λ_=>T2 λh=>by cases h) λ_=>T2 λh=>by simpa using h
  unfold Qas;refine T1 (λ_=>T2 (Qp λx e=>by cases e)) λhyf=>?_;have hle:=hy hyf;refine T0 (Qg.up e.Names.length (λst=>st) (λ_=>True) (Q:=λ_=>True) rfl trivial (λi2 st hi2 hn2 _=>?_)) (λq _=>?_)
  ·show Qg (IT n i st) _;unfold IT;simp only[he,Qa];refine T1 (λO=>?_) (λ_=>T2 (Qp trivial));simp only[Qw]at O;refine T0 (T4 (by omega) (by omega)) λs _=>?_;refine T1 (λ_=>T2 (Qp trivial)) λ_=>?_;exact T2 (QH ⟨by omega,by rw[hi2];exact Qo (by omega) (hk.1.2 e hm).2.2.2.2.1.1,trivial⟩)
  rcases q with q|q
  ·exact T2 (Qp λx e=>by cases e)
  refine T2 (QH ⟨by omega,Qo (by omega) hk.1.1,?_⟩);show 0<=Qh (a+(e.Names.length:Int))/\Qh (a+(e.Names.length:Int))<=400;rw[hw];omega
 rcases q with q|q
 ·exact T2 λh=>by cases h
 have hq:=hq q rfl;show Qg (Hf n q) _;unfold Hf;refine T0 (Qg.up n.Places.length (λst=>st.2) (λst=>0<=st.1/\st.1<=400+st.2*8796093022208/\∀(j:Nat) p,(j:Int)<st.2->n.Places[j]? = C p->(p.First.length:Int)<=st.1) (Q:=λq:Unit⊕Int=>∀x,q=.inr x->∀p∈n.Places,(p.First.length:Int)<=x) rfl ⟨hq.1,by show q<=400+0*8796093022208;omega,λj p hj=>by simp at hj;omega⟩ (λi st hi hn hJ=>?_)) (λq hq=>?_)
 ·obtain⟨a,x⟩:=st;replace hi:x=(i:Int):=hi;subst hi;obtain⟨j1,j2,j3⟩:0<=a/\a<=400+(i:Int)*8796093022208/\∀(j:Nat) p,(j:Int)<(i:Int)->n.Places[j]? = C p->(p.First.length:Int)<=a:=hJ;show Qg (IV n a i) _;unfold IV;refine T1 (λO=>?_) (λO=>T2 (Qp λx e p hp=>?_))
  ·simp only[Qw]at O;have i1:i<n.Places.length:=by omega
   rw[QG,Qv i1,Qa,Qa];have hpl:=hr.1 _ (Xc i1);have hw:Qh (a+((n.Places[i]).First.length:Int))=a+((n.Places[i]).First.length:Int):=Xb (by omega);have hw2:Qh ((i:Int)+1)=((i+1:Nat):Int):=Qo i1 hk.2.1.1;refine T1 (λ_=>T2 (Qp λx e=>by cases e)) λ_=>T2 (QH ⟨i1,hw2,?_⟩);show 0<=Qh (a+((n.Places[i]).First.length:Int))/\Qh (a+((n.Places[i]).First.length:Int))<=400+Qh ((i:Int)+1)*8796093022208/\∀(j:Nat) p,(j:Int)<Qh ((i:Int)+1)->n.Places[j]? = C p->(p.First.length:Int)<=Qh (a+((n.Places[i]).First.length:Int));rw[hw,hw2];refine⟨by omega,by omega,λj p hj hp=>?_⟩;by_cases cj:j=i
   ·subst cj;rw[Qv i1]at hp;cases hp;omega
   have:=j3 j p (by omega) hp;omega
  cases e;simp only[QU]at O;obtain⟨j,hj,rfl⟩:=Ej.1 hp;exact j3 j _ (by omega) (Qv hj)
 rcases q with q|q
 ·exact T2 λh=>by cases h
 exact(Quc n hk q).mono λr hr2 e p hp=>by have:=hr2 e;have:=hq q rfl p hp;omega
def QvN (hp:n.Places.length<=70)(hf:∀p∈n.Places,p.First.length<=400):Qg (Gs n) λm=>m.length=n.Places.length/\∀b∈m,b.length<=401:=by
 unfold Gs;refine T0 (Qg.up n.Places.length (λst=>st.1) (λst=>(st.2.length:Int)=st.1/\∀b∈st.2,b.length<=401) (Q:=λm:L_ Bag=>m.length=n.Places.length/\∀b∈m,b.length<=401) rfl ⟨rfl,λb h=>by cases h⟩ (λi st hi hn hJ=>?_)) (λq hq=>T2 hq);obtain⟨x,l⟩:=st;replace hi:x=(i:Int):=hi;subst hi;obtain⟨j1,j2⟩:(l.length:Int)=(i:Int)/\∀b∈l,b.length<=401:=hJ;show Qg (Gc n i l) _;unfold Gc;refine T1 (λhc=>?_) (λhc=>T2 (Qp ?_))
 ·simp only[Qw]at hc;have i1:i<n.Places.length:=by omega
  have hpl:=hf _ (Xc i1);rw[QG,Qv i1,Qa];have hw:Qh ((i:Int)+1)=((i+1:Nat):Int):=Qo i1 (by unfold maxLen;omega:n.Places.length<=maxLen);have k1:∀b:Bag,b.length<=401->Qg (Gb l i b) λo=>(∀s',o=.inl s'->i<n.Places.length/\s'.1=((i+1:Nat):Int)/\(s'.2.length:Int)=s'.1/\∀b∈s'.2,b.length<=401)/\∀r:L_ Bag,o=.inr r->r.length=n.Places.length/\∀b∈r,b.length<=401:=λb hb=>by
   unfold Gb;refine T0 (T5 (by simp;omega)) λ_ _=>?_;refine T2 (QH (ix:=λst:Int×L_ Bag=>st.1) (J:=λst:Int×L_ Bag=>(st.2.length:Int)=st.1/\∀b∈st.2,b.length<=401) ⟨i1,hw,by show((l++[b]).length:Int)=Qh _;rw[hw];simp;omega,λb' O=>?_⟩);rcases YT.1 O with O|O
   ·exact j2 b' O
   simp at O;subst O;exact hb
  unfold JI;rw[Yv (by simp;omega)];simp only[Qa,FR];refine T1 (λhc2=>?_) λ_=>k1 _ (by omega);rw[show Th ([0]:LI_)=C [(0,1)]from ZE 0,Qa];rcases Au (n.Places[i]).First [(0,1)] (by simp;omega)with⟨_,e⟩|⟨_,_,_,e⟩|⟨_,_,r,e,h1,_,h2⟩
  ·rw[e,Qa];exact k1 _ (by omega)
  ·rw[e,Qa];exact k1 _ (by omega)
  rw[e,Qa];exact k1 _ (by simp at h2;show r.length<=401;omega)
 simp only[QU]at hc;exact⟨by show l.length=_;omega,j2⟩
def Qem (n:Qc):L_ Bag:=(Gs n).getD []
structure QAC (n:Qc) (b:Int):Prop where
 net:QT n
 bd:Bd n
 pl:n.Places.length<=64
 good:XL n (Qem n)
 first:Gs n=C (Qem n)
 bud:b<=16
def Qyx (n:Qc)(b:Int)(hn:Xu n)(hr:Rch n):Qg (An n b) λr=>r=t_->QAC n b:=by
 unfold An;refine T0 (Qry hn hr) λf hf=>?_;refine T1 (λ_=>T2 λh=>by cases h) λhc=>?_;simp only[Ku,CR,QU]at hc;obtain⟨h1,h2⟩:=hf hc.1;refine T0 (QvN h1.2.1 h2).self λm hm=>?_;obtain⟨O,hm1,hm2⟩:=hm;refine T0 (Qyq n m _ hn ⟨by unfold maxLen;omega,λb hb=>⟨by have:=hm2 b hb;unfold maxLen;omega,λ_ _=>trivial⟩⟩) λr hr2=>?_;refine T2 λe=>?_;obtain⟨g1,g2,g3,_⟩:=hr2 e;have ef:Qem n=m:=by unfold Qem;rw[O];rfl
 exact⟨g1,g2,by omega,by rw[ef];exact g3,by rw[ef];exact O,by omega⟩
def Qxl (hp:n.Places.length<=70)(hf:∀p∈n.Places,p.First.length<=400):SP n=Gs n:=by
 have mx:(70:Nat)<=maxLen:=by decide
 have he:SP n=(Qq (λst=>Mc n st.1 st.2) (0,([]:L_ Bag))).bind λq=>C q:=rfl;have he2:Gs n=(Qq (λst=>Gc n st.1 st.2) (0,([]:L_ Bag))).bind λq=>C q:=rfl;rw[he,he2];congr 1;refine QbF n.Places.length (λi s=>s.1=(i:Int)) (λi s O=>?_) (λi s s' O h=>?_) _ rfl
 ·obtain⟨x,l⟩:=s;replace O:x=(i:Int):=O;subst O;show Mc n i l=Gc n i l;unfold Mc Gc;by_cases c:(i:Int)<(n.Places.length:Int)
  ·have i1:i<n.Places.length:=by omega
   have hpl:=hf _ (Xc i1);rw[Ql c,Qr,Qr,QG,Qv i1,Qa,Qa];unfold JI;rw[Yv (by simp;omega),Yv (by simp;omega)];simp only[Qa,FR];rw[show Th ([0]:LI_)=C [(0,1)]from ZE 0,Qa,QnB (by simp;omega)];rfl
  rw[Qn c];rfl
 obtain⟨x,l⟩:=s;replace O:x=(i:Int):=O;subst O;replace h:Gc n i l=C (.inl s'):=h;unfold Gc at h;rcases Xy h with⟨c,h⟩|⟨_,h⟩
 ·simp only[Qw]at c;have i1:i<n.Places.length:=by omega
  have k1:∀{b},Gb l i b=C (.inl s')->i<n.Places.length/\s'.1=((i+1:Nat):Int):=λhk=>by
   unfold Gb at hk;obtain⟨_,_,hk⟩:=QI hk;cases hk;exact⟨i1,Qo i1 (by omega)⟩
  obtain⟨e,_,h⟩:=QI h;obtain⟨v,_,h⟩:=QI h;rcases Xy h with⟨_,h⟩|⟨_,h⟩
  ·obtain⟨_,_,h⟩:=QI h;obtain⟨_,_,h⟩:=QI h;rcases Xy h with⟨_,h⟩|⟨_,h⟩
   ·exact k1 h
   exact k1 h
  exact k1 h
 cases h
def QvO {b:Int}(hn:Xu n)(hr:Rch n)(h:An n b=C t_):n.Places.length<=70/\∀p∈n.Places,p.First.length<=400:=by
 obtain⟨f,f1,O⟩:=Qry hn hr;unfold An at h;rw[f1,Qa]at h;cases f with
 |false=>cases h
 |true=>exact⟨(O rfl).1.2.1,(O rfl).2⟩
def Qt6 (n:Qc)(l:L_ Xt)(hn:Xu n)(hR:RN n)(hr:Rch n)(hl:l.length<=maxLen):Un n l=C t_:=by
 obtain⟨f,hf,hf2⟩:=Qyx n 12 hn hr;obtain⟨g,hg,hg2⟩:=Qzp n l hl;unfold Un;rw[Qzo,Qa,hf,Qa,hg,Qa];cases hc:((!f)||((!g)||decide (6<(l.length:Int))))with
 |true=>rfl|false=>
  simp only[Ku,CR]at hc;obtain⟨c1,c2,_⟩:=hc;subst c1;have O:=hf2 rfl;obtain⟨hl2,hk⟩:=hg2 c2;obtain⟨p1,p2⟩:=QvO hn hr hf;obtain⟨S,hS⟩:∃S,Oi n 12 12=C S:=by
   unfold Oi;rw[O.first,Qa,Qxk 12 12 O.net O.bd O.good (by omega),if_neg (by omega)];exact⟨_,rfl⟩
  rw[Qe,hS,Qa];cases S.Full with
  |false=>rfl|true=>
   have hc0:Kb n ⟨Qem n,[],1,0⟩:=⟨O.good,⟨by show(1:Int)<=1;omega,by show(1:Int)<=_;omega⟩,⟨by show(0:Int)<=0;omega,by show(0:Int)<=_;omega⟩,rfl,by show 0<=64;omega,λx hx=>by cases hx⟩;have H:EOk n:=⟨O.net,λt ht=>(Qyi (QwR n 12 hn hf t ht)).1,λm o hg ho _=>⟨_,QnE o 64 O.net O.bd hg ho⟩⟩;have hN:OM n=C ⟨Qem n,[],1,0⟩:=by unfold OM;rw[O.first];rfl
   have hN2:Qa7 n=C ⟨Qem n,[],1,0⟩:=by unfold Qa7;rw[Qxl p1 p2,O.first];rfl
   obtain⟨c,out,h1,h2,h3,h4,h5⟩:=Qyn H hR (λ{c k} hc hk=>by rw[Qxi k.Mode 64 O.net hR O.bd O.pl hc.g hk,QnE k.Mode 64 O.net O.bd hc.g hk]) hc0 hl2 hk;have mx:(64:Nat)<=maxLen:=by decide
   rw[Jq,Qe,hN,Qa,h1,Qa,hN2,Qa,h2,Qa];unfold Su;simp only[Qr];rw[QwS (Qzq H.h h3),Qa,Qr,Qtt (by omega) λa ha=>by have:=h5 a ha;omega];rfl
end Go.Proofs
