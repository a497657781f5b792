/- A part of the proof. -/
import Derived.Test.YtholdcjomliiiaaGreatDoorW2P1
import Derived.Test.YtholdcjomliiiaaGreatDoorW2P1
import Derived.Test.YtholdcjomliiiaaGreatDoorW2P1
import Derived.Test.YtholdcjomliiiaaGreatDoorW2P1
import Derived.KernelRfl
import Derived.Test.YtholdcjomliiiaaGreatDoorW2T2
import Derived.Test.YtholdcjomliiiaaGreatDoorW2XPlA
set_option linter.all false
noncomputable section
namespace Go.Proofs
open Go Go.RowKit Go.Vm
open Option renaming some→C
open Bool renaming true→t_,false→f_
variable {i c j k:Nat}{n:Qc}{o:Qd}{m:L_ QBg}{O next:Int}{x:Qm}{l:L_ (O_ Nat)}{p:Prop}{t:L_ Qk}{e:Qk}
abbrev Bag := QBg
def Qve (how:Bag->Bag->O_ (Bag×Int))(a b r:L_ Bag):Prop:=∀(j:Nat) x y,a[j]? = C x->b[j]? = C y->∃z,r[j]? = C z/\how x y=C (z,0)
def Can (how:Bag->Bag->O_ (Bag×Int))(a b:L_ Bag):Prop:=∀(j:Nat) x y,a[j]? = C x->b[j]? = C y->∃z,how x y=C (z,0)
def Wy {α:Type}{l:L_ α}(h:i<l.length):l[i]? = C l[i]:=Qv h
def Qwz {a b r:Bag}(h:a.length+b.length<=4294967296)(e:JV a b=C (r,0)):Rt a/\Rt b/\Rt r/\∀k,QJ r k=QJ a k+QJ b k:=by
 rcases Au a b h with⟨_,e'⟩|⟨_,_,_,e'⟩|⟨O,h2,r',e',h3,h4,_⟩
 ·rw[e]at e';cases e'
 ·rw[e]at e';cases e'
 rw[e]at e';cases e';exact⟨O,h2,h3,h4⟩
def Qug {a b r:Bag}(h:a.length+b.length<=4294967296)(e:JS a b=C (r,0)):Rt a/\Rt b/\Rt r/\(∀k,QJ b k<=QJ a k)/\∀k,QJ r k=QJ a k-QJ b k:=by
 rcases FN a b h with⟨_,e'⟩|⟨_,_,_,e'⟩|⟨O,h2,h5,r',e',h3,h4,_⟩
 ·rw[e]at e';cases e'
 ·rw[e]at e';cases e'
 rw[e]at e';cases e';exact⟨O,h2,h3,h5,h4⟩
def Qx3 {a b:Bag}(h:a.length+b.length<=4294967296)(ha:Rt a)(hb:Rt b)(hk:∀k,QJ b k<=QJ a k):∃r,JS a b=C (r,0):=by
 rcases FN a b h with⟨O,e'⟩|⟨_,_,⟨k,O⟩,e'⟩|⟨O,h2,_,r',e',h3,h4,_⟩
 ·exact absurd ⟨ha,hb⟩ O
 ·have:=hk k;omega
 exact⟨r',e'⟩
def Qfw {m:L_ Bag}(h:KF n c m)(O:j<n.Places.length):∃b,m[j]? = C b/\Rt b/\b.length<=c:=by
 have:j<m.length:=by have:=h.1;omega
 exact⟨m[j],Wy this,h.2 _ (Xc this)⟩
def QyF {m:L_ Bag}(O:KF n c m){b:Bag}(h:m[j]? = C b):j<n.Places.length/\Rt b/\b.length<=c:=by
 obtain⟨h1,rfl⟩:=Xf.1 h;exact⟨by have:=O.1;omega,O.2 _ (Xc h1)⟩
def Qgf (n:Qc)(a b:L_ Bag)(c d:Nat)(h:QT n)(ha:KF n c a)(hb:KF n d b)(hcd:c+d<=1000000):Qg (Jd a b) λr=>(r.2=0->r.1.length=n.Places.length/\Qve JS a b r.1)/\(Can JS a b->r.2=0):=by
 have hpl:=h.pl;have ha1:=ha.1;have hb1:=hb.1;have hmin:min2 (a.length:Int) (b.length:Int)=(n.Places.length:Int):=by unfold min2;split<;>omega
 unfold Jd;rw[hmin];refine T0 (T5 (by simp only[QN,Qw];omega)) λ_ _=>?_;refine T0 (Qg.up n.Places.length (λst=>st.1) (λst=>st.2.length=n.Places.length/\∀(j:Nat) x y,(j:Int)<st.1->a[j]? = C x->b[j]? = C y->∃z,st.2[j]? = C z/\JS x y=C (z,0)) (Q:=λq:Int⊕L_ Bag=>(∀x,q=.inl x->x≠0/\¬Can JS a b)/\∀m,q=.inr m->m.length=n.Places.length/\Qve JS a b m) rfl ⟨by simp,λj x y hj=>by omega⟩ (λi st hi hn hJ=>?_)) (λq hq=>?_)
 ·obtain⟨x,m⟩:=st;replace hi:x=(i:Int):=hi;obtain⟨hJ1,hJ2⟩:m.length=n.Places.length/\∀(j:Nat) u v,(j:Int)<x->a[j]? = C u->b[j]? = C v->∃z,m[j]? = C z/\JS u v=C (z,0):=hJ;show Qg (JT a b x m) _;unfold JT;rw[hmin];refine T1 (λhc=>?_) (λhc=>T2 (Qp ⟨λx e=>(by cases e),λm' e=>(by cases e;exact⟨hJ1,λj u v hu hv=>hJ2 j u v (by
   simp only[QU,Qcu]at hc;have:=(Xf.1 hu).1;omega) hu hv⟩)⟩))
  simp only[Qw,Qcu]at hc;have i1:i<a.length:=by omega
  have i2:i<b.length:=by omega
  rw[hi,QG,Wy i1,Qa,QG,Wy i2,Qa];have hu2:=ha.2 _ (Xc i1);have hv2:=hb.2 _ (Xc i2);have key:∃s,JS a[i] b[i]=C s:=by
   rcases FN a[i] b[i] (by omega)with⟨_,e⟩|⟨_,_,_,e⟩|⟨_,_,_,r,e,h1,_,h2⟩
   ·exact⟨_,e⟩
   ·exact⟨_,e⟩
   exact⟨_,e⟩
  obtain⟨s,es⟩:=key;rw[es,Qa];refine T0 (T4 (by omega) (by omega)) λ_ _=>?_;refine T1 (λO=>T2 (Qp ⟨λx e=>(by cases e;exact⟨by simpa using O,λhcan=>by
   obtain⟨z,hz⟩:=hcan i _ _ (Wy i1) (Wy i2);rw[es]at hz;cases hz;simp at O⟩),λm' e=>(by cases e)⟩)) λO=>?_
  simp only[KA]at O;refine T2 (QH ⟨by omega,Qo (by omega) (by unfold maxLen;omega:n.Places.length<=maxLen),by simpa using hJ1,λj u v hj hu hv=>?_⟩);have hj:(j:Int)<Qh ((i:Int)+1):=hj;rw[Qo (show i<n.Places.length by omega) (by unfold maxLen;omega)]at hj;show ∃z,(m.set (i:Int).toNat s.1)[j]? = C z/\_;by_cases cj:j=i
  ·subst cj;rw[Wy i1]at hu;rw[Wy i2]at hv;cases hu;cases hv;refine⟨s.1,by rw[show((j:Int)).toNat=j from XM j];exact Vn (by omega),?_⟩;rw[es,<-O]
  obtain⟨z,h1,h2⟩:=hJ2 j u v (by omega) hu hv;exact⟨z,by rw[Vl (by simp;omega)];exact h1,h2⟩
 rcases q with q|q
 ·have:=hq.1 q rfl;exact T2 ⟨λh=>absurd h this.1,λh=>absurd h this.2⟩
 exact T2 ⟨λ_=>hq.2 q rfl,λ_=>rfl⟩
def QjX (n:Qc)(a b:L_ Bag)(c d:Nat)(h:QT n)(ha:KF n c a)(hb:KF n d b)(hcd:c+d<=1000000):Qg (Ws a b) λr=>(r.2=0->r.1.length=n.Places.length/\Qve JV a b r.1)/\(Can JV a b->r.2=0):=by
 have hpl:=h.pl;have ha1:=ha.1;have hb1:=hb.1;have hmin:min2 (a.length:Int) (b.length:Int)=(n.Places.length:Int):=by unfold min2;split<;>omega
 unfold Ws;rw[hmin];refine T0 (T5 (by simp only[QN,Qw];omega)) λ_ _=>?_;refine T0 (Qg.up n.Places.length (λst=>st.1) (λst=>st.2.length=n.Places.length/\∀(j:Nat) x y,(j:Int)<st.1->a[j]? = C x->b[j]? = C y->∃z,st.2[j]? = C z/\JV x y=C (z,0)) (Q:=λq:Int⊕L_ Bag=>(∀x,q=.inl x->x≠0/\¬Can JV a b)/\∀m,q=.inr m->m.length=n.Places.length/\Qve JV a b m) rfl ⟨by simp,λj x y hj=>by omega⟩ (λi st hi hn hJ=>?_)) (λq hq=>?_)
 ·obtain⟨x,m⟩:=st;replace hi:x=(i:Int):=hi;obtain⟨hJ1,hJ2⟩:m.length=n.Places.length/\∀(j:Nat) u v,(j:Int)<x->a[j]? = C u->b[j]? = C v->∃z,m[j]? = C z/\JV u v=C (z,0):=hJ;show Qg (Wh a b x m) _;unfold Wh;rw[hmin];refine T1 (λhc=>?_) (λhc=>T2 (Qp ⟨λx e=>(by cases e),λm' e=>(by cases e;exact⟨hJ1,λj u v hu hv=>hJ2 j u v (by
   simp only[QU,Qcu]at hc;have:=(Xf.1 hu).1;omega) hu hv⟩)⟩))
  simp only[Qw,Qcu]at hc;have i1:i<a.length:=by omega
  have i2:i<b.length:=by omega
  rw[hi,QG,Wy i1,Qa,QG,Wy i2,Qa];have hu2:=ha.2 _ (Xc i1);have hv2:=hb.2 _ (Xc i2);have key:∃s,JV a[i] b[i]=C s:=by
   rcases Au a[i] b[i] (by omega)with⟨_,e⟩|⟨_,_,_,e⟩|⟨_,_,r,e,h1,_,h2⟩
   ·exact⟨_,e⟩
   ·exact⟨_,e⟩
   exact⟨_,e⟩
  obtain⟨s,es⟩:=key;rw[es,Qa];refine T0 (T4 (by omega) (by omega)) λ_ _=>?_;refine T1 (λO=>T2 (Qp ⟨λx e=>(by cases e;exact⟨by simpa using O,λhcan=>by
   obtain⟨z,hz⟩:=hcan i _ _ (Wy i1) (Wy i2);rw[es]at hz;cases hz;simp at O⟩),λm' e=>(by cases e)⟩)) λO=>?_
  simp only[KA]at O;refine T2 (QH ⟨by omega,Qo (by omega) (by unfold maxLen;omega:n.Places.length<=maxLen),by simpa using hJ1,λj u v hj hu hv=>?_⟩);have hj:(j:Int)<Qh ((i:Int)+1):=hj;rw[Qo (show i<n.Places.length by omega) (by unfold maxLen;omega)]at hj;show ∃z,(m.set (i:Int).toNat s.1)[j]? = C z/\_;by_cases cj:j=i
  ·subst cj;rw[Wy i1]at hu;rw[Wy i2]at hv;cases hu;cases hv;refine⟨s.1,by rw[show((j:Int)).toNat=j from XM j];exact Vn (by omega),?_⟩;rw[es,<-O]
  obtain⟨z,h1,h2⟩:=hJ2 j u v (by omega) hu hv;exact⟨z,by rw[Vl (by simp;omega)];exact h1,h2⟩
 rcases q with q|q
 ·have:=hq.1 q rfl;exact T2 ⟨λh=>absurd h this.1,λh=>absurd h this.2⟩
 exact T2 ⟨λ_=>hq.2 q rfl,λ_=>rfl⟩
def Qpp {m t:L_ Bag}(h:KV n m o=C (t,0)):Yb n m o=C 0/\∃O,Yr n o=C (O,0)/\Jd m O=C (t,0):=by
 unfold KV at h;obtain⟨x,hx,h⟩:=QI h;rcases Xy h with⟨c,h⟩|⟨c,h⟩
 ·simp only[Option.some.injEq,Prod.mk.injEq]at h;rw[h.2]at c;cases c
 simp only[KA]at c;subst c;obtain⟨y,hy,h⟩:=QI h;obtain⟨y1,y2⟩:=y;rcases Xy h with⟨c,h⟩|⟨c,h⟩
 ·simp only[Option.some.injEq,Prod.mk.injEq]at h;simp only[h.2]at c;cases c
 simp only[KA]at c;subst c;obtain⟨z,hz,h⟩:=QI h;obtain⟨z1,z2⟩:=z;simp only[Option.some.injEq,Prod.mk.injEq]at h;obtain⟨rfl,rfl⟩:=h;exact⟨hx,y1,hy,hz⟩
def Qy6 {m t h:L_ Bag}(O:Yb n m o=C 0)(h2:Yr n o=C (h,0))(h3:Jd m h=C (t,0)):KV n m o=C (t,0):=by
 unfold KV;rw[O,Qa];simp only[show((0:Int) != 0)=f_ from rfl,Qe];rw[h2,Qa];simp only[show((0:Int) != 0)=f_ from rfl,Qe];rw[h3];rfl
def Qx4 {m x:L_ Bag}(h:YP n m o=C (x,0)):∃t,KV n m o=C (t,0)/\WC n t o=C (x,0):=by
 unfold YP at h;obtain⟨y,O,h⟩:=QI h;obtain⟨y1,y2⟩:=y;rcases Xy h with⟨c,h⟩|⟨c,h⟩
 ·simp only[Option.some.injEq,Prod.mk.injEq]at h;simp only[h.2]at c;cases c
 simp only[KA]at c;subst c;obtain⟨z,hz,h⟩:=QI h;obtain⟨z1,z2⟩:=z;simp only[Option.some.injEq,Prod.mk.injEq]at h;obtain⟨rfl,rfl⟩:=h;exact⟨y1,O,hz⟩
def Qr5 {m:L_ Bag}(h:QT n)(hm:KF n c m)(hc:c<=1000000)(hl:MX n m):Cp n m=C t_:=by
 have hpl:=h.pl;have hm1:=hm.1;unfold Cp;rw[show((m.length:Int) != (n.Places.length:Int))=f_ by simp;omega,Qe];obtain⟨r,h1,h2⟩:=(Qg.up (body:=λst=>AB m n st) m.length (λst=>st) (λ_=>True) (Q:=λq:Unit⊕Unit=>q=.inr ()) (s0:=(0:Int)) rfl trivial (λi st hi hn hJ=>by
  show Qg (AB m n st) _;unfold AB;refine T1 (λhc=>?_) (λ_=>T2 (Qp rfl));simp only[Qw]at hc;have i1:i<m.length:=by omega
  have i2:i<n.Places.length:=by omega
  rw[hi,QG,Wy i1,Qa,QG,Wy i2,Qa];refine T0 (KW n.Colours (n.Places[i]).Colour h.k.1).self λsz hsz=>?_;have hb:=hm.2 _ (Xc i1);have hbl:=hb.2;refine T0 (P:=λr=>r=f_) ?_ λx hx=>?_
  ·unfold Vy;rw[ZD _ (by unfold maxLen;omega),Qa,Jo.2 hb.1];simp only[Jq,Qe];refine T1 (λh0=>?_) (λ_=>T2 rfl);simp only[Qw]at h0;have O:(m[i]).length-1<(m[i]).length:=by omega
   rw[Xb (by omega),show((m[i]).length:Int)-1=(((m[i]).length-1:Nat):Int) by omega,QG,Wy O,Qa];refine T2 ?_;have hcn:=Eh hb.1.1.nd (Xc O);have hpos:=hb.1.2 _ (Xc O);obtain⟨z,hz1,hz2⟩:=hl i _ _ (Wy i1) (Wy i2) _ (by rw[hcn];omega);rw[hsz.1]at hz1;cases hz1;exact Qn (by omega)
  subst hx;unfold Vz;exact T2 (QH ⟨i1,Qo i1 (by unfold maxLen;omega),trivial⟩)))
 rw[h1,h2];rfl
def QbV : Bag->Int
 |[]=>0|p::l=>p.2+QbV l
def QwA {l m:Bag}(h:l.Perm m):QbV l=QbV m:=by
 induction h with|nil=>rfl|cons p _ ih=>simp only[QbV,ih]|swap p q l=>simp only[QbV];omega|trans _ _ O ih2=>rw[O,ih2]
def Qs3 (b:Bag)(hr:Rt b)(h:b.length<=maxLen):Nf b=C (Qh (QbV b)):=by
 unfold Nf;rw[Qfu b h,Jo.2 hr];show Qan b=_;unfold Qan;have O:∀(l:Bag) (s:Int),GM (λst (p:Int×Int)=>UA st p.1 p.2) (Qh s) l=C (.inl (Qh (s+QbV l))):=by
  intro l
  induction l with
  |nil=>intro s;simp[GM,QbV]|cons p l ih=>
   intro s;simp only[GM];rw[show UA (Qh s) p.1 p.2=C (.inl (Qh (s+p.2)))from by unfold UA;rw[Qki]];simp only[Qa,Sum.elim_inl];rw[ih,QbV,Int.add_assoc]
 have h0:MF (λst (p:Int×Int)=>UA st p.1 p.2) (0:Int) b=C (.inl (Qh (QbV b))):=by
  have e0:(0:Int)=Qh 0:=by decide
  rw[e0];refine Pv.2 ⟨λl' hp=>?_,by rw[O];simp⟩;rw[O,O,QwA hp]
 rw[h0];rfl
def tS (m:L_ Bag):Nat->Int
 |0=>0|i+1=>tS m i+QbV (m.getD i [])
def Qii {m:L_ Bag}(h:QT n)(hm:KF n c m)(hc:c<=1000000):OX m=C (Qh (tS m m.length)):=by
 have hpl:=h.pl;have hm1:=hm.1;unfold OX;obtain⟨r,h1,h2⟩:=(Qg.up (body:=λst=>Od m st.1 st.2) m.length (λst=>st.2) (λst=>st.1=Qh (tS m st.2.toNat)) (Q:=λq=>q=Qh (tS m m.length)) (s0:=((0:Int),(0:Int))) rfl (by show(0:Int)=Qh 0;decide) (λi st hi hn hJ=>by
  obtain⟨a,x⟩:=st;replace hi:x=(i:Int):=hi;replace hJ:a=Qh (tS m x.toNat):=hJ;subst hi;show Qg (Od m a i) _;unfold Od;refine T1 (λhc=>?_) (λhc=>T2 (Qp ?_))
  ·simp only[Qw]at hc;have O:i<m.length:=by omega
   have hb:=hm.2 _ (Xc O);rw[QG,Wy O,Qa,Qs3 _ hb.1 (by have:=hb.2;unfold maxLen;omega),Qa];have hw:Qh ((i:Int)+1)=((i+1:Nat):Int):=Qo O (by unfold maxLen;omega);refine T2 (QH ⟨O,hw,?_⟩);show Qh (a+Qh (QbV m[i]))=Qh (tS m (Qh ((i:Int)+1)).toNat);rw[hw,hJ,Qki,Int.add_comm,Qki,XM,XM,tS,Sy,Wy O,Int.add_comm];rfl
  simp only[QU]at hc;rw[hJ,show(i:Int).toNat=m.length by omega]))
 rw[h1,h2];rfl
def Qs4 (n:Qc)(m:L_ Bag)(o:Qd)(c:Nat)(h:QT n)(hm:KF n c m)(hl:MX n m)(hc:c<=900000)(ho:Xv n o):Qg (WC n m o) λr=>r.2=0->MX n r.1:=by
 have hpl:=h.pl;have hm1:=hm.1;unfold WC;refine T0 (Qkm n o h ho) λy hy=>?_;refine T1 (λhc=>T2 λh=>absurd h (by simpa using hc)) λhc2=>?_;obtain⟨⟨hy,hyl⟩,h1,h2⟩:=hy (by simpa using hc2);rw[Lk m (by omega) (λb O=>by have:=(hm.2 b O).2;omega),Qa];refine T0 (T4 h1 h2) λe he=>?_;have hcl:=(h.tk e he).2.2.2;refine T0 (Qg.up e.Cancel.length (λst=>st.1) (λst=>KF n c st.2/\MX n st.2) (Q:=λq=>KF n c q/\MX n q) rfl ⟨hm,hl⟩ (λi st hi hn hJ=>?_)) (λq hq=>?_)
 ·obtain⟨x,l⟩:=st;replace hi:x=(i:Int):=hi;replace hJ:KF n c l/\MX n l:=hJ;show Qg (JJ e x l) _;unfold JJ;refine T1 (λhc=>?_) (λ_=>T2 (Qp hJ));simp only[Qw]at hc;refine T0 (T4 (by omega) (by omega)) λk _=>?_;have next:∀l,KF n c l/\MX n l->Qg (Ed x l) λo=>(∀s',o=.inl s'->i<e.Cancel.length/\s'.1=((i+1:Nat):Int)/\KF n c s'.2/\MX n s'.2)/\∀r:L_ QBg,o=.inr r->KF n c r/\MX n r:=λl hl=>by
   unfold Ed;exact T2 (QH (ix:=λst:Int×L_ QBg=>st.1) (J:=λst:Int×L_ QBg=>KF n c st.2/\MX n st.2) ⟨by omega,by subst hi;exact Qo (by omega) (by unfold maxLen;omega:e.Cancel.length<=maxLen),hl⟩)
  refine T1 (λhc3=>?_) λ_=>next l hJ;simp only[QN,Qw]at hc3;refine T0 (T4 hc3.1 hc3.2) λ_ _=>?_;refine next _ ⟨⟨by simpa using hJ.1.1,λb O=>?_⟩,λj b p O hp k' hk=>?_⟩
  ·rcases QaG O with rfl|O
   ·exact⟨Rt.nil,by simp⟩
   exact hJ.1.2 b O
  by_cases cj:k.toNat=j
  ·subst cj;rw[Vn (by omega)]at O;cases O;simp[QJ,Xg]at hk
  rw[Vl cj]at O;exact hJ.2 j b p O hp k' hk
 show Qg (Uz y q) _;unfold Uz;refine T0 (QjX n q y.1 c 20 h hq.1 hy (by omega)) λz hz=>T2 λhz0=>?_;obtain⟨zl,ze⟩:=hz.1 hz0;intro j b p O hp k hk;have hj:j<n.Places.length:=(Xf.1 hp).1;obtain⟨u,hu,hu1,hu2⟩:=Qfw hq.1 hj;obtain⟨v,hv,hv1,hv2⟩:=Qfw hy hj;obtain⟨s,hs1,hs2⟩:=ze j u v hu hv;have hs1:z.1[j]? = C s:=hs1;have O:z.1[j]? = C b:=O;rw[O]at hs1;cases hs1;have q:=(Qwz (by omega) hs2).2.2.2 k;by_cases c0:0<QJ u k
 ·exact hq.2 j u p hu hp k c0
 exact hyl j v p hv hp k (by omega)
def Yd (n:Qc)(t:QL):LI_:=t.Vars.map λv=>(Jg n.Colours v.Colour).getD 0
def Ll (b:Xr)(r:LI_):Bool:=decide (Ym b r=C 0)
def GB (n:Qc)(m:L_ QBg)(h:Int)(O outs:L_ LI_)(p:LI_):L_ Qd:=match YY n m h p with
 |some (c,b)=>if c=0/\XR b=C 0 then O.flatMap λe=>if XD b e=C 0 then(outs.filter (Ll b)).map λo=>Qd.mk h p e o else []else []
 |none=>[]
def ne0 (g:Int):(g != 0)=!decide (C g=C (0:Int)):=by by_cases h:g=0<;>simp[h]
def Qq6 (t:QL)(n:Qc)(l:LI_)(h:Xu n)(hl:l.length=t.Vars.length)(hv:t.Vars.length<=16)(hd:∀d∈l,0<=d/\d<=1024):
  Qg (Qq (λst=>Wi t n st.1 st.2) ((Qh ((l.length:Int)-1)),l)) λq=>(-1<=q.1/\q.1<l.length/\q.2=l.take (q.1+1).toNat++List.replicate (l.length-(q.1+1).toNat) 0)/\(∀(j:Nat) x s,q.1<(j:Int)->l[j]? = C x->(Yd n t)[j]? = C s->¬x+1<s)/\∀x s,0<=q.1->l[q.1.toNat]? = C x->(Yd n t)[q.1.toNat]? = C s->x+1<s/\x<1024:=by
 have hw:Qh ((l.length:Int)-1)=(l.length:Int)-1:=Xb (by omega);refine Qg.up l.length (λst=>(l.length:Int)-1-st.1) (λst=>st.2=l.take (st.1+1).toNat++List.replicate (l.length-(st.1+1).toNat) 0/\∀(j:Nat) x s,st.1<(j:Int)->l[j]? = C x->(Yd n t)[j]? = C s->¬x+1<s) (by rw[hw];omega) ⟨by
  rw[hw];show l=_;rw[show((l.length:Int)-1+1).toNat=l.length by omega,Uf,Nat.sub_self];simp,λj x s hj hx=>by
  replace hj:Qh ((l.length:Int)-1)<(j:Int):=hj;have:=(Xf.1 hx).1;omega⟩ (λi st hi hn hJ=>?_)
 obtain⟨a,d⟩:=st;replace hi:(l.length:Int)-1-a=i:=hi;obtain⟨hJ,hJ2⟩:d=l.take (a+1).toNat++List.replicate (l.length-(a+1).toNat) 0/\∀(j:Nat) x s,a<(j:Int)->l[j]? = C x->(Yd n t)[j]? = C s->¬x+1<s:=hJ;have hdl:d.length=l.length:=by rw[hJ];simp;omega
 show Qg (Wi t n a d) _;unfold Wi;refine T0 (P:=λx=>(x=t_->0<=a/\∀e s,l[a.toNat]? = C e->(Yd n t)[a.toNat]? = C s->¬e+1<s)/\(x=f_->∀e s,0<=a->l[a.toNat]? = C e->(Yd n t)[a.toNat]? = C s->e+1<s/\e<1024)) ?_ λx hx=>?_
 ·unfold LK;refine T1 (λO=>?_) λO=>T2 ⟨λh=>(by cases h),λ_ e s he=>?_⟩
  ·simp only[Qw]at O;have hlt:a.toNat<l.length:=by omega
   have hlv:a.toNat<t.Vars.length:=by omega
   have ed:idx d a=C l[a.toNat]:=by
    rw[DO O,hJ,Jh (by simp;omega),Kd,if_pos (by omega),Qv hlt]
   have ev:idx t.Vars a=C t.Vars[a.toNat]:=by rw[DO O,Qv hlv]
   rw[ed,Qa,ev,Qa];refine T0 (KW _ _ h.1).self λz hz=>?_;obtain⟨hze,hz⟩:=hz;have hsz:(Yd n t)[a.toNat]? = C z:=by
    unfold Yd;rw[Yj,Qv hlv,Gq,hze];rfl
   have h2:=hd _ (Xc hlt);rw[Xb (by omega)];refine T2 ⟨λht=>⟨O,λe s he hs=>?_⟩,λhf e s _ he hs=>?_⟩
   ·rw[Qv hlt]at he;cases he;rw[hsz]at hs;cases hs;simp only[Qw]at ht;omega
   rw[Qv hlt]at he;cases he;rw[hsz]at hs;cases hs;simp only[QU]at hf;omega
  simp only[QU]at O;omega
 unfold VS;refine T1 (λO=>?_) λO=>?_
 ·obtain⟨ha,ha2⟩:=hx.1 O;refine T0 (T4 ha (by omega)) λ_ _=>?_;have hw2:Qh (a-1)=a-1:=Xb (by omega);refine T2 (QH ⟨by omega,?_,?_,λj x s hj hx hs=>?_⟩)
  ·show(l.length:Int)-1-Qh (a-1)=_;rw[hw2];omega
  ·show d.set a.toNat 0=l.take (Qh (a-1)+1).toNat++List.replicate (l.length-(Qh (a-1)+1).toNat) 0;rw[hw2,hJ,show(a+1).toNat=a.toNat+1 by omega,Qnt (by omega),show(a-1+1).toNat=a.toNat by omega];rw[show l.length-a.toNat=(l.length-(a.toNat+1))+1 by omega,List.replicate_succ]
  replace hj:Qh (a-1)<(j:Int):=hj;rw[hw2]at hj;by_cases c:a<(j:Int)
  ·exact hJ2 j x s c hx hs
  have:a.toNat=j:=by omega
  subst this;exact ha2 x s hx hs
 exact T2 (Qp ⟨⟨by omega,by omega,hJ⟩,hJ2,hx.2 O⟩)
def QtT (n:Qc)(m:L_ QBg)(b:Xr)(l:L_ LI_)(h:QT n)(hb:BOk n m b)(hl:Po l):Qg (Db l b) λr=>(r=-1/\∀row∈l,Ll b row=t_)\/∃i:Nat,r=(i:Int)/\i<l.length/\(∀row∈l.take i,Ll b row=t_)/\∀row,l[i]? = C row->Ll b row=f_:=by
 have hl1:=hl.1;unfold Db;refine T0 (Qg.up l.length (λst=>st) (λst=>∀row∈l.take st.toNat,Ll b row=t_) (Q:=λq:Int⊕Unit=>(∀x,q=.inl x->∃i:Nat,x=(i:Int)/\i<l.length/\(∀row∈l.take i,Ll b row=t_)/\∀row,l[i]? = C row->Ll b row=f_)/\(q=.inr ()->∀row∈l,Ll b row=t_)) rfl (λrow h=>by cases h) (λi st hi hn hJ=>?_)) (λq hq=>?_)
 ·replace hi:st=(i:Int):=hi;subst hi;replace hJ:∀row∈l.take (i:Int).toNat,Ll b row=t_:=hJ;rw[XM]at hJ;show Qg (GP l b i) _;unfold GP IH;refine T1 (λhc=>?_) (λhc=>T2 (Qp ⟨λx h=>(by cases h),λ_=>?_⟩))
  ·simp only[Qw]at hc;have O:i<l.length:=by omega
   rw[QG,Qv O,Qa];have:=hl.2 _ (Xc O);refine T0 (P:=λc:Bool=>c=!Ll b l[i]) ?_ λc hcc=>?_
   ·refine T0 (QqH n m b l[i] h hb (by omega)).self λg hg=>T2 ?_;unfold Ll;rw[hg.1];exact ne0 g
   subst hcc;refine T1 (λhc2=>T2 (Qp ⟨λx e=>(by cases e;exact⟨i,rfl,O,hJ,λrow hr=>by rw[Qv O]at hr;cases hr;simpa using hc2⟩),λe=>by cases e⟩)) λhc2=>?_;have hw:Qh ((i:Int)+1)=((i+1:Nat):Int):=Qo O (by unfold maxLen;omega:l.length<=maxLen);refine T2 (QH ⟨O,hw,?_⟩);show ∀row∈l.take (Qh ((i:Int)+1)).toNat,Ll b row=t_;rw[hw,XM,JY,Qv O];intro row hr;rcases YT.1 hr with hr|hr
   ·exact hJ row hr
   simp at hr;subst hr;simpa using hc2
  simp only[QU]at hc;rwa[YV (by omega)]at hJ
 rcases q with q|q
 ·exact T2 (.inr (hq.1 q rfl))
 exact T2 (.inl ⟨rfl,hq.2 rfl⟩)
def QtU (n:Qc)(m:L_ QBg)(b:Xr)(l:L_ LI_)(h:QT n)(hb:BOk n m b)(hl:Po l):Qg (WN l b) λr=>r=l.filter (Ll b):=by
 have hl1:=hl.1;unfold WN;refine T0 (QtT n m b l h hb hl) λx hx=>?_;rcases hx with⟨rfl,hx⟩|⟨O,rfl,hi0,hx1,hx2⟩
 ·exact T1 (λ_=>T2 (List.filter_eq_self.2 hx).symm) λhc=>by simp at hc
 refine T1 (λhc=>by simp at hc) λ_=>?_;have hw:Qh ((O:Int)+1)=(O:Int)+1:=Xb (by omega);have hbad:=hx2 _ (Qv hi0);refine T0 (Qg.up (l.length-(O+1)) (λst=>st.2.1-((O:Int)+1)) (λst=>0<=st.1/\st.1<st.2.1/\st.2.2.length=l.length/\st.2.2.take st.1.toNat=(l.take st.2.1.toNat).filter (Ll b)/\st.2.2.drop st.2.1.toNat=l.drop st.2.1.toNat) (Q:=λq:Int×L_ LI_=>0<=q.1/\q.1<=(l.length:Int)/\q.2.length=l.length/\q.2.take q.1.toNat=l.filter (Ll b)) (by show Qh ((O:Int)+1)-((O:Int)+1)=0;omega) ⟨by show(0:Int)<=O;omega,by show(O:Int)<Qh ((O:Int)+1);omega,rfl,?_,rfl⟩ (λi st hi hn hJ=>?_)) (λq hq=>?_)
 ·show l.take (O:Int).toNat=(l.take (Qh ((O:Int)+1)).toNat).filter (Ll b);rw[hw,XM,show((O:Int)+1).toNat=O+1 by omega,JY,Qv hi0,QaT,List.filter_eq_self.2 hx1];show l.take O=l.take O++List.filter (Ll b) [l[O]];rw[Ax,hbad];exact(Qcr _).symm
 ·obtain⟨a,j,l2⟩:=st;replace hi:j-((O:Int)+1)=i:=hi;obtain⟨j1,j2,j3,j4,j5⟩:0<=a/\a<j/\l2.length=l.length/\l2.take a.toNat=(l.take j.toNat).filter (Ll b)/\l2.drop j.toNat=l.drop j.toNat:=hJ;show Qg (Gx b a j l2) _;unfold Gx IH;refine T1 (λhc=>?_) (λhc=>T2 (Qp ⟨j1,?_,j3,?_⟩))
  ·simp only[Qw]at hc;have hj:j.toNat<l2.length:=by omega
   have hj':j.toNat<l.length:=by omega
   have ej:l2[j.toNat]=l[j.toNat]:=by
    have:=congrArg List.head? j5;rw[NE hj,NE hj']at this;exact Option.some.inj this
   have ej5:l2.drop (j.toNat+1)=l.drop (j.toNat+1):=by
    have:=congrArg List.tail j5;simpa using this
   rw[Sv (by omega) (by omega),Qa];have:=hl.2 _ (Xc hj');have hw2:Qh (j+1)=j+1:=Xb (by omega);have hw3:Qh (a+1)=a+1:=Xb (by omega);have tk:l.take (j+1).toNat=l.take j.toNat++[l[j.toNat]]:=by
    rw[show(j+1).toNat=j.toNat+1 by omega,JY,Qv hj'];rfl
   refine T0 (P:=λc:Bool=>c=!Ll b l[j.toNat]) ?_ λc hcc=>?_
   ·rw[ej];refine T0 (QqH n m b l[j.toNat] h hb (by omega)).self λg hg=>T2 ?_;unfold Ll;rw[hg.1];exact ne0 g
   subst hcc;refine T1 (λhc2=>?_) λhc2=>?_
   ·have hc2:Ll b l[j.toNat]=t_:=by simpa using hc2
    refine T0 (T4 (by omega) (by omega)) λ_ _=>?_;refine T2 (QH ⟨by omega,by show Qh (j+1)-((O:Int)+1)=_;omega,by show 0<=Qh (a+1);omega,by show Qh (a+1)<Qh (j+1);omega,by simpa using j3,?_,?_⟩)
    ·show(l2.set a.toNat l2[j.toNat]).take (Qh (a+1)).toNat=(l.take (Qh (j+1)).toNat).filter (Ll b);rw[hw2,hw3,tk,QaT,<-j4,show(a+1).toNat=a.toNat+1 by omega,JY,Vn (by omega),List.take_set_of_le (Yk _),ej];simp[hc2]
    show(l2.set a.toNat l2[j.toNat]).drop (Qh (j+1)).toNat=l.drop (Qh (j+1)).toNat;rw[hw2,show(j+1).toNat=j.toNat+1 by omega,List.drop_set_of_lt (by omega),ej5]
   have hc2:Ll b l[j.toNat]=f_:=by simpa using hc2
   refine T2 (QH ⟨by omega,by show Qh (j+1)-((O:Int)+1)=_;omega,j1,by show a<Qh (j+1);omega,j3,?_,?_⟩)
   ·show l2.take a.toNat=(l.take (Qh (j+1)).toNat).filter (Ll b);rw[hw2,tk,QaT,<-j4];simp[hc2]
   show l2.drop (Qh (j+1)).toNat=l.drop (Qh (j+1)).toNat;rw[hw2,show(j+1).toNat=j.toNat+1 by omega,ej5]
  ·simp only[QU]at hc;show a<=_;omega
  simp only[QU]at hc;show l2.take a.toNat=_;rw[j4,YV (by omega)]
 obtain⟨q1,q2⟩:=q;obtain⟨h1,h2,h3,h4⟩:0<=q1/\q1<=l.length/\q2.length=l.length/\q2.take q1.toNat=l.filter (Ll b):=hq;show Qg (Gy q1 q2) _;unfold Gy;refine T0 (T5 (by simp only[QN,Qw];omega)) λ_ _=>?_;refine T0 (T5 (by simp only[QN,Qw,YZ,Kv,Qcu];omega)) λ_ _=>?_;refine T2 ?_;rw[Qgh (by simp;omega),List.take_take,Nat.min_self,h4]
def Qvf (n:Qc)(m:L_ QBg)(task most:Int)(l5 l8:L_ Qd)(O outs:L_ LI_)(p:LI_)(h:QT n)(hm:QV (QV λ_=>True) m)(hmost:most<=4294967296\/l8.length+(GB n m task O outs p).length<=4294967296)
  (hi:Po O) (ho:Po outs) (hp:p.length<=16) (ha:(l8.length:Int)<most):
  Qg (AD n m task most l5 O outs l8 p) λr=>r=JF most.toNat l8 (GB n m task O outs p):=by
 have hil:=hi.1;have hol:=ho.1;unfold AD;refine T0 (Que n m task p h).self λx hx=>?_;obtain⟨c,b⟩:=x;obtain⟨hxe,hx⟩:=hx;refine T0 (P:=λy=>(y=t_->GB n m task O outs p=[])/\(y=f_->BOk n m b/\c=0/\XR b=C 0)) ?_ λy hy=>?_
 ·unfold OR;refine T1 (λhc=>T2 ⟨λ_=>?_,λh=>by cases h⟩) λhc=>?_
  ·unfold GB;rw[hxe];simp only;rw[if_neg λe=>by simp[e.1]at hc]
  have hc:c=0:=by simpa using hc
  have hb:=hx hc;refine T0 (Qq3 n m b h hb).self λg hg=>T2 ⟨λhg2=>?_,λhg2=>⟨hb,hc,?_⟩⟩
  ·unfold GB;rw[hxe];simp only;rw[if_neg λe=>by rw[hg.1]at e;simp at e;simp[e.2]at hg2]
  rw[hg.1];simpa using hg2
 unfold OS;refine T1 (λhc=>T2 ?_) λhc=>?_
 ·rw[hy.1 hc,Va (by omega)]
 obtain⟨hb,hc0,hgd⟩:=hy.2 hc;refine T0 (P:=λz=>z=outs) (by unfold BF;exact T0 (T5 (by simp;omega)) λ_ _=>T2 rfl) λx19 h19=>?_;rw[h19];refine T0 (QtU n m b outs h hb ho) λx20 h20=>?_;have h20l:x20.length<=16:=by rw[h20];exact Yq (Vo _ _) ho.1
 have h20e:∀r∈x20,r.length<=16:=λr hr=>by rw[h20]at hr;exact ho.2 r (FP.1 hr).1
 have hR:GB n m task O outs p=O.flatMap λe=>if XD b e=C 0 then x20.map (λo=>Qd.mk task p e o)else []:=by
  unfold GB;rw[hxe];simp only;rw[if_pos ⟨hc0,hgd⟩,h20]
 rw[hR]at hmost ⊢;generalize hg:(λe=>if XD b e=C 0 then x20.map (λo=>Qd.mk task p e o)else [])=g at hmost ⊢;refine T0 (Qg.up O.length (λst=>st.1) (λst=>(st.2.length:Int)<most/\JF most.toNat st.2 ((O.drop st.1.toNat).flatMap g)=JF most.toNat l8 (O.flatMap g)/\st.2.length+((O.drop st.1.toNat).flatMap g).length=l8.length+(O.flatMap g).length) (Q:=λq=>q=JF most.toNat l8 (O.flatMap g)) rfl ⟨ha,rfl,rfl⟩ (λi st hi2 hn hJ=>?_)) (λq hq=>?_)
 ·obtain⟨j,l⟩:=st;replace hi2:j=(i:Int):=hi2;subst hi2;obtain⟨hJ1,hJ2,hJ3⟩:(l.length:Int)<most/\JF most.toNat l ((O.drop (i:Int).toNat).flatMap g)=JF most.toNat l8 (O.flatMap g)/\l.length+((O.drop (i:Int).toNat).flatMap g).length=l8.length+(O.flatMap g).length:=hJ;rw[XM]at hJ2 hJ3;show Qg (Cu O (c,b) x20 p task most i l) _;unfold Cu;refine T1 (λhc=>?_) (λhc=>T2 (Qp ?_))
  ·simp only[Qw]at hc;have hlt:i<O.length:=by omega
   have hel:=hi.2 _ (Xc hlt);rw[QG,Qv hlt,Qa];rw[NE hlt,Ay,Qkk]at hJ2;rw[NE hlt,Ay,YZ]at hJ3;have next:∀l',(l'.length:Int)<most->JF most.toNat l' ((O.drop (i+1)).flatMap g)=JF most.toNat l8 (O.flatMap g)->l'.length+((O.drop (i+1)).flatMap g).length=l8.length+(O.flatMap g).length->Qg (Dh i l') λo=>(∀s',o=.inl s'->i<O.length/\s'.1=((i+1:Nat):Int)/\(s'.2.length:Int)<most/\JF most.toNat s'.2 ((O.drop s'.1.toNat).flatMap g)=JF most.toNat l8 (O.flatMap g)/\s'.2.length+((O.drop s'.1.toNat).flatMap g).length=l8.length+(O.flatMap g).length)/\∀r:L_ Qd⊕L_ Qd,o=.inr r->r=JF most.toNat l8 (O.flatMap g):=λl' hl1 hl2 hl3=>by
    have hw:Qh ((i:Int)+1)=((i+1:Nat):Int):=Qo hlt (by unfold maxLen;omega:O.length<=maxLen);unfold Dh;exact T2 (QH (ix:=λst:Int×L_ Qd=>st.1) (J:=λst:Int×L_ Qd=>(st.2.length:Int)<most/\JF most.toNat st.2 ((O.drop st.1.toNat).flatMap g)=JF most.toNat l8 (O.flatMap g)/\st.2.length+((O.drop st.1.toNat).flatMap g).length=l8.length+(O.flatMap g).length) ⟨hlt,hw,hl1,by
     show JF most.toNat l' ((O.drop (Qh ((i:Int)+1)).toNat).flatMap g)=_/\l'.length+((O.drop (Qh ((i:Int)+1)).toNat).flatMap g).length=_;rw[hw,XM];exact⟨hl2,hl3⟩⟩)
   refine T0 (Quf n m b O[i] h hb hm (by omega)).self λz hz=>?_;refine T1 (λhc2=>?_) λhc2=>?_
   ·have:g O[i]=[]:=by
     rw[<-hg];simp only;rw[if_neg λe=>by rw[hz.1]at e;simp at e;simp[e]at hc2]
    rw[this,Va (by omega)]at hJ2;rw[this]at hJ3;exact next l hJ1 hJ2 (by simpa using hJ3)
   have hge:g O[i]=x20.map (λo=>Qd.mk task p O[i] o):=by
    rw[<-hg];simp only;rw[if_pos (by rw[hz.1];simpa using hc2)]
   rw[hge]at hJ2 hJ3;rw[Dx]at hJ3;refine T0 (Qg.up x20.length (λst=>st.1) (λst=>(st.2.length:Int)<most/\JF most.toNat st.2 ((x20.drop st.1.toNat).map λo=>Qd.mk task p O[i] o)=JF most.toNat l (x20.map λo=>Qd.mk task p O[i] o)/\(st.2.length:Int)=l.length+st.1) (Q:=λq=>q=JF most.toNat l (x20.map λo=>Qd.mk task p O[i] o)) rfl ⟨hJ1,rfl,by simp⟩ (λi2 st hi3 hn2 hK=>?_)) (λq hq=>?_)
   ·obtain⟨j2,l2⟩:=st;replace hi3:j2=(i2:Int):=hi3;subst hi3;obtain⟨hK1,hK2,hK3⟩:(l2.length:Int)<most/\JF most.toNat l2 ((x20.drop (i2:Int).toNat).map λo=>Qd.mk task p O[i] o)=JF most.toNat l (x20.map λo=>Qd.mk task p O[i] o)/\(l2.length:Int)=l.length+(i2:Int):=hK;rw[XM]at hK2;show Qg (Ct x20 p O[i] task most i2 l2) _;unfold Ct;refine T1 (λhc=>?_) (λhc=>T2 (Qp ?_))
    ·simp only[Qw]at hc;have hlt2:i2<x20.length:=by omega
     have hel2:=h20e _ (Xc hlt2);rw[QG,Qv hlt2,Qa];rw[NE hlt2,GC,QxY]at hK2;rw[Vb p (by omega),Qa,Vb O[i] (by omega),Qa,Vb x20[i2] (by omega),Qa];refine T0 (T5 (by simp;omega)) λ_ _=>?_;refine T1 (λhc2=>T2 (Qp ?_)) λhc2=>?_
     ·simp only[beq_iff_eq,YZ,FO]at hc2;rw[QxX (by simp;omega)]at hK2;exact hK2
     simp only[beq_eq_false_iff_ne,YZ,FO]at hc2;have hw:Qh ((i2:Int)+1)=((i2+1:Nat):Int):=Qo hlt2 (by unfold maxLen;omega:x20.length<=maxLen);refine T2 (QH ⟨hlt2,hw,by show((l2++[_]).length:Int)<most;simp;omega,?_,by show((l2++[_]).length:Int)=l.length+Qh ((i2:Int)+1);rw[hw];simp;omega⟩);show JF most.toNat (l2++[_]) ((x20.drop (Qh ((i2:Int)+1)).toNat).map _)=_;rw[hw,XM];exact hK2
    simp only[QU]at hc;rw[Qj7 (by omega),List.map_nil,Va (by omega)]at hK2;exact hK2
   rw[<-hq]at hJ2;rcases q with q|q
   ·exact T2 (Qp hJ2)
   exact next q (by have:=Qo9 hq.symm;omega) hJ2 (by
    have e:=congrArg List.length (Qkl hq.symm);rw[YZ,Dx]at e;omega)
  simp only[QU]at hc;rw[Qj7 (by omega),List.flatMap_nil,Va (by omega)]at hJ2;exact hJ2
 rcases q with q|q
 ·exact T2 hq
 exact T2 hq
def Qr6 (n:Qc)(m:L_ QBg)(O most:Int)(l5:L_ Qd)(ins outs:L_ LI_)(t:QL)(h:QT n)(hm:QV (QV λ_=>True) m)(hmost:most<=4294967296\/((binds (Yd n t)).flatMap (GB n m O ins outs)).length<=4294967296)(h1:1<=most)
  (hi:Po ins) (ho:Po outs) (ht:t∈n.Tasks):Qg (HT n m O most l5 ins outs [] t n) λr=>∀a,r=.inl a\/r=.inr a->a=((binds (Yd n t)).flatMap (GB n m O ins outs)).take most.toNat:=by
 have hv:=(h.tk t ht).1;have hsz:(Yd n t).length=t.Vars.length:=by simp[Yd]
 generalize hrl:GB n m O ins outs=rl at hmost ⊢;have fin:∀q:L_ Qd⊕L_ Qd,q.swap=JF most.toNat [] ((binds (Yd n t)).flatMap rl)->∀a,q=.inl a\/q=.inr a->a=((binds (Yd n t)).flatMap rl).take most.toNat:=λq hq a ha=>by
  rw[<-QsU (by omega:0<most.toNat),<-hq];rcases ha with rfl|rfl<;>rfl
 unfold HT;refine T0 (T5 (by simp only[QN,Qw];omega)) λ_ _=>?_;refine T0 (Qq4 (λst=>(Ka (Yd n t) st.1).length) (λst=>st.1.length=t.Vars.length/\(∀d∈st.1,0<=d/\d<=1024)/\(st.2.length:Int)<most/\JF most.toNat st.2 ((st.1::Ka (Yd n t) st.1).flatMap rl)=JF most.toNat [] ((binds (Yd n t)).flatMap rl)/\st.2.length+((st.1::Ka (Yd n t) st.1).flatMap rl).length=((binds (Yd n t)).flatMap rl).length) (Q:=λq:L_ Qd⊕L_ Qd=>q.swap=JF most.toNat [] ((binds (Yd n t)).flatMap rl))
  ⟨by simp,λd hd=>by have:=QaS hd;omega,by simp;omega,?_⟩ (λst hJ=>?_)) (λq hq=>?_)
 ·show JF most.toNat [] ((List.replicate (t.Vars.length:Int).toNat 0::Ka (Yd n t) (List.replicate (t.Vars.length:Int).toNat 0)).flatMap rl)=_/\0+((List.replicate (t.Vars.length:Int).toNat 0::Ka (Yd n t) (List.replicate (t.Vars.length:Int).toNat 0)).flatMap rl).length=_;rw[Qga (Yd n t),MS,hsz,XM,Gp];exact⟨rfl,rfl⟩
 ·obtain⟨d,l⟩:=st;obtain⟨j1,j2,j3,j4,j5⟩:d.length=t.Vars.length/\(∀d'∈d,0<=d'/\d'<=1024)/\(l.length:Int)<most/\JF most.toNat l ((d::Ka (Yd n t) d).flatMap rl)=JF most.toNat [] ((binds (Yd n t)).flatMap rl)/\l.length+((d::Ka (Yd n t) d).flatMap rl).length=((binds (Yd n t)).flatMap rl).length:=hJ;rw[Ay,YZ]at j5;show Qg (LN n m O most l5 ins outs t n d l) _;unfold LN;rw[Vb d (by omega),Qa];refine T0 (Qvf n m O most l5 l ins outs d h hm (by rw[hrl];omega) hi ho (by omega) j3) λr hr=>?_;rw[hrl]at hr;rw[Ay,Qkk,<-hr]at j4;rcases r with r|r
  ·exact T2 ⟨λs' e=>(by cases e),λq e=>(by cases e;exact j4)⟩
  have hacc:=Qo9 hr.symm;have hlen:=congrArg List.length (Qkl hr.symm);rw[YZ]at hlen;replace j4:JF most.toNat r ((Ka (Yd n t) d).flatMap rl)=JF most.toNat [] ((binds (Yd n t)).flatMap rl):=j4;show Qg (LM t n d r) _;unfold LM;refine T0 (Qq6 t n d h.k j1 hv j2) λq hq=>?_;obtain⟨a,d2⟩:=q;obtain⟨⟨q1,q2,q3⟩,q4,q5⟩:(-1<=a/\a<d.length/\d2=d.take (a+1).toNat++List.replicate (d.length-(a+1).toNat) 0)/\(∀(j:Nat) x s,a<(j:Int)->d[j]? = C x->(Yd n t)[j]? = C s->¬x+1<s)/\∀x s,0<=a->d[a.toNat]? = C x->(Yd n t)[a.toNat]? = C s->x+1<s/\x<1024:=hq;have hnx:=Qo8 (Yd n t) d;show Qg (LL r a d2) _;unfold LL;refine T1 (λhc=>T2 ⟨λs' e=>(by cases e),λq e=>(by
   cases e;simp only[Qw]at hc;rw[QjJ (Yd n t) d λj x s=>q4 j x s (by omega)]at hnx;simp only at hnx;rw[hnx,List.flatMap_nil,Va hacc]at j4;exact j4)⟩) λhc=>?_
  simp only[QU]at hc;have hlt:a.toNat<d.length:=by omega
  have hls:a.toNat<(Yd n t).length:=by omega
  have ed:idx d2 a=C d[a.toNat]:=by
   rw[DO (by omega),q3,Jh (by simp;omega),Kd,if_pos (by omega),Qv hlt]
  rw[ed,Qa,Qa];have h9:=q5 _ _ (by omega) (Qv hlt) (Qv hls);have h10:=j2 _ (Xc hlt);rw[Xb (by omega)];have e3:d2.set a.toNat (d[a.toNat]+1)=d.take a.toNat++(d[a.toNat]+1)::List.replicate (d.length-(a.toNat+1)) 0:=by
   rw[q3,show(a+1).toNat=a.toNat+1 by omega,Qnt hlt]
  rw[e3];have hd3:∀x∈d.take a.toNat++(d[a.toNat]+1)::List.replicate (d.length-(a.toNat+1)) 0,0<=x/\x<=1024:=λx hx=>by
   rcases YT.1 hx with hx|hx
   ·exact j2 x (FQ hx)
   rcases XP.1 hx with rfl|hx
   ·omega
   have:=QaS hx;omega
  have hlen2:(d.take a.toNat++(d[a.toNat]+1)::List.replicate (d.length-(a.toNat+1)) 0).length=t.Vars.length:=by simp;omega
  rw[Qua a.toNat (Yd n t) d _ _ (by omega) (Qv hlt) (Qv hls) h9.1 λj y z hj=>q4 j y z (by omega)]at hnx;simp only at hnx;rw[hnx]at j4;exact T2 ⟨λs' e=>(by
   cases e;refine⟨?_,hlen2,hd3,by show(r.length:Int)<most;omega,j4,by show r.length+(List.flatMap rl (_::_)).length=_;rw[<-hnx];omega⟩;show(Ka (Yd n t) (d.take a.toNat++(d[a.toNat]+1)::List.replicate (d.length-(a.toNat+1)) 0)).length<(Ka (Yd n t) d).length;rw[hnx,WI];omega),λq e=>(by cases e)⟩
 rcases q with q|q
 ·exact T2 λa ha=>fin _ hq a (by rcases ha with ha|ha<;>cases ha;exact .inl rfl)
 exact T2 λa ha=>fin _ hq a (by rcases ha with ha|ha<;>cases ha;exact .inr rfl)
def Uc (O h:Int):L_ LI_:=(Ju O h).getD []
def Yw (n:Qc)(m:L_ QBg)(h:Int):L_ Qd:=match idx n.Tasks h with|some t=>(binds (Yd n t)).flatMap (GB n m h (Uc t.Join t.Ins.length) (Uc t.Split t.Outs.length))|none=>[]
def QhQ (n:Qc)(m:L_ QBg)(O most:Int)(h:QT n)(hm:QV (QV λ_=>True) m)(hmost:most<=4294967296\/(Yw n m O).length<=4294967296):II n m O most=C ((Yw n m O).take most.toNat):=by
 have key:Qg (II n m O most) λr=>r=(Yw n m O).take most.toNat:=by
  unfold II;refine T1 (λhc=>T2 ?_) λhc=>?_
  ·simp only[KG,Qw]at hc;rcases hc with hc|hc|hc
   ·unfold Yw idx;rw[if_neg (by omega)];simp
   ·unfold Yw idx;rw[if_pos (by omega),SA (by omega)];simp
   rw[show most.toNat=0 by omega,List.take_zero]
  simp only[Ku,QU]at hc;refine T0 (T4 (by omega) (by omega)).self λe he=>?_;refine T0 (Qfv _ _).self λx hx=>?_;refine T0 (Qfv _ _).self λy hy=>?_;refine T0 (P:=λz=>z=(n,e)) (T2 rfl) λz hz=>?_;subst hz;have hml:Yw n m O=(binds (Yd n e)).flatMap (GB n m O x y):=by
   unfold Yw Uc;rw[he.1];simp only;rw[hx.1,hy.1];rfl
  refine T0 (Qr6 n m O most [] x y e h hm (by rw[<-hml];exact hmost) (by omega) hx.2 hy.2 he.2) λr hr=>?_;rw[hml];rcases r with r|r
  ·exact T2 (hr r (.inl rfl))
  exact T2 (hr r (.inr rfl))
 obtain⟨r,h1,h2⟩:=key;rw[h1,h2]
def KB (n:Qc)(m:L_ QBg):L_ Qd:=(List.range n.Tasks.length).flatMap λ(k:Nat)=>Yw n m (k:Int)
def Qx5 {α:Type}(f:Nat->L_ α)(N:Nat):∀k,k<=N->∃r,(List.range N).flatMap f=(List.range k).flatMap f++r:=by
 induction N with
 |zero=>intro k h;exact⟨[],by rw[show k=0 by omega];rfl⟩|succ N ih=>
  intro k h;by_cases c:k=N+1
  ·subst c;exact⟨[],by simp⟩
  obtain⟨r,O⟩:=ih k (by omega);exact⟨r++f N,by rw[List.range_succ,Qj8,List.flatMap_singleton,O,Kh]⟩
def Qnu (n:Qc)(m:L_ QBg)(most:Int)(h:QT n)(hm:QV (QV λ_=>True) m)(h0:0<=most)(h1:most<=9223372036854775807)(hmost:most<=4294967296\/(KB n m).length<=4294967296):Hd n m most=C ((KB n m).take most.toNat):=by
 have key:Qg (Hd n m most) λr=>r=(KB n m).take most.toNat:=by
  unfold Hd;refine T0 (Qg.up n.Tasks.length (λst=>st.1) (λst=>st.2=((List.range st.1.toNat).flatMap λ(k:Nat)=>Yw n m (k:Int)).take most.toNat) (Q:=λq=>q=(KB n m).take most.toNat) rfl (by simp) (λi st hi hn O=>?_)) (λq hq=>T2 hq);obtain⟨x,l⟩:=st;replace hi:x=(i:Int):=hi;subst hi;replace O:l=((List.range (i:Int).toNat).flatMap λ(k:Nat)=>Yw n m (k:Int)).take most.toNat:=O;rw[XM]at O;show Qg (Ua n m most i l) _;unfold Ua;refine T1 (λhc=>?_) (λhc=>T2 (Qp ?_))
  ·simp only[Qw]at hc;have hll:l.length<=most.toNat:=by rw[O];exact List.length_take_le _ _
   have hw:Qh (most-(l.length:Int))=most-(l.length:Int):=Xb (by omega);obtain⟨rest,hrest⟩:=Qx5 (λ(k:Nat)=>Yw n m (k:Int)) n.Tasks.length (i+1) (by omega);have hle:((List.range i).flatMap λ(k:Nat)=>Yw n m (k:Int)).length+(Yw n m (i:Int)).length<=(KB n m).length:=by
    unfold KB;rw[hrest,List.range_succ,Qj8,List.flatMap_singleton];simp
   have hl2:l.length<=((List.range i).flatMap λ(k:Nat)=>Yw n m (k:Int)).length:=by rw[O];exact List.length_take_le' _ _
   rw[hw,QhQ n m i _ h hm (by omega),Qa];have e:l++(Yw n m (i:Int)).take (most-(l.length:Int)).toNat=((List.range (i+1)).flatMap λ(k:Nat)=>Yw n m (k:Int)).take most.toNat:=by
    rw[List.range_succ,Qj8,List.flatMap_singleton,List.take_append,<-O];congr 1;by_cases c:((List.range i).flatMap λ(k:Nat)=>Yw n m (k:Int)).length<=most.toNat
    ·have:l.length=((List.range i).flatMap λ(k:Nat)=>Yw n m (k:Int)).length:=by rw[O,Kv];omega
     congr 1;omega
    have:l.length=most.toNat:=by rw[O,Kv];omega
    rw[show(most-(l.length:Int)).toNat=0 by omega,show most.toNat-((List.range i).flatMap λ(k:Nat)=>Yw n m (k:Int)).length=0 by omega]
   rw[e];refine T0 (T5 (by
    have:=List.length_take_le (most-(l.length:Int)).toNat (Yw n m (i:Int));have:=List.length_take_le' (most-(l.length:Int)).toNat (Yw n m (i:Int));simp only[Qw];omega)) λ_ _=>?_
   have hw2:Qh ((i:Int)+1)=((i+1:Nat):Int):=Qo (by omega:i<n.Tasks.length) h.k.2.2.1.1;refine T2 (QH ⟨by omega,hw2,?_⟩);show _=((List.range (Qh ((i:Int)+1)).toNat).flatMap λ(k:Nat)=>Yw n m (k:Int)).take most.toNat;rw[hw2,XM]
  simp only[QU]at hc;rw[O,show i=n.Tasks.length by omega];rfl
 obtain⟨r,h1,h2⟩:=key;rw[h1,h2]
def QwB {ins outs:L_ LI_}{p:LI_}:
  o∈GB n m O ins outs p↔o.Task=O/\o.Vars=p/\o.Ins∈ins/\o.Outs∈outs/\∃b,YY n m O p=C (0,b)/\XR b=C 0/\XD b o.Ins=C 0/\Ym b o.Outs=C 0:=by
 unfold GB;cases hb:YY n m O p with
 |none=>simp|some x=>
  obtain⟨c,b⟩:=x;simp only;by_cases hc:c=0/\XR b=C 0
  ·rw[if_pos hc];obtain⟨rfl,hg⟩:=hc;simp only[List.mem_flatMap];constructor
   ·rintro ⟨e,he,h⟩;by_cases ht:XD b e=C 0
    ·rw[if_pos ht]at h;obtain⟨r,hr,rfl⟩:=Yt.1 h;obtain⟨h1,h2⟩:=FP.1 hr;exact⟨rfl,rfl,he,h1,b,rfl,hg,ht,Xe h2⟩
    rw[if_neg ht]at h;cases h
   rintro ⟨h1,h2,h3,h4,b',h5,h6,h7,h8⟩;cases h5;refine⟨o.Ins,h3,?_⟩;rw[if_pos h7];refine Yt.2 ⟨o.Outs,FP.2 ⟨h4,Ql h8⟩,?_⟩;cases o;simp only at h1 h2;subst h1;subst h2;rfl
  rw[if_neg hc];constructor
  ·intro h;cases h
  rintro ⟨_,_,_,_,b',h5,h6,_⟩;cases h5;exact absurd ⟨rfl,h6⟩ hc
def Av {h:Int}:
  o∈Yw n m h↔o.Task=h/\∃e,idx n.Tasks h=C e/\inB (Yd n e) o.Vars/\o.Ins∈Uc e.Join e.Ins.length/\o.Outs∈Uc e.Split e.Outs.length/\∃b,YY n m h o.Vars=C (0,b)/\XR b=C 0/\XD b o.Ins=C 0/\Ym b o.Outs=C 0:=by
 unfold Yw;cases he:idx n.Tasks h with
 |none=>simp|some e=>
  simp only[List.mem_flatMap,Qws,QwB,Option.some.injEq,exists_eq_left'];constructor
  ·rintro ⟨p,O,h2,rfl,h3,h4,h5⟩;exact⟨h2,O,h3,h4,h5⟩
  rintro ⟨O,h2,h3,h4,h5⟩;exact⟨o.Vars,h2,O,rfl,h3,h4,h5⟩
def Qy7:o∈KB n m↔o∈Yw n m o.Task:=by
 unfold KB;simp only[List.mem_flatMap,CU];constructor
 ·rintro ⟨k,hk,h⟩;have:=(Av.1 h).1;rwa[this]
 intro h;obtain⟨_,e,O,_⟩:=Av.1 h;have h0:0<=o.Task:=by
  unfold idx at O;split at O
  ·assumption
  cases O
 rw[DO h0]at O;have:=(Xf.1 O).1;exact⟨o.Task.toNat,this,by rwa[show((o.Task.toNat:Nat):Int)=o.Task by omega]⟩
def Qpq (a b:LI_)(ha:a.length<=maxLen):Kq a b=C (decide (a=b)):=by
 have key:Qg (Kq a b) λr=>r=decide (a=b):=by
  unfold Kq;refine T1 (λhc=>T2 ?_) λhc=>?_
  ·rw[Qn λe=>by subst e;simp at hc]
  simp only[KA]at hc;have hc:a.length=b.length:=by omega
  refine T0 (Qg.up a.length (λst=>st) (λst=>a.take st.toNat=b.take st.toNat) (Q:=λq:Unit⊕Unit=>(q=.inl ()->a≠b)/\(q=.inr ()->a=b)) rfl rfl (λi st hi hn hJ=>?_)) (λq hq=>?_)
  ·replace hi:st=(i:Int):=hi;subst hi;replace hJ:a.take (i:Int).toNat=b.take (i:Int).toNat:=hJ;rw[XM]at hJ;show Qg (WM a b i) _;unfold WM;refine T1 (λO=>?_) (λO=>T2 (Qp ⟨λe=>(by cases e),λ_=>?_⟩))
   ·simp only[Qw]at O;have i1:i<a.length:=by omega
    have i2:i<b.length:=by omega
    rw[QG,Qv i1,Qa,QG,Qv i2,Qa];refine T1 (λh=>T2 (Qp ⟨λ_ e=>?_,λe=>by cases e⟩)) λh=>?_
    ·subst e;simp at h
    have hw:Qh ((i:Int)+1)=((i+1:Nat):Int):=Qo i1 ha;refine T2 (QH ⟨i1,hw,?_⟩);show a.take (Qh ((i:Int)+1)).toNat=b.take (Qh ((i:Int)+1)).toNat;rw[hw,XM,JY,JY,hJ,Qv i1,Qv i2];simp only[KA]at h;rw[h]
   simp only[QU]at O;rwa[YV (by omega),YV (by omega)]at hJ
  rcases q with q|q
  ·exact T2 (Qn (hq.1 rfl)).symm
  exact T2 (Ql (hq.2 rfl)).symm
 obtain⟨r,h1,h2⟩:=key;rw[h1,h2]
def Sx (O h:Int):Ju O h=C (Uc O h)/\Po (Uc O h):=by
 obtain⟨r,h1,h2⟩:=Qfv O h;unfold Uc;rw[h1];exact⟨rfl,h2⟩
def Nk (O h:Int)(row:LI_):EZ O h row=C (decide (row∈Uc O h)):=by
 have key:Qg (EZ O h row) λr=>r=decide (row∈Uc O h):=by
  unfold EZ Da GG;obtain⟨e,hx⟩:=Sx O h;rw[e,Qa];generalize Uc O h=x at hx;have hl:=hx.1;have key:Qg ((Qq (λst=>Jz x row st) 0)) λq:Int⊕Unit=>(∀k,q=.inl k->0<=k/\row∈x)/\(q=.inr ()->row ∉ x):=by
   refine Qg.up x.length (λst=>st) (λst=>row ∉ x.take st.toNat) rfl (by simp) (λi st hi hn hJ=>?_);replace hi:st=(i:Int):=hi;subst hi;replace hJ:row ∉ x.take (i:Int).toNat:=hJ;rw[XM]at hJ;show Qg (Jz x row i) _;unfold Jz NQ;refine T1 (λhc=>?_) (λhc=>T2 (Qp ⟨λk e=>(by cases e),λ_=>?_⟩))
   ·simp only[Qw]at hc;have i1:i<x.length:=by omega
    have:=hx.2 _ (Xc i1);rw[QG,Qv i1,Qa,Qpq _ _ (by unfold maxLen;omega)];simp only[Qa];refine T1 (λhc2=>T2 (Qp ⟨λk e=>(by cases e;exact⟨by omega,by rw[<-Xe hc2];exact Xc i1⟩),λe=>by cases e⟩)) λhc2=>?_;have hw:Qh ((i:Int)+1)=((i+1:Nat):Int):=Qo i1 (by unfold maxLen;omega:x.length<=maxLen);refine T2 (QH ⟨i1,hw,?_⟩);show row ∉ x.take (Qh ((i:Int)+1)).toNat;rw[hw,XM,JY,Qv i1];simp only[Option.toList_some,YT,LA,not_or];exact⟨hJ,λe=>of_decide_eq_false hc2 e.symm⟩
   simp only[QU]at hc;rwa[YV (by omega)]at hJ
  obtain⟨q,hq1,hq2⟩:=key;rw[hq1];rcases q with q|q
  ·have:=hq2.1 q rfl;refine T2 ?_;rw[Ql this.2];exact Ql this.1
  refine T2 ?_;rw[Qn (hq2.2 rfl)];rfl
 obtain⟨r,h1,h2⟩:=key;rw[h1,h2]
def QwC (l:L_ QK)(k m:Int)(hl:QV JG l):Qg (Gd l k m) λr=>r.2=t_->0<=m/\∃z,Jg l k=C z/\m<z:=by
 unfold Gd Jg;refine T0 (MV l k hl).self λx hx=>?_;obtain⟨hxe,hx⟩:=hx;refine T0 (P:=λr=>r=f_->x.1=t_/\0<=m/\∃h:0<=k/\k<(x.2.sizes.length:Int),m<x.2.sizes[k.toNat]'(by omega)) ?_ λr hr=>?_
 ·unfold FZ;refine T1 (λ_=>T2 λh=>by cases h) λO=>?_;have O:x.1=t_:=by simpa using O
  have h:=hx.2 O;have hk:k.toNat<x.2.sizes.length:=by omega
  have ei:idx x.2.sizes k=C x.2.sizes[k.toNat]:=Sv h.1.1 h.1.2;refine T0 (P:=λy=>y=t_->0<=m/\m<x.2.sizes[k.toNat]) ?_ λy hy=>T2 λhf=>?_
  ·unfold Wg;refine T0 (P:=λy=>y=t_->0<=m/\m<x.2.sizes[k.toNat]) ?_ λy hy=>T2 hy;unfold Uk;refine T1 (λhc2=>?_) λ_=>T2 λh=>by cases h
   rw[h.2.1,ei,Qa];exact T2 λh=>⟨by simpa using hc2,by simpa using h⟩
  have:=hy (by simpa using hf);exact⟨O,this.1,h.1,this.2⟩
 unfold Ha;refine T1 (λ_=>T2 λh=>by cases h) λO=>?_;obtain⟨h1,h2,h3,h4⟩:=hr O;have h:=hx.2 h1;have fin:0<=m/\∃z,((Gt l k).bind λx5=>bif (!x5.1)then C 0 else(idx x5.2.sizes k).bind λe7=>C e7)=C z/\m<z:=⟨h2,x.2.sizes[k.toNat]'(by omega),by
  rw[hxe,Qa,h1];simp only[Jq,Qe];rw[Sv h3.1 h3.2];rfl,h4⟩
 refine T0 (Lj x.2 (by omega)) λ_ _=>?_;refine T1 (λ_=>?_) λ_=>T2 λ_=>fin;exact T0 (Lj x.2 (by omega)) λ_ _=>T2 λ_=>fin
def QAk {l d:LI_}(h:d.length=l.length)(O:∀(j:Nat) x s,d[j]? = C x->l[j]? = C s->0<=x/\x<s):inB l d:=by
 induction l generalizing d with
 |nil=>cases d with|nil=>trivial|cons x d=>simp at h
 |cons s r ih=>cases d with
  |nil=>simp at h|cons x d=>
   have:=O 0 x s rfl rfl;exact⟨this.1,.inr this.2,ih (by simpa using h) λj y z h1 h2=>O (j+1) y z (by simpa using h1) (by simpa using h2)⟩
def QAl (n:Qc)(task:Int)(O:LI_)(h:QT n):Qg (DA n task O) λr=>r.2=0->∃e,idx n.Tasks task=C e/\e∈n.Tasks/\inB (Yd n e) O/\∀s∈Yd n e,0<s:=by
 unfold DA;refine T1 (λ_=>T2 λh=>by cases h) λhc=>?_;simp only[Ku,QU]at hc;refine T0 (T4 (by omega) (by omega)).self λe he=>?_;have hv:=(h.tk e he.2).1;have ke:=h.k.2.2.1.2 e he.2;refine T1 (λ_=>T2 λh=>by cases h) λhl=>?_;simp only[KA]at hl;have hl:O.length=e.Vars.length:=by omega
 refine T0 (T5 (by simp only[QN,Qw];omega)) λ_ _=>?_;refine T0 (Qg.up e.Vars.length (λst=>st.1) (λst=>st.2.length=e.Vars.length/\∀(j:Nat) x s,(j:Int)<st.1->O[j]? = C x->(Yd n e)[j]? = C s->0<=x/\x<s) (Q:=λq:Unit⊕LI_=>∀out,q=.inr out->inB (Yd n e) O/\∀s∈Yd n e,0<s) rfl ⟨by simp,λj x s hj=>by simp at hj;omega⟩ (λi st hi hn hJ=>?_)) (λq hq=>?_)
 ·obtain⟨x,l⟩:=st;replace hi:x=(i:Int):=hi;subst hi;obtain⟨hJ,hJ2⟩:l.length=e.Vars.length/\∀(j:Nat) x s,(j:Int)<(i:Int)->O[j]? = C x->(Yd n e)[j]? = C s->0<=x/\x<s:=hJ;show Qg (GF e O n i l) _;unfold GF;refine T1 (λhc=>?_) (λhc=>T2 (Qp λout _=>?_))
  ·simp only[Qw]at hc;have i1:i<e.Vars.length:=by omega
   have i2:i<O.length:=by omega
   rw[QG,Qv i1,Qa,QG,Qv i2,Qa];refine T0 (QwC _ _ _ h.k.1) λc hc3=>?_;refine T1 (λ_=>T2 (Qp λout e=>by cases e)) λhc4=>?_;obtain⟨h1,z,h2,h3⟩:=hc3 (by simpa using hc4);refine T0 (T4 (by omega) (by omega)) λd _=>?_;have hw:Qh ((i:Int)+1)=((i+1:Nat):Int):=Qo i1 (by unfold maxLen;omega:e.Vars.length<=maxLen);refine T2 (QH ⟨i1,hw,by simpa using hJ,λj x s hj hx hs=>?_⟩);replace hj:(j:Int)<Qh ((i:Int)+1):=hj;rw[hw]at hj;by_cases cj:j=i
   ·subst cj;rw[Qv i2]at hx;cases hx;unfold Yd at hs;rw[Yj,Qv i1,Gq,h2]at hs;cases hs;exact⟨h1,h3⟩
   exact hJ2 j x s (by omega) hx hs
  simp only[QU]at hc;have hb:∀(j:Nat) x s,O[j]? = C x->(Yd n e)[j]? = C s->0<=x/\x<s:=λj x s hx hs=>hJ2 j x s (by have:=(Xf.1 hx).1;omega) hx hs;refine⟨QAk (by simp[Yd,hl]) hb,λs hs=>?_⟩;obtain⟨j,hj,rfl⟩:=Ej.1 hs;have hj2:j<O.length:=by simp[Yd]at hj;omega
  have:=hb j _ _ (Qv hj2) (Qv hj);omega
 rcases q with q|q
 ·exact T2 λh=>by cases h
 exact T2 λ_=>⟨e,he.1,he.2,hq q rfl⟩
def BP {vars:LI_}{b:Xr}(h:QT n)(e:YY n m O vars=C (0,b)):idx n.Tasks O=C b.task/\b.task∈n.Tasks/\b.net=n/\b.m=m/\(inB (Yd n b.task) vars/\∀s∈Yd n b.task,0<s)/\DA n O vars=C (b.env,0):=by
 unfold YY at e;obtain⟨x,hx,e⟩:=QI e;obtain⟨x1,x2⟩:=x;rcases Xy e with⟨c,e⟩|⟨c,e⟩
 ·simp only[Option.some.injEq,Prod.mk.injEq]at e;simp only[e.1]at c;cases c
 simp only[KA]at c;subst c;obtain⟨t,ht,h1,h2⟩:=WG (QAl n O vars h) hx rfl;rw[ht,Qa]at e;simp only[Option.some.injEq,Prod.mk.injEq,true_and]at e;subst e;exact⟨ht,h1,rfl,rfl,h2,hx⟩
def Vc (h:QT n)(hm:QV (QV λ_=>True) m)(ho:Xv n o):Yb n m o=C 0↔o∈Yw n m o.Task:=by
 rw[Av];constructor
 ·intro e;unfold Yb at e;obtain⟨x,hx,e⟩:=QI e;obtain⟨c,b⟩:=x;have k3:∀g,Kl (c,b) o g=C 0->g=0/\o.Ins∈Uc b.task.Join b.task.Ins.length/\o.Outs∈Uc b.task.Split b.task.Outs.length/\XD b o.Ins=C 0/\Ym b o.Outs=C 0:=λg e=>by
   unfold Kl at e;rcases Xy e with⟨c2,e⟩|⟨c2,e⟩
   ·simp only[Option.some.injEq]at e;rw[e]at c2;cases c2
   simp only[KA]at c2;obtain⟨y,O,e⟩:=QI e;unfold Hb at O;rw[Nk,Qa]at O;unfold Hc at e;rcases Xy e with⟨_,e⟩|⟨c3,e⟩
   ·cases e
   subst c3;rcases Xy O with⟨_,O⟩|⟨c4,O⟩
   ·cases O
   rw[Nk,Qa]at O;simp only[CR,Qw]at c4;simp only[Option.some.injEq,CR,Qw]at O;obtain⟨z,hz,e⟩:=QI e;rcases Xy e with⟨c5,e⟩|⟨c5,e⟩
   ·simp only[Option.some.injEq]at e;rw[e]at c5;cases c5
   simp only[KA]at c5;subst c5;obtain⟨w,hw,e⟩:=QI e;simp only[Option.some.injEq]at e;subst e;exact⟨c2,c4,O,hz,hw⟩
  have fin:c=0->XR b=C 0->(o.Ins∈Uc b.task.Join b.task.Ins.length/\o.Outs∈Uc b.task.Split b.task.Outs.length/\XD b o.Ins=C 0/\Ym b o.Outs=C 0)->o.Task=o.Task/\∃e,idx n.Tasks o.Task=C e/\inB (Yd n e) o.Vars/\o.Ins∈Uc e.Join e.Ins.length/\o.Outs∈Uc e.Split e.Outs.length/\∃b,YY n m o.Task o.Vars=C (0,b)/\XR b=C 0/\XD b o.Ins=C 0/\Ym b o.Outs=C 0:=λhc hg q=>by
   subst hc;obtain⟨h1,_,_,_,h2,_⟩:=BP h hx;exact⟨rfl,b.task,h1,h2.1,q.1,q.2.1,b,hx,hg,q.2.2.1,q.2.2.2⟩
  rcases Xy e with⟨c1,e⟩|⟨c1,e⟩
  ·simp only[beq_iff_eq]at c1;obtain⟨g,hg,e⟩:=QI e;obtain⟨rfl,q⟩:=k3 g e;exact fin c1 hg q
  have e1:=(k3 _ e).1;simp only[beq_eq_false_iff_ne]at c1;exact absurd e1 c1
 rintro ⟨_,e,he,h1,h2,h3,b,hb,hg,ht,hv⟩;obtain⟨k1,k2,_⟩:=BP h hb;rw[he]at k1;cases k1;unfold Yb;rw[hb,Qa];simp only[show((0:Int)==0)=t_ from rfl,Qr,hg,Qa];unfold Kl;simp only[show((0:Int) != 0)=f_ from rfl,Qe];unfold Hb;rw[Nk,Qa,Ql h2];simp only[Jq,Qe];rw[Nk,Qa,Ql h3,Qa];unfold Hc;simp only[Jq,Qe,ht,Qa,show((0:Int) != 0)=f_ from rfl,hv]
def Qx6 (h:QT n)(hm:QV (QV λ_=>True) m)(ho:o∈Yw n m O):Xv n o:=by
 obtain⟨_,e,he,h1,h2,h3,_⟩:=Av.1 ho;have hem:e∈n.Tasks:=by
  unfold idx at he;split at he
  ·exact XB he
  cases he
 have hv:=(h.tk e hem).1;have hl:=Qy2 h1;have h4:=(Sx e.Join e.Ins.length).2.2 _ h2;have h5:=(Sx e.Split e.Outs.length).2.2 _ h3;have:(Yd n e).length=e.Vars.length:=by simp[Yd]
 exact⟨by omega,by omega,by omega⟩
def QgR (h:QT n)(O:QV (QV λ_=>True) m)(ho:o∈KB n m):Xv n o:=Qx6 h O (Qy7.1 ho)
def Fg : LI_->Nat
 |[]=>1|s::r=>(1+(s-1).toNat)*Fg r
def Qej {α β:Type}{f:α->L_ β}:∀{l:L_ α},(∀x∈l,(f x).length<=c)->(l.flatMap f).length<=l.length*c:=by
 intro l
 induction l with
 |nil=>intro _;simp|cons x l ih=>
  intro h;have h1:=ih λy O=>h y (Ys _ O);have h2:=h x Yc;rw[Ay,YZ,WI,Nat.succ_mul];omega
def Qy8 (x:Int)(k:Nat):(upL x k).length=k:=by
 induction k generalizing x with|zero=>rfl|succ k h=>simp[upL,h]
def QwD (l:LI_):(binds l).length<=Fg l:=by
 induction l with
 |nil=>exact Yk _|cons s r h=>
  rw[binds,Fg];have:=Qej (f:=λx=>(binds r).map (x::·)) (c:=Fg r) (l:=0::upL 1 (s-1).toNat) λx _=>by simpa using h
  rw[WI,Qy8]at this;rwa[Nat.add_comm 1]
def QwE (l:LI_)(s:Int):Fg (l++[s])=Fg l*(1+(s-1).toNat):=by
 induction l with|nil=>simp[Fg]|cons x l h=>simp only[QgY,Fg,h,Nat.mul_assoc]
def QwF (l:LI_):0<Fg l:=by
 induction l with|nil=>decide|cons s r h=>exact Nat.mul_pos (by omega) h
def QwG (n:Qc)(m:L_ QBg)(h:Int){O outs:L_ LI_}(p:LI_)(hi:O.length<=16)(ho:outs.length<=16):(GB n m h O outs p).length<=256:=by
 unfold GB;cases YY n m h p with
 |none=>simp|some x=>
  obtain⟨c,b⟩:=x;simp only;split
  ·refine Yq (Qej (c:=16) λe _=>?_) (Jr 16 hi);split
   ·rw[Dx];exact Yq (Vo _ _) ho
   simp
  simp
def Bd (n:Qc):Prop:=∀t∈n.Tasks,(0:Int)∈Yd n t\/Fg (Yd n t)<=1024
def Qq7 (m:L_ QBg)(O:Int)(h:QT n)(hb:Bd n):(Yw n m O).length<=262144:=by
 by_cases e0:Yw n m O=[]
 ·rw[e0];simp
 obtain⟨o,ho⟩:=List.exists_mem_of_ne_nil _ e0;obtain⟨_,e,he,_,_,_,b,hbd,_⟩:=Av.1 ho;obtain⟨k1,k2,_,_,k3,_⟩:=BP h hbd;rw[he]at k1;cases k1;unfold Yw;rw[he];simp only;refine Yq (Qej (c:=256) λp _=>QwG n m O p (Sx _ _).2.1 (Sx _ _).2.1) ?_;have h1:=QwD (Yd n b.task);rcases hb _ k2 with h2|h2
 ·have:=k3.2 0 h2;omega
 omega
def QqI (m:L_ QBg)(h:QT n)(O:Bd n):(KB n m).length<=4194304:=by
 unfold KB;refine Yq (Qej (c:=262144) λk _=>Qq7 m _ h O) ?_;have:=h.tl;rw[QeC];omega
def Qvg (n:Qc)(k:Int)(t:QL)(b:Int)(h:QT n)(ht:idx n.Tasks k=C t)(htm:t∈n.Tasks)(hb:GI n k=C b)(hle:b<=1024):(0:Int)∈Yd n t\/Fg (Yd n t)<=1024:=by
 have hv:=(h.tk t htm).1;have hsz:(Yd n t).length=t.Vars.length:=by simp[Yd]
 have ha:Ks n.Tasks k=C t_:=by
  unfold Ks;unfold idx at ht;split at ht
  ·have:=(Xf.1 ht).1;rw[Ql (by omega),Ql (by omega)];rfl
  cases ht
 have key:Qg (GI n k) λb=>b<=1024->(0:Int)∈Yd n t\/Fg (Yd n t)<=1024:=by
  unfold GI;rw[ha,Qa];simp only[Jq,Qe];rw[ht,Qa];refine T0 (Qg.up t.Vars.length (λst=>st.2) (λst=>st.1=min ((Fg ((Yd n t).take st.2.toNat):Nat):Int) 1025) (Q:=λq:Unit⊕Int=>(q=.inl ()->(0:Int)∈Yd n t)/\∀o,q=.inr o->o=min ((Fg (Yd n t):Nat):Int) 1025) rfl (by show(1:Int)=min ((1:Nat):Int) 1025;omega) (λi st hi hn hJ=>?_)) (λq hq=>?_)
  ·obtain⟨out,x⟩:=st;replace hi:x=(i:Int):=hi;subst hi;replace hJ:out=min ((Fg ((Yd n t).take (i:Int).toNat):Nat):Int) 1025:=hJ;rw[XM]at hJ;show Qg (Cz t n out i) _;unfold Cz;refine T1 (λhc=>?_) (λhc=>T2 (Qp ⟨λe=>(by cases e),λo e=>?_⟩))
   ·simp only[Qw]at hc;have i1:i<t.Vars.length:=by omega
    rw[QG,Qv i1,Qa];refine T0 (KW _ _ h.k.1).self λz hz=>?_;obtain⟨hze,hz⟩:=hz;have hs:(Yd n t)[i]? = C z:=by
     unfold Yd;rw[Yj,Qv i1,Gq,hze];rfl
    refine T1 (λO=>T2 (Qp ⟨λ_=>?_,λo e=>by cases e⟩)) λO=>?_
    ·simp only[beq_iff_eq]at O;subst O;exact XB hs
    simp only[beq_eq_false_iff_ne]at O;have hw:Qh ((i:Int)+1)=((i+1:Nat):Int):=Qo i1 (by unfold maxLen;omega:t.Vars.length<=maxLen);refine T2 (QH ⟨i1,hw,?_⟩);show min2 (Qh (out*z)) 1025=min ((Fg ((Yd n t).take (Qh ((i:Int)+1)).toNat):Nat):Int) 1025;rw[hw,XM,JY,hs];show _=min ((Fg ((Yd n t).take i++[z]):Nat):Int) 1025;rw[QwE];have hp:=QwF ((Yd n t).take i);generalize Fg ((Yd n t).take i)=P at hJ hp ⊢;obtain⟨Z,rfl⟩:∃Z:Nat,z=(Z:Int):=⟨z.toNat,by omega⟩;rw[show 1+((Z:Int)-1).toNat=Z by omega];have hZ:0<Z:=by omega
    have h1:(P:Int)*(Z:Int)=((P*Z:Nat):Int):=by simp
    by_cases c:P<=1025
    ·have:out=(P:Int):=by rw[hJ];omega
     rw[this,h1];have h2:P*Z<=1025*1024:=Nat.mul_le_mul c (by omega);rw[Xb (by omega)];unfold min2;split<;>omega
    have:out=1025:=by rw[hJ];omega
    have h2:P<=P*Z:=Nat.le_mul_of_pos_right P hZ;rw[this,Xb (by omega)];unfold min2;split<;>omega
   cases e;simp only[QU]at hc;rw[hJ,YV (by omega)]
  rcases q with q|q
  ·exact T2 λ_=>.inl (hq.1 rfl)
  refine T2 λhl=>.inr ?_;have:=hq.2 q rfl;omega
 exact WG key hb hle
def Qvh (n1:Qc)(k2:Int)(h:Ko n1 k2=C 0):∃b,GI n1 k2=C b/\b<=1024:=by
 unfold Ko at h;obtain⟨x5,_,h⟩:=QI h;rcases Xy h with⟨_,h⟩|⟨_,h⟩
 ·cases h
 obtain⟨x7,_,h⟩:=QI h;rcases Xy h with⟨c,h⟩|⟨_,h⟩
 ·simp only[Option.some.injEq]at h;rw[h]at c;cases c
 obtain⟨e9,he9,h⟩:=QI h;obtain⟨e10,he10,h⟩:=QI h;obtain⟨_,_,h⟩:=QI h;obtain⟨_,_,h⟩:=QI h;obtain⟨_,_,h⟩:=QI h;obtain⟨_,_,h⟩:=QI h;obtain⟨x15,O,h⟩:=QI h;have bad:∀a b:Int,0<a->x15=(a,b)->False:=λa b ha e=>by
  subst e;simp only at h;rcases Xy h with⟨c,h⟩|⟨_,h⟩
  ·simp only[beq_iff_eq]at c;omega
  simp only[Option.some.injEq]at h;omega
 unfold GU at O;obtain⟨x20,_,O⟩:=QI O;rcases Xy O with⟨_,O⟩|⟨_,O⟩
 ·exact(bad _ _ (by decide) (Option.some.inj O).symm).elim
 obtain⟨x22,_,O⟩:=QI O;rcases Xy O with⟨_,O⟩|⟨_,O⟩
 ·exact(bad _ _ (by decide) (Option.some.inj O).symm).elim
 obtain⟨x24,h24,O⟩:=QI O;rcases Xy O with⟨_,O⟩|⟨c,O⟩
 ·exact(bad _ _ (by decide) (Option.some.inj O).symm).elim
 obtain⟨x26,h26,O⟩:=QI O;rcases Xy O with⟨c2,O⟩|⟨_,O⟩
 ·have e:=(Option.some.inj O).symm;subst e;simp only at h;rcases Xy h with⟨_,h⟩|⟨c3,_⟩
  ·simp only[Option.some.injEq]at h;unfold AM at h26;obtain⟨y,_,h26⟩:=QI h26;simp only[Option.some.injEq]at h26;rw[<-h26]at c2 h;simp only at h;subst h;cases c2
  cases c3
 obtain⟨x28,h28,O⟩:=QI O;rcases Xy O with⟨_,O⟩|⟨c4,O⟩
 ·exact(bad _ _ (by decide) (Option.some.inj O).symm).elim
 unfold IY at h28;obtain⟨b,hb,h28⟩:=QI h28;simp only[Option.some.injEq]at h28;rw[<-h28]at c4;exact⟨b,hb,by simpa using c4⟩
def QAm (n1:Qc)(h:QT n1){p:Vv}(O:Ex n1=C (0,p)):Bd n1:=by
 unfold Ex at O;obtain⟨x6,_,O⟩:=QI O;rcases Xy O with⟨c,O⟩|⟨_,O⟩
 ·simp only[Option.some.injEq,Prod.mk.injEq]at O;rw[O.1]at c;cases c
 obtain⟨x8,_,O⟩:=QI O;rcases Xy O with⟨c,O⟩|⟨_,O⟩
 ·simp only[Option.some.injEq,Prod.mk.injEq]at O;rw[O.1]at c;cases c
 obtain⟨x10,_,O⟩:=QI O;rcases Xy O with⟨c,O⟩|⟨_,O⟩
 ·simp only[Option.some.injEq,Prod.mk.injEq]at O;rw[O.1]at c;cases c
 obtain⟨x12,h12,O⟩:=QI O;rcases Xy O with⟨c,O⟩|⟨c,O⟩
 ·simp only[Option.some.injEq,Prod.mk.injEq]at O;rw[O.1]at c;cases c
 simp only[KA]at c;obtain⟨r,hr,hr2⟩:=Qge n1.Tasks n1 h.k h.k.2.2.1;rw[h12]at hr;cases hr;intro t ht;have htm:=ht;obtain⟨j,hj,rfl⟩:=Ej.1 ht;obtain⟨b,hb,hb2⟩:=Qvh n1 j (hr2 c j hj);exact Qvg n1 j _ b h (by rw[QG,Qv hj]) htm hb hb2
def Qy9 (n1:Qc)(m:L_ QBg)(h:QT n1)(O:CC n1 m=C t_):Bd n1:=by
 unfold CC at O;obtain⟨x5,_,O⟩:=QI O;obtain⟨x6,_,O⟩:=QI O;rcases Xy O with⟨_,O⟩|⟨_,O⟩
 ·cases O
 obtain⟨x11,h11,O⟩:=QI O;obtain⟨x12,h12,O⟩:=QI O;unfold Oc at O;rcases Xy O with⟨_,O⟩|⟨c,_⟩
 ·cases O
 subst c;unfold Oa at h12;rcases Xy h12 with⟨_,h12⟩|⟨c,_⟩
 ·cases h12
 simp only[KA]at c;obtain⟨a,b⟩:=x11;simp only at c;subst c;exact QAm n1 h h11
open Classical in
def Qkn {α:Type}{a b:L_ α}(hl:a.length=b.length)(hm:a.length<=maxLen){body:Int->O_ (Int⊕(Unit⊕Unit))}
  (hs:∀(i:Nat) x y,a[i]? = C x->b[i]? = C y->body (i:Int)=C (bif !(decide (x=y))then .inr (.inl ())else .inl (Qh ((i:Int)+1))))
  (hf:body (a.length:Int)=C (.inr (.inr ()))):Qq body 0=C (bif decide (a=b)then .inr ()else .inl ()):=by
 have h:=TS (body:=body) (l:=a) (λi=>(i:Int)) (λi x=>!(decide (b[i]? = C x))) (.inl ()) (.inr ()) (λi x O hx=>by
  have hy:=Qv (show i<b.length by omega);rw[hs i x _ hx hy,hy,Qo O hm];have:decide (C b[i]=C x)=decide (x=b[i]):=by rw[decide_eq_decide];exact⟨λh=>(Option.some.inj h).symm,λh=>by rw[h]⟩
  rw[this]) hf rfl
 refine Eq.trans h ?_;congr 1;by_cases e:a=b
 ·subst e;have:HI (λi x=>!(decide (a[i]? = C x))) 0 a=f_:=QcK.2 λi x hx=>by simp[hx]
  rw[this];simp
 have:HI (λi x=>!(decide (b[i]? = C x))) 0 a=t_:=by
  rw[<-Qcp,QcK];intro h';refine e (List.ext_getElem? λi=>?_);by_cases O:i<a.length
  ·have:=h' i a[i] (Qv O);simp only[CR,Qw]at this;rw[this,Qv O]
  rw[SA (by omega),SA (by omega)]
 rw[this];simp[e]
open Classical in
def Sd (a b:Int):(a==b)=decide (a=b):=by rw[HN];simp
open Classical in
def ND (a b:Int):(a != b)=!decide (a=b):=by rw[HN];simp
def Bi {α:Type}{l:L_ α}{x:α}(h:l[i]? = C x):idx l (i:Int)=C x:=by rw[QG];exact h
def ZF {α:Type}{l:L_ α}{x:α}(h:l[i]? = C x):decide ((i:Int)<(l.length:Int))=t_:=Ql (by have:=(Xf.1 h).1;omega)
def ZG {n:Nat}:decide ((n:Int)<(n:Int))=f_:=Qn (by omega)
def Qse {α:Type}{a b:L_ α}(h:a.length=b.length):((a.length:Int) != (b.length:Int))=f_:=by simp[h]
def Qpr {α:Type}{a b:L_ α}(h:¬a.length=b.length):((a.length:Int) != (b.length:Int))=t_:=by simp;omega
open Classical in
def QqJ {a b:LI_}(hm:a.length<=maxLen):Di a b=C (decide (a=b)):=by
 unfold Di;by_cases h:a.length=b.length
 ·rw[Qse h,Qkn h hm (λi x y O hy=>by
   show He a b (i:Int)=_;unfold He;rw[ZF O,Bi O,Bi hy];simp only[Qr,Qa,ND];by_cases e:x=y<;>simp[e]) (by
   show He a b (a.length:Int)=_;unfold He;rw[ZG];rfl)]
  by_cases e:a=b<;>simp[e,QeU,QeV]
 rw[Qpr h];have:a≠b:=λe=>h (by rw[e]);simp[this]
open Classical in
def Qza (x y:Int×Int):((x.1==y.1)&&(x.2==y.2))=decide (x=y):=by
 rw[HN];simp[Prod.ext_iff]
open Classical in
def Qzb {a b:QBg}(hm:a.length<=maxLen):ZA a b=C (decide (a=b)):=by
 unfold ZA;by_cases h:a.length=b.length
 ·rw[Qse h,Qkn h hm (λi x y O hy=>by
   show Hp a b (i:Int)=_;unfold Hp;rw[ZF O,Bi O,Bi hy];simp only[Qr,Qa];rw[Qza];by_cases e:x=y<;>simp[e]) (by
   show Hp a b (a.length:Int)=_;unfold Hp;rw[ZG];rfl)]
  by_cases e:a=b<;>simp[e,Qfm,Qfn]
 rw[Qpr h];have:a≠b:=λe=>h (by rw[e]);simp[this]
open Classical in
def QBC {a b:L_ QBg}(hm:a.length<=maxLen)(hx:∀x∈a,x.length<=maxLen):Mt a b=C (decide (a=b)):=by
 unfold Mt;by_cases O:a.length=b.length
 ·rw[Qse O,Qkn O hm (λi x y h hy=>by
   show Um a b (i:Int)=_;unfold Um;rw[ZF h,Bi h,Bi hy];simp only[Qr,Qa];rw[Qzb (hx x (XB h))];by_cases e:x=y<;>simp[e]) (by
   show Um a b (a.length:Int)=_;unfold Um;rw[ZG];rfl)]
  by_cases e:a=b<;>simp[e,ZT,ZU]
 rw[Qpr O];have:a≠b:=λe=>O (by rw[e]);simp[this]
def lenM (o:Qd):Prop:=o.Vars.length<=maxLen/\o.Ins.length<=maxLen/\o.Outs.length<=maxLen
def QAn (a b:Qd):a=b↔a.Task=b.Task/\a.Vars=b.Vars/\a.Ins=b.Ins/\a.Outs=b.Outs:=by
 cases a;cases b;simp
def Qzc (a b:Xj):a=b↔a.Most=b.Most/\a.Enough=b.Enough/\a.Open=b.Open/\a.Done=b.Done/\a.Failed=b.Failed:=by
 cases a;cases b;simp
def QAo (a b:Qm):a=b↔a.Id=b.Id/\a.Mode=b.Mode/\a.Batch=b.Batch/\a.Until=b.Until:=by
 cases a;cases b;simp
def QAp (a b:QF):a=b↔a.M=b.M/\a.Items=b.Items/\a.Next=b.Next/\a.Now=b.Now:=by
 cases a;cases b;simp
open Classical in
def Qzd {a b:Qd}(h:lenM a):ZB a b=C (decide (a=b)):=by
 unfold ZB Qfo Qfp;rw[QqJ h.1,QqJ h.2.1,QqJ h.2.2];simp only[Sd];by_cases O:a.Task=b.Task<;>by_cases e2:a.Vars=b.Vars<;>by_cases e3:a.Ins=b.Ins<;>by_cases e4:a.Outs=b.Outs<;>simp[QAn,O,e2,e3,e4]
open Classical in
def QAq (a b:Xj):((a.Most==b.Most)&&((a.Enough==b.Enough)&&((a.Open==b.Open)&&((a.Done==b.Done)&&(a.Failed==b.Failed)))))=decide (a=b):=by
 rw[HN];simp[Qzc]
open Classical in
def Qze {a b:Qm}(h:lenM a.Mode):Mu a b=C (decide (a=b)):=by
 unfold Mu ZV ZW;rw[Qzd h,QAq];simp only[Sd];by_cases O:a.Id=b.Id<;>by_cases e2:a.Batch=b.Batch<;>by_cases e3:a.Until=b.Until<;>by_cases e4:a.Mode=b.Mode<;>simp[QAo,O,e2,e3,e4]
open Classical in
def QBD {a b:L_ Qm}(hm:a.length<=maxLen)(hx:∀x∈a,lenM x.Mode):Ta a b=C (decide (a=b)):=by
 unfold Ta;by_cases O:a.length=b.length
 ·rw[Qse O,Qkn O hm (λi x y h hy=>by
   show CN a b (i:Int)=_;unfold CN;rw[ZF h,Bi h,Bi hy];simp only[Qr,Qa];rw[Qze (hx x (XB h))];by_cases e:x=y<;>simp[e]) (by
   show CN a b (a.length:Int)=_;unfold CN;rw[ZG];rfl)]
  by_cases e:a=b<;>simp[e,Qec,Qed]
 rw[Qpr O];have:a≠b:=λe=>O (by rw[e]);simp[this]
def Qx7 (c:QF):Prop:=c.M.length<=maxLen/\(∀x∈c.M,x.length<=maxLen)/\c.Items.length<=maxLen/\∀x∈c.Items,lenM x.Mode
open Classical in
def Qvi {a b:QF}(h:Qx7 a):Pi a b=C (decide (a=b)):=by
 unfold Pi Qfq Qfr;rw[QBC h.1 h.2.1,QBD h.2.2.1 h.2.2.2];simp only[Sd];by_cases O:a.Next=b.Next<;>by_cases e2:a.Now=b.Now<;>by_cases e3:a.M=b.M<;>by_cases e4:a.Items=b.Items<;>simp[QAp,O,e2,e3,e4]
def ZX (x:Qm):Prop:=x.Mode.Vars.length<=17592186044416/\x.Mode.Ins.length<=17592186044416/\x.Mode.Outs.length<=17592186044416
def QaI {s:LI_}(h:s.length<=17592186044416):XF s=C s:=by
 unfold XF;rw[Yv (by show(0+s.length)*8<=140737488355328;omega)];simp
def Qq8 (h:ZX x):IA x=C x:=by
 unfold IA;rw[QaI h.1,QaI h.2.1,QaI h.2.2];rfl
def dropL (l:L_ Qm)(id:Int):L_ Qm:=l.filter λx=>x.Id != id
def Qko {l:L_ Qm}{id:Int}(hf:∀x∈l,ZX x)(hl:l.length<=4294967296)(hm:l.length<=maxLen):Ai l id=C (dropL l id):=by
 unfold Ai;have h:=Cf (body:=λst:Int×L_ Qm=>AC l id st.1 st.2) l.length (λi s=>s=((i:Int),dropL (l.take i) id)) (λr=>r=dropL l id) (λi s hi hs=>by
  subst hs;left;have hx:l[i]? = C l[i]:=Qv hi;have htk:l.take (i+1)=l.take i++[l[i]]:=by rw[JY,hx];rfl
  show ∃s',AC l id (i:Int) (dropL (l.take i) id)=_/\_;unfold AC;rw[ZF hx,Bi hx];simp only[Qr,Qa];have hlen:(dropL (l.take i) id).length<=i:=by
   refine Yq (Vo _ _) ?_;simp;omega
  by_cases e:l[i].Id=id
  ·have O:(l[i].Id != id)=f_:=by simp[e]
   rw[O];refine⟨_,rfl,?_⟩;rw[htk];unfold dropL;rw[QaT,Ax,O,Qo hi hm];simp
  ·have O:(l[i].Id != id)=t_:=by simp[e]
   rw[O,Qr,Qq8 (hf _ (Xc hi)),Qa,Yv (by simp;omega),Qa];refine⟨_,rfl,?_⟩;rw[htk];unfold dropL;rw[QaT,Ax,O,Qo hi hm];simp) (λs hs=>by
  subst hs;refine⟨_,?_,rfl⟩;show AC l id (l.length:Int) (dropL (l.take l.length) id)=_;unfold AC;rw[ZG,Uf];rfl) (0,[]) rfl
 obtain⟨r,hr,rfl⟩:=h;rw[hr];rfl
def QaJ (x:Qm):L_ Qm->L_ Qm
 |[]=>[x]|y::r=>if x.Id<y.Id then x::y::r else y::QaJ x r
def QbW (l:L_ Qm)(x:Qm):L_ Qm:=QaJ x (dropL l x.Id)
def Qs5 (x:Qm):∀l:L_ Qm,(QaJ x l).length=l.length+1
 |[]=>rfl|y::r=>by rw[QaJ];split<;>simp[Qs5 x r]
def QjY (x:Qm):∀l:L_ Qm,(QaJ x l).Perm (x::l)
 |[]=>List.Perm.refl _|y::r=>by
  rw[QaJ];split
  ·exact List.Perm.refl _
  exact(List.Perm.cons y (QjY x r)).trans (List.Perm.swap x y r)
def Qq9 (x:Qm):∀(l:L_ Qm) (k:Nat),(match KM (λ_ y=>decide (x.Id<y.Id)) k l with|some i=>k<=i/\i-k<=l.length/\QaJ x l=l.take (i-k)++x::l.drop (i-k)|none=>QaJ x l=l++[x])
 |[],k=>rfl|y::r,k=>by
  rw[KM,QaJ];by_cases h:x.Id<y.Id
  ·simp[h]
  have O:=Qq9 x r (k+1);rw[Qn h,Qe,if_neg h];cases hs:KM (λ_ y=>decide (x.Id<y.Id)) (k+1) r with
  |none=>rw[hs]at O;simp only at O;rw[O];rfl|some i=>
   rw[hs]at O;simp only at O;obtain⟨h1,h2,h3⟩:=O;refine⟨by omega,by simp;omega,?_⟩;rw[h3,show i-k=(i-(k+1))+1 by omega];rfl
def Qx8 {l:L_ Qm}(hm:l.length<=maxLen):JN l x=C ((KM (λ_ y=>decide (x.Id<y.Id)) 0 l).elim (-1) λi=>(i:Int)):=by
 unfold JN;have h:=QbC (body:=λst=>Yi l x st) (l:=l) (λi=>(i:Int)) (λ_ y=>decide (x.Id<y.Id)) (λi=>.inl (i:Int)) (.inr ()) (λi y hi O=>by
  show Yi l x (i:Int)=_;unfold Yi QbK;rw[ZF O,Bi O,Qo hi hm];simp only[Qr,Qa];cases decide (x.Id<y.Id)<;>rfl) (by
  show Yi l x (l.length:Int)=_;unfold Yi;rw[ZG];rfl) (s0:=0) rfl
 rw[h];cases KM (λ_ y=>decide (x.Id<y.Id)) 0 l<;>rfl
def Qra {l:L_ Qm}(h:i<=l.length)(O:l.length+1<=4294967296):YR l (i:Int) [x]=C (l.take i++x::l.drop i):=by
 show(chk _).bind _=_;rw[BO (by simp;omega)];simp
def QBE {α:Type}[Decidable p](h:p)(a b:α):(bif decide p then a else b)=a:=by rw[Ql h];rfl
def QBF {α:Type}[Decidable p](h:¬p)(a b:α):(bif decide p then a else b)=b:=by rw[Qn h];rfl
def Qs6 {l:L_ Qm}(hf:∀x∈l,ZX x)(hx:ZX x)(hl:l.length+1<=4294967296)(hm:l.length<=maxLen):US l x=C (QbW l x):=by
 unfold US;have hd:(dropL l x.Id).length<=l.length:=Vo _ _;rw[Qko hf (by omega) hm,Qa,Qx8 (by omega),Qa];have h:=Qq9 x (dropL l x.Id) 0;unfold PK;rw[Qq8 hx];unfold QbW;cases hs:KM (λ_ y=>decide (x.Id<y.Id)) 0 (dropL l x.Id)with
 |none=>
  rw[hs]at h;simp only at h;rw[h];simp only[Option.elim,Qa];refine(QBE (by decide) _ _).trans ?_;show(YR (dropL l x.Id) ((dropL l x.Id).length:Int) [x]).bind C=_;rw[Qra (Yk _) (by omega)];simp
 |some i=>
  rw[hs]at h;simp only at h;obtain⟨_,O,h3⟩:=h;rw[Nat.sub_zero]at O h3;simp only[Option.elim,Qa];refine(QBF (by omega) _ _).trans ?_;show(YR (dropL l x.Id) (i:Int) [x]).bind C=_;rw[h3,Qra O (by omega)];rfl
def Up (l:L_ Qm):Prop:=l.Pairwise λa b=>a.Id<b.Id
def Up.drop {l:L_ Qm}(h:Up l)(id:Int):Up (dropL l id):=List.Pairwise.filter _ h
def QaK {l:L_ Qm}{id:Int}:x∈dropL l id↔x∈l/\x.Id≠id:=by simp[dropL,FP]
def Up.ins:∀{l:L_ Qm},Up l->(∀y∈l,y.Id≠x.Id)->Up (QaJ x l)
 |[],_,_=>Qka _ _|y::r,h,hn=>by
  obtain⟨h1,h2⟩:=Bu.1 h;rw[QaJ];split
  ·rename_i hlt;refine Bu.2 ⟨λz O=>?_,h⟩;rcases XP.1 O with rfl|O
   ·exact hlt
   have:=h1 z O;omega
  rename_i hge;have hy:=hn y Yc;refine Bu.2 ⟨λz O=>?_,Up.ins h2 λz O=>hn z (Ys _ O)⟩;rcases XP.1 ((QjY x r).mem_iff.1 O)with rfl|O
  ·omega
  exact h1 z O
def Up.put {l:L_ Qm}(h:Up l)(x:Qm):Up (QbW l x):=(h.drop x.Id).ins λy O=>(QaK.1 O).2
def Quh {l:L_ Qm}{z:Qm}:z∈QbW l x↔z=x\/(z∈l/\z.Id≠x.Id):=by
 unfold QbW;rw[(QjY x _).mem_iff,XP,QaK]
def Hs (n O h:Int):GE n O h=C (decide (O<=n)&&decide (n<=h)):=rfl
open Classical in
def Qnv (b:Xj):∃r,JR b=C r:=by
 unfold JR NN;simp only[Hs,Qa];have h:∀c:Bool,∃r,EG b c=C r:=λc=>by
  unfold EG;cases c with
  |true=>exact⟨_,rfl⟩|false=>
   have h:=TS (body:=λst=>Yy b st) (l:=[b.Open,b.Done,b.Failed]) (λi=>(i:Int)) (λ_ x=>!(decide (0<=x)&&decide (x<=b.Most))) (.inl ()) (.inr ()) (λi x hi O=>by
    show Yy b (i:Int)=_;unfold Yy;rw[ZF O,Bi O,Qo hi (by show 3<=_;decide)];simp only[Qr,Qa,Hs];cases (!(decide (0<=x)&&decide (x<=b.Most)))<;>rfl) (by
    show Yy b (([b.Open,b.Done,b.Failed].length:Nat):Int)=_;unfold Yy;rw[ZG];rfl) (s0:=0) rfl
   rw[Qe,h];cases HI (λ(_:Nat) (x:Int)=>!(decide (0<=x)&&decide (x<=b.Most))) 0 [b.Open,b.Done,b.Failed]<;>exact⟨_,rfl⟩
 cases (!(decide (1<=b.Most)&&decide (b.Most<=16)))with|true=>exact h _|false=>exact h _
def Mw (b:Xj):Bool:=((JR b).getD f_)&&!(((KU b).getD t_))
def Qs7 (b:Xj):∃r,KU b=C r:=by
 obtain⟨r,h⟩:=Qnv b;unfold KU PF Qae;rw[h];cases r with
 |true=>simp only[Qa,Qr];cases decide (b.Enough<=b.Done)<;>exact⟨_,rfl⟩
 |false=>exact⟨_,rfl⟩
def Qzf (b:Xj):((JR b).bind λx=>bif !x then C t_ else(KU b).bind λy=>C y)=C (!Mw b):=by
 obtain⟨r,O⟩:=Qnv b;obtain⟨q,h⟩:=Qs7 b;unfold Mw;rw[O,h];cases r<;>cases q<;>rfl
def Bs (next h:Int)(x:Qm):Bool:=decide (h<x.Id)&&decide (x.Id<next)&&decide (0<=x.Until)&&Mw x.Batch
def upF (next:Int):Int->L_ Qm->Bool
 |_,[]=>t_|h,x::l=>Bs next h x&&upF next x.Id l
def Qzg (x:Qm)(h next:Int):Tq x h next=C (!Bs next h x):=by
 unfold Tq;have:=Qzf x.Batch;unfold Bs;by_cases O:x.Id<=h
 ·rw[Ql O,Qn (show ¬h<x.Id by omega)];rfl
 rw[Qn O,Ql (show h<x.Id by omega)];by_cases h2:next<=x.Id
 ·rw[Ql h2,Qn (show ¬x.Id<next by omega)];rfl
 rw[Qn h2,Ql (show x.Id<next by omega)];by_cases h3:x.Until<0
 ·rw[Ql h3,Qn (show ¬0<=x.Until by omega)];rfl
 rw[Qn h3,Ql (show 0<=x.Until by omega)];simp only[Qe,QaQ];exact this
def Qx9 {l:L_ Qm}(hm:l.length<=maxLen):SF l next=C (upF next 0 l&&decide ((l.length:Int)<=64)):=by
 unfold SF;have h:=Pj (body:=λst:Int×Int=>Uw l next st.1 st.2) (l:=l) (λi t=>(t,(i:Int))) (λi t x=>bif Bs next t x then .inl x.Id else .inr (.inl ())) (λ_=>.inr ()) (λi t x hi O=>by
  show Uw l next t (i:Int)=_;unfold Uw Qdj;rw[ZF O,Bi O,Qo hi hm];simp only[Qr,Qa,Qzg];cases Bs next t x<;>rfl) (λt=>by
  show Uw l next t (l.length:Int)=_;unfold Uw;rw[ZG];rfl) 0 (s0:=(0,0)) rfl
 rw[h];have key:∀(l:L_ Qm) (i:Nat) (t:Int),UW (λ(_:Nat) (t:Int) (x:Qm)=>bif Bs next t x then Sum.inl x.Id else Sum.inr (Sum.inl ())) (λ_=>(Sum.inr ():Unit⊕Unit)) i t l=bif upF next t l then .inr ()else .inl ():=by
  intro l
  induction l with
  |nil=>intro i t;rfl|cons x l ih=>
   intro i t;rw[UW,upF];cases Bs next t x with|true=>simpa using ih (i+1) x.Id|false=>rfl
 rw[key];cases upF next 0 l<;>rfl
def Lm:∀{l:L_ Qm} {O:Int},upF next O l=t_↔Up l/\∀x∈l,O<x.Id/\x.Id<next/\0<=x.Until/\Mw x.Batch=t_
 |[],O=>⟨λ_=>⟨List.Pairwise.nil,λx h=>by cases h⟩,λ_=>rfl⟩
 |x::l,O=>by
  rw[upF,QN,Lm (l:=l)];unfold Bs Up;simp only[QN,Qw,Bu,XP,forall_eq_or_imp];constructor
  ·rintro ⟨⟨⟨⟨a1,a2⟩,a3⟩,a4⟩,a5,a6⟩;exact⟨⟨λy hy=>(a6 y hy).1,a5⟩,⟨a1,a2,a3,a4⟩,λy hy=>⟨by have:=(a6 y hy).1;omega,(a6 y hy).2⟩⟩
  rintro ⟨⟨a1,a5⟩,⟨b1,b2,b3,b4⟩,a6⟩;exact⟨⟨⟨⟨b1,b2⟩,b3⟩,b4⟩,a5,λy hy=>⟨a1 y hy,(a6 y hy).2⟩⟩
def lens (x:Qm):Nat:=x.Mode.Vars.length+x.Mode.Ins.length+x.Mode.Outs.length
def ZX.of (h:lens x<=1000):ZX x:=by unfold lens at h;unfold ZX;omega
def Qzh {m:Qd}(h:m.Vars.length<=17592186044416/\m.Ins.length<=17592186044416/\m.Outs.length<=17592186044416):lenM m:=by
 have:(17592186044416:Nat)<=maxLen:=by decide
 exact⟨Yq h.1 this,Yq h.2.1 this,Yq h.2.2 this⟩
section
variable {Pe:Int->Int->Prop}
def HOk (Pe:Int->Int->Prop)(l:L_ (O_ Nat))(t:L_ Qk):Prop:=(∀o∈l,∃k,o=C k/\k<t.length)/\∀e∈t,Pe e.id e.at_
def HOk.at (h:HOk Pe l t){i:Int}(h0:0<=i)(h1:i<l.length):∃k e,idx l i=C (C k)/\t[k]? = C e/\k<t.length/\Pe e.id e.at_/\C k∈l:=by
 have hi:i.toNat<l.length:=by omega
 obtain⟨k,hk,O⟩:=h.1 _ (Xc hi);refine⟨k,t[k],?_,Qv O,O,h.2 _ (Xc O),?_⟩
 ·rw[DO h0,Qv hi,hk]
 rw[<-hk];exact Xc hi
def HOk.setT (h:HOk Pe l t)(hk:t[k]? = C e)(v:Int):HOk Pe l (t.set k ⟨e.id,e.at_,v⟩):=by
 refine⟨λo ho=>?_,λx O=>?_⟩
 ·obtain⟨j,h1,h2⟩:=h.1 o ho;exact⟨j,h1,by rw[QgZ];exact h2⟩
 rcases Qg1 O with O|rfl
 ·exact h.2 x O
 exact h.2 e (XB hk)
def HOk.setL (h:HOk Pe l t){o:O_ Nat}(ho:o∈l)(i:Nat):HOk Pe (l.set i o) t:=by
 refine⟨λx O=>?_,h.2⟩;rcases Qg1 O with O|rfl
 ·exact h.1 x O
 exact h.1 _ ho
def Qya {a b:Nat}(h:a<=b){o:O_ Nat}(O:okP a o=t_):okP b o=t_:=by
 cases o with|none=>rfl|some k=>simp only[okP,Qw]at O ⊢;omega
def Qyb {m:L_ (Int×O_ Nat)}{k:Int}{v:O_ Nat}{q:Int×O_ Nat}(h:q∈YQ UP m k v):q=(k,v)\/q∈m:=by
 have ins:∀m:L_ (Int×O_ Nat),q∈Nl UP m k v->q=(k,v)\/q∈m:=by
  intro m
  induction m with
  |nil=>intro h;exact .inl (by simpa[Nl] using h)|cons p m O=>
   obtain⟨a,x⟩:=p;intro h;rw[Nl]at h;split at h
   ·rcases XP.1 h with h|h
    ·exact .inl h
    exact .inr h
   rcases XP.1 h with h|h
   ·exact .inr (h▸Yc)
   exact(O h).imp id (Ys _)
 have rep:∀m:L_ (Int×O_ Nat),q∈OH m k v->q=(k,v)\/q∈m:=by
  intro m
  induction m with
  |nil=>intro h;cases h
  |cons p m O=>
   obtain⟨a,x⟩:=p;intro h;rw[OH]at h;split at h
   ·rcases XP.1 h with h|h
    ·exact .inl h
    exact .inr (Ys _ h)
   rcases XP.1 h with h|h
   ·exact .inr (h▸Yc)
   exact(O h).imp id (Ys _)
 unfold YQ at h;split at h
 ·exact rep m h
 exact ins m h
end
def QqK {l:L_ Qm}{id:Int}(hm:l.length<=maxLen):KR l id=C ((KM (λ_ y=>y.Id==id) 0 l).elim (-1) λi=>(i:Int)):=by
 unfold KR Wr;have h:=QbC (body:=λst=>Yh l id st) (l:=l) (λi=>(i:Int)) (λ_ y=>y.Id==id) (λi=>.inl (i:Int)) (.inr ()) (λi y hi O=>by
  show Yh l id (i:Int)=_;unfold Yh Qah;rw[ZF O,Bi O,Qo hi hm];simp only[Qr,Qa];cases (y.Id==id)<;>rfl) (by
  show Yh l id (l.length:Int)=_;unfold Yh;rw[ZG];rfl) (s0:=0) rfl
 rw[h];cases KM (λ_ y=>y.Id==id) 0 l<;>rfl
def Qrb {l:L_ Qm}{id:Int}(hm:l.length<=maxLen)(h:∀x∈l,x.Id≠id):KR l id=C (-1):=by
 rw[QqK hm];cases hs:KM (λ_ y=>y.Id==id) 0 l with
 |none=>rfl|some i=>
  obtain⟨j,x,_,hx,O⟩:=QcL hs;exact absurd (by simpa using O) (h x (XB hx))
def Qfx {l:L_ Qm}{id:Int}(hm:l.length<=maxLen)(hx:x∈l)(h:x.Id=id):∃i:Nat,∃y,KR l id=C (i:Int)/\l[i]? = C y/\y.Id=id:=by
 rw[QqK hm];cases O:KM (λ_ y=>y.Id==id) 0 l with
 |none=>
  obtain⟨i,hi,rfl⟩:=Ej.1 hx;have:=Qo6 O i _ (Qv hi);simp[h]at this
 |some i=>
  obtain⟨j,y,e,hy,h⟩:=QcL O;rw[Gp]at e;subst e;exact⟨i,y,rfl,hy,by simpa using h⟩
def Up.inj : ∀{l:L_ Qm},Up l->∀{x y:Qm},x∈l->y∈l->x.Id=y.Id->x=y
 |[],_,_,_,h,_,_=>by cases h
 |z::l,h,x,y,hx,hy,e=>by
  obtain⟨h1,h2⟩:=Bu.1 h;rcases XP.1 hx with ex|hx'
  ·rcases XP.1 hy with ey|O
   ·rw[ex,ey]
   have:=h1 y O;rw[ex]at e;omega
  rcases XP.1 hy with ey|O
  ·have:=h1 x hx';rw[ey]at e;omega
  exact Up.inj h2 hx' O e
def QwH {l:L_ Qm}{id:Int}(h:∀x∈l,x.Id≠id):dropL l id=l:=List.filter_eq_self.2 λx O=>by simpa using h x O
def Qnw : ∀{l:L_ Qm} {x:Qm},Up l->x∈l->(dropL l x.Id).length+1=l.length
 |[],_,_,h=>by cases h
 |z::l,x,h,O=>by
  obtain⟨h1,h2⟩:=Bu.1 h;unfold dropL;rcases XP.1 O with rfl|O
  ·have hn:∀y∈l,y.Id≠x.Id:=λy hy=>by have:=h1 y hy;omega
   rw[Ax,if_neg (by simp)];have:=QwH hn;unfold dropL at this;rw[this];rfl
  have:=h1 x O;have ih:=Qnw h2 O;unfold dropL at ih;rw[Ax,if_pos (by simp;omega),WI,ih,WI]
abbrev Ky := Int×Int
def Lw (a b:Ky):Prop:=a.1<b.1\/(a.1=b.1/\a.2<b.2)
instance (a b:Ky):Decidable (Lw a b):=by unfold Lw;infer_instance
def Dq (a b:Ky):Prop:=¬Lw b a
def Dq.refl (a:Ky):Dq a a:=by unfold Dq Lw;omega
def Dq.trans {a b c:Ky}(h:Dq a b)(k:Dq b c):Dq a c:=by unfold Dq Lw at *;omega
def Lw.le {a b:Ky}(h:Lw a b):Dq a b:=by unfold Dq Lw at *;omega
def Dq.anti {a b:Ky}(h:Dq a b)(k:Dq b a):a=b:=by
 obtain⟨O,a2⟩:=a;obtain⟨b1,b2⟩:=b;unfold Dq Lw at *;simp only at h k;have:O=b1:=by omega
 have:a2=b2:=by omega
 subst_vars;rfl
def Dq.tot {a b:Ky}(h:¬Dq a b):Dq b a:=by unfold Dq Lw at *;omega
def gt (K:L_ Ky)(i:Nat):Ky:=K.getD i (0,0)
def Qps {K:L_ Ky}(h:i<K.length):gt K i=K[i]:=by simp[gt,h]
def swp (i j:Nat)(K:L_ Ky):L_ Ky:=(K.set i (gt K j)).set j (gt K i)
def Qkp {K:L_ Ky}(hi:i<K.length)(hj:j<K.length)(c:Nat):gt (swp i j K) c=if c=j then gt K i else if c=i then gt K j else gt K c:=by
 unfold swp
 conv=>lhs;unfold gt
 rw[Sy];by_cases h:c=j
 ·subst h;rw[if_pos rfl,Vn (by simpa using hj)];rfl
 rw[if_neg h,Vl (Ne.symm h)];by_cases O:c=i
 ·subst O;rw[if_pos rfl,Vn hi];rfl
 rw[if_neg O,Vl (Ne.symm O)];unfold gt;rw[Sy]
def Qnx {K:L_ Ky}(hi:i<K.length)(hj:j<K.length):(swp i j K).Perm K:=by
 rw[List.perm_iff_count];intro a;unfold swp;rw[Qps hi,Qps hj];have h1:j<(K.set i K[j]).length:=by simpa using hj
 rw[List.count_set h1,List.count_set hi];have hget:(K.set i K[j])[j]=K[j]:=by
  rw[List.getElem_set];split<;>simp_all
 rw[hget];have c1:K[i]∈K:=Xc hi;have c2:K[j]∈K:=Xc hj;by_cases h:K[i]=a<;>by_cases O:K[j]=a
 ·have:=List.count_pos_iff.2 (h▸c1);simp[h,O];omega
 ·have:=List.count_pos_iff.2 (h▸c1);simp[h,O];omega
 ·have:=List.count_pos_iff.2 (O▸c2);simp[h,O]
 simp[h,O]
def QaL (n:Nat)(K:L_ Ky):Prop:=∀c,0<c->c<n->Dq (gt K ((c-1) / 2)) (gt K c)
def QaL.min {n:Nat}{K:L_ Ky}(h:QaL n K):∀c,c<n->Dq (gt K 0) (gt K c):=by
 intro c
 induction c using Nat.strongRecOn with
 |ind c ih=>
  intro hc;by_cases O:c=0
  ·subst O;exact Dq.refl _
  exact(ih ((c-1) / 2) (by omega) (by omega)).trans (h c (by omega) hc)
def QhR (n:Nat)(K:L_ Ky)(j:Nat):Prop:=(∀c,0<c->c<n->c≠j->Dq (gt K ((c-1) / 2)) (gt K c))/\∀c,0<c->c<n->(c-1) / 2=j->0<j->Dq (gt K ((j-1) / 2)) (gt K c)
def QhR.done {n:Nat}{K:L_ Ky}(h:QhR n K j)(O:j=0\/Dq (gt K ((j-1) / 2)) (gt K j)):QaL n K:=λc h0 hc=>by
 by_cases e:c=j
 ·subst e;rcases O with rfl|O
  ·omega
  exact O
 exact h.1 c h0 hc e
def QhR.up {n:Nat}{K:L_ Ky}(h:QhR n K j)(hj:j<n)(hn:n<=K.length)(h0:j≠0)(hlt:Lw (gt K j) (gt K ((j-1) / 2))):QhR n (swp ((j-1) / 2) j K) ((j-1) / 2):=by
 have hi:(j-1) / 2<K.length:=by omega
 have hj2:j<K.length:=by omega
 have g:=Qkp (i:=(j-1) / 2) (j:=j) hi hj2;generalize hI:(j-1) / 2=i at *;have hij:i<j:=by omega
 constructor
 ·intro c O cn ci;rw[g,g];by_cases e:c=j
  ·subst e;rw[if_pos rfl,hI,if_neg (by omega),if_pos rfl];exact hlt.le
  rw[if_neg e,if_neg ci];by_cases p:(c-1) / 2=j
  ·rw[if_pos p];have:=h.2 c O cn p (by omega);rwa[hI]at this
  rw[if_neg p];by_cases p2:(c-1) / 2=i
  ·rw[if_pos p2];have:=h.1 c O cn e;rw[p2]at this;exact hlt.le.trans this
  rw[if_neg p2];exact h.1 c O cn e
 intro c O cn p i0;have hp:(i-1) / 2<i:=by omega
 rw[g,g,if_neg (by omega),if_neg (by omega)];have hgi:Dq (gt K ((i-1) / 2)) (gt K i):=h.1 i i0 (by omega) (by omega);by_cases e:c=j
 ·subst e;rw[if_pos rfl];exact hgi
 rw[if_neg e,if_neg (by omega)];have:=h.1 c O cn e;rw[p]at this;exact hgi.trans this
def QhS (n:Nat)(K:L_ Ky)(i:Nat):Prop:=(∀c,0<c->c<n->(c-1) / 2≠i->Dq (gt K ((c-1) / 2)) (gt K c))/\∀c,0<c->c<n->(c-1) / 2=i->0<i->Dq (gt K ((i-1) / 2)) (gt K c)
def QhS.done {n:Nat}{K:L_ Ky}(h:QhS n K i)(hc:∀c,0<c->c<n->(c-1) / 2=i->Dq (gt K i) (gt K c)):QaL n K:=λc h0 O=>by
 by_cases e:(c-1) / 2=i
 ·rw[e];exact hc c h0 O e
 exact h.1 c h0 O e
def QhS.down {n:Nat}{K:L_ Ky}(h:QhS n K i)(hj:j<n)(hn:n<=K.length)(hp:(j-1) / 2=i)(h0:0<j)(hlt:Lw (gt K j) (gt K i))(ho:∀c,0<c->c<n->(c-1) / 2=i->Dq (gt K j) (gt K c)):QhS n (swp i j K) j:=by
 have hij:i<j:=by omega
 have g:=Qkp (i:=i) (j:=j) (K:=K) (by omega) (by omega);constructor
 ·intro c O cn p;rw[g,g,if_neg p];by_cases e:c=j
  ·subst e;rw[if_pos rfl,hp,if_pos rfl];exact hlt.le
  rw[if_neg e];by_cases p2:(c-1) / 2=i
  ·rw[if_pos p2,if_neg (by omega)];exact ho c O cn p2
  rw[if_neg p2];by_cases e2:c=i
  ·subst e2;rw[if_pos rfl];exact h.2 j h0 hj hp O
  rw[if_neg e2];exact h.1 c O cn p2
 intro c O cn p _;rw[g,g,hp,if_neg (by omega),if_pos rfl,if_neg (by omega),if_neg (by omega)];have:=h.1 c O cn (by omega);rwa[p]at this
def Srt (S:L_ Ky):Prop:=S.Pairwise Dq
def Qyc {s:Ky}{S K:L_ Ky}(hS:Srt (s::S))(hp:(s::S).Perm K)(hh:QaL K.length K)(O:0<K.length):gt K 0=s:=by
 have h1:gt K 0∈s::S:=hp.mem_iff.2 (by rw[Qps O];exact Xc O);have h2:Dq s (gt K 0):=by
  rcases XP.1 h1 with h|h
  ·rw[h];exact Dq.refl _
  exact List.rel_of_pairwise_cons hS h
 have h3:s∈K:=hp.mem_iff.1 Yc;obtain⟨i,hi,rfl⟩:=Ej.1 h3;have:=hh.min i hi;rw[Qps hi]at this;exact this.anti h2
def ky (t:L_ Qk)(o:O_ Nat):Ky:=match o with
 |some k=>match t[k]? with|some e=>(e.at_,e.id)|none=>(0,0)
 |none=>(0,0)
def QcV (t:L_ Qk)(k:Nat):ky t (C k)=match t[k]? with|some e=>(e.at_,e.id)|none=>(0,0):=rfl
def Jc (t:L_ Qk)(l:L_ (O_ Nat)):L_ Ky:=l.map (ky t)
abbrev ZY (l:L_ (O_ Nat))(t:L_ Qk):Prop:=HOk (λ_ _=>True) l t
def Ei (t:L_ Qk)(l:L_ (O_ Nat)):(Jc t l).length=l.length:=by simp[Jc]
def Qs8 (h:ZY l t)(hi:i<l.length):∃k e,idx l (i:Int)=C (C k)/\t[k]? = C e/\gt (Jc t l) i=(e.at_,e.id):=by
 obtain⟨k,e,O,h2,_⟩:=h.at (i:=(i:Int)) (by omega) (by omega);refine⟨k,e,O,h2,?_⟩;rw[QG]at O;unfold gt Jc;rw[Sy,Yj,O];show ky t (C k)=_;rw[QcV,h2]
def QhT (h:ZY l t)(hi:i<l.length)(hj:j<l.length):DG l i j t=C (decide (Lw (gt (Jc t l) i) (gt (Jc t l) j))):=by
 obtain⟨k,e,h1,h2,h3⟩:=Qs8 h hi;obtain⟨k',e',h1',h2',h3'⟩:=Qs8 h hj;unfold DG Rr Ru;simp only[h1,h1',h2,h2',Qa,h3,h3'];have hd:∀p:Prop,[Decidable p]->(p↔Lw (e.at_,e.id) (e'.at_,e'.id))->decide p=decide (Lw (e.at_,e.id) (e'.at_,e'.id)):=λp _ hp=>decide_eq_decide.2 hp;by_cases O:e.at_<e'.at_
 ·rw[Ql O,Qr,Qa,Ql (show Lw _ _ from .inl O)]
 rw[Qn O,Qe];by_cases c2:e.at_=e'.at_
 ·rw[show(e.at_==e'.at_)=t_ by simpa using c2,Qr,Qa];exact congrArg C (hd _ ⟨λh=>.inr ⟨c2,h⟩,λh=>by rcases h with h|h;exact absurd h O;exact h.2⟩)
 rw[show(e.at_==e'.at_)=f_ by simpa using c2,Qe,Qa,Qn];rintro (h|h)
 ·exact O h
 exact c2 h.1
def Qs9 (h:t[k]? = C e)(v:Int)(o:O_ Nat):ky (t.set k ⟨e.id,e.at_,v⟩) o=ky t o:=by
 cases o with
 |none=>rfl|some m=>
  rw[QcV,QcV];by_cases c:k=m
  ·subst c;have:=(Xf.1 h).1;rw[Vn this,h]
  rw[Vl c]
def Qny (h:ZY l t)(hi:i<l.length)(hj:j<l.length):
  ∃p,Wl l i j t=C p/\ZY p.1 p.2/\p.1.length=l.length/\p.2.length=t.length/\Jc p.2 p.1=swp i j (Jc t l):=by
 obtain⟨k,e,h1,h2,h3,_,m1⟩:=h.at (i:=(i:Int)) (by omega) (by omega);obtain⟨k',e',h1',h2',h3',_,m1'⟩:=h.at (i:=(j:Int)) (by omega) (by omega);have hA:ZY (l.set (i:Int).toNat (C k')) t:=h.setL m1' _;have lA:(l.set (i:Int).toNat (C k')).length=l.length:=QgZ;obtain⟨kA,eA,hA1,hA2,_⟩:=hA.at (i:=(j:Int)) (by omega) (by rw[lA];omega);have hB:ZY ((l.set (i:Int).toNat (C k')).set (j:Int).toNat (C k)) t:=by
  refine⟨λx hx=>?_,h.2⟩;rcases Qg1 hx with hx|rfl
  ·exact hA.1 x hx
  exact h.1 _ m1
 have lB:((l.set (i:Int).toNat (C k')).set (j:Int).toNat (C k)).length=l.length:=by rw[QgZ,QgZ]
 obtain⟨k1,O,g1,g2,_⟩:=hB.at (i:=(i:Int)) (by omega) (by rw[lB];omega);obtain⟨k2,e2,f1,f2,f3,_⟩:=hB.at (i:=(j:Int)) (by omega) (by rw[lB];omega);have hC:=hB.setT g2 (i:Int);have lt2:k2<(t.set k1 ⟨O.id,O.at_,(i:Int)⟩).length:=by rw[QgZ];exact f3
 have g3:(t.set k1 ⟨O.id,O.at_,(i:Int)⟩)[k2]? = C (t.set k1 ⟨O.id,O.at_,(i:Int)⟩)[k2]:=Qv lt2;have hD:=hC.setT g3 (j:Int);refine⟨(_,_),?_,hD,lB,by simp,?_⟩
 ·unfold Wl;simp only[h1,h1',hA1,g1,f1,g2,g3,Qa]
 have e1':gt (Jc t l) i=ky t (C k):=by
  rw[QG]at h1;unfold gt Jc;rw[Sy,Yj,h1];rfl
 have e2':gt (Jc t l) j=ky t (C k'):=by
  rw[QG]at h1';unfold gt Jc;rw[Sy,Yj,h1'];rfl
 unfold swp;rw[e1',e2'];show List.map _ _=_;have hf:∀o,ky ((t.set k1 ⟨O.id,O.at_,(i:Int)⟩).set k2 ⟨(t.set k1 ⟨O.id,O.at_,(i:Int)⟩)[k2].id,(t.set k1 ⟨O.id,O.at_,(i:Int)⟩)[k2].at_,(j:Int)⟩) o=ky t o:=λo=>by rw[Qs9 g3,Qs9 g2]
 rw[QaV λo _=>hf o,List.map_set,List.map_set];rfl
def QAr : ∀(j:Nat) {l:L_ (O_ Nat)} {t:L_ Qk},ZY l t->j<l.length->l.length<=4000000->
  ∃p,Qq (λst=>UT st.1 st.2.1 st.2.2) ((j:Int),t,l)=C p/\ZY p.2 p.1/\p.2.length=l.length/\p.1.length=t.length/\(Jc p.1 p.2).Perm (Jc t l)/\(QhR l.length (Jc t l) j->QaL l.length (Jc p.1 p.2)):=by
 intro j
 induction j using Nat.strongRecOn with
 |ind j ih=>
  intro l t h hj hl;have hi:(Qh (Int.tdiv (Qh ((j:Int)-1)) 2))=(((j-1) / 2:Nat):Int):=by
   by_cases h0:j=0
   ·subst h0;decide
   rw[Xb (n:=(j:Int)-1) (by omega)];have:Int.tdiv ((j:Int)-1) 2=(((j-1) / 2:Nat):Int):=by
    rw[show(j:Int)-1=((j-1:Nat):Int) by omega];exact(Int.ofNat_tdiv (j-1) 2).symm
   rw[this,Xb (by omega)]
  rw[Yl];show ∃p,(UT (j:Int) t l).bind _=C p/\_;unfold UT So;rw[hi];by_cases e:(j-1) / 2=j
  ·have h0:j=0:=by omega
   rw[e,beq_self_eq_true];exact⟨_,rfl,h,rfl,rfl,List.Perm.refl _,λO=>O.done (.inl h0)⟩
  have e1:((((j-1) / 2:Nat):Int)==(j:Int))=f_:=by simp;omega
  have hlt:(j-1) / 2<j:=by omega
  rw[e1,Qe,QhT h hj (by omega),Qa,Qa];unfold Sp;by_cases c:Lw (gt (Jc t l) j) (gt (Jc t l) ((j-1) / 2))
  ·rw[Ql c,hi];obtain⟨p,hp,h1,h2,h3,h4⟩:=Qny h (i:=(j-1) / 2) (j:=j) (by omega) hj;rw[Jq,Qe,hp,Qa,Yv h2,Qa];obtain⟨q,g1,g2,g3,g4,g5,g6⟩:=ih ((j-1) / 2) hlt h1 (by omega) (by omega);refine⟨q,g1,g2,by omega,by omega,?_,λO=>?_⟩
   ·rw[h4]at g5;exact g5.trans (Qnx (by rw[Ei];omega) (by rw[Ei];omega))
   rw[h4,h2]at g6;exact g6 (O.up hj (by rw[Ei];exact Yk _) (by omega) c)
  rw[Qn c];exact⟨_,rfl,h,rfl,rfl,List.Perm.refl _,λO=>O.done (.inr c)⟩
def Qzi {n:Nat}(h:ZY l t)(hi:i<l.length)(hn:n<=l.length)(hl:l.length<=4000000):
  (n<=2*i+1/\KS (n:Int) (i:Int) t l=C (.inr ((i:Int),t,l)))\/
  ∃j:Nat,i<j/\j<n/\(j-1) / 2=i/\(∀c,0<c->c<n->(c-1) / 2=i->Dq (gt (Jc t l) j) (gt (Jc t l) c))/\KS (n:Int) (i:Int) t l=Jn l (i:Int) t (j:Int):=by
 unfold KS;have e1:Qh ((Qh (2*(i:Int)))+1)=((2*i+1:Nat):Int):=by
  rw[Qki,Xb (by omega)];omega
 have e2:Qh (((2*i+1:Nat):Int)+1)=((2*i+2:Nat):Int):=by rw[Xb (by omega)];omega
 rw[e1];by_cases hc:n<=2*i+1
 ·rw[Ql (show(n:Int)<=((2*i+1:Nat):Int) by omega)];exact .inl ⟨hc,rfl⟩
 right;rw[Qn (show ¬(n:Int)<=((2*i+1:Nat):Int) by omega),Qn (show ¬((2*i+1:Nat):Int)<0 by omega),Vk,Qe];unfold OU;rw[e1,e2];have two:∀c,0<c->c<n->(c-1) / 2=i->c=2*i+1\/c=2*i+2:=λc O cn p=>by omega
 by_cases hc2:2*i+2<n
 ·rw[Ql (show((2*i+2:Nat):Int)<(n:Int) by omega),Qr,QhT h (by omega) (by omega),Qa,Qa];unfold Cx;rw[e1,e2];by_cases cl:Lw (gt (Jc t l) (2*i+2)) (gt (Jc t l) (2*i+1))
  ·rw[Ql cl];exact⟨2*i+2,by omega,hc2,by omega,λc O cn p=>by
    rcases two c O cn p with rfl|rfl
    ·exact cl.le
    exact Dq.refl _,rfl⟩
  rw[Qn cl];exact⟨2*i+1,by omega,by omega,by omega,λc O cn p=>by
   rcases two c O cn p with rfl|rfl
   ·exact Dq.refl _
   exact cl,rfl⟩
 rw[Qn (show ¬((2*i+2:Nat):Int)<(n:Int) by omega),Qe,Qa];unfold Cx;rw[e1];exact⟨2*i+1,by omega,by omega,by omega,λc O cn p=>by
  have:c=2*i+1:=by omega
  subst this;exact Dq.refl _,rfl⟩
def Qyd {n:Nat}:∀(m i:Nat) {l:L_ (O_ Nat)} {t:L_ Qk},n-i=m->ZY l t->i<l.length->n<=l.length->l.length<=4000000->
  ∃p,Qq (λst=>KS (n:Int) st.1 st.2.1 st.2.2) ((i:Int),t,l)=C p/\ZY p.2.2 p.2.1/\p.2.2.length=l.length/\p.2.1.length=t.length/\(Jc p.2.1 p.2.2).Perm (Jc t l)/\(∀c,n<=c->gt (Jc p.2.1 p.2.2) c=gt (Jc t l) c)/\
   (QhS n (Jc t l) i->QaL n (Jc p.2.1 p.2.2)):=by
 intro m
 induction m using Nat.strongRecOn with
 |ind m ih=>
  intro i l t hm h hi hn hl;rw[Yl];rcases Qzi h hi hn hl with⟨hc,hs⟩|⟨j,hij,hj,hpj,ho,hs⟩
  ·exact⟨((i:Int),t,l),(congrArg (λo=>Option.bind o _) hs).trans rfl,h,rfl,rfl,List.Perm.refl _,λ_ _=>rfl,λO=>O.done λc _ cn p=>by omega⟩
  by_cases c:Lw (gt (Jc t l) j) (gt (Jc t l) i)
  ·obtain⟨p,hp,h1,h2,h3,h4⟩:=Qny h (i:=i) (j:=j) hi (by omega);have hk:Jn l (i:Int) t (j:Int)=C (.inl ((j:Int),p.2,p.1)):=by
    unfold Jn;rw[QhT h (by omega) hi,Qa,Ql c,Jq,Qe,hp,Qa,Yv h2,Qa]
   obtain⟨q,g1,g2,g3,g4,g5,g6,g7⟩:=ih (n-j) (by omega) j rfl h1 (by omega) (by omega) (by omega);rw[h4]at g5 g6 g7;refine⟨q,(congrArg (λo=>Option.bind o _) (hs.trans hk)).trans g1,g2,by omega,by omega,g5.trans (Qnx (by rw[Ei];omega) (by rw[Ei];omega)),λc cn=>?_,λO=>g7 (O.down hj (by rw[Ei];exact hn) hpj (by omega) c ho)⟩;rw[g6 c cn,Qkp (by rw[Ei];omega) (by rw[Ei];omega),if_neg (by omega),if_neg (by omega)]
  have hk:Jn l (i:Int) t (j:Int)=C (.inr ((i:Int),t,l)):=by
   unfold Jn;rw[QhT h (by omega) hi,Qa,Qn c];rfl
  exact⟨((i:Int),t,l),(congrArg (λo=>Option.bind o _) (hs.trans hk)).trans rfl,h,rfl,rfl,List.Perm.refl _,λ_ _=>rfl,λO=>O.done λd d0 dn dp=>Dq.trans c (ho d d0 dn dp)⟩
structure OkQ (l:List (Option Nat)) (m:List (Int×Option Nat)) (t:List Qk):Prop where
 h:ZY l t
 p:∀q∈m,okP t.length q.2=t_
 k:QaL l.length (Jc t l)
def QAs (h:ZY l t)(e:Qk):Jc (t++[e]) l=Jc t l:=by
 unfold Jc;refine QaV λo ho=>?_;obtain⟨k,rfl,O⟩:=h.1 o ho;rw[QcV,QcV,Jh O]
def Qzj {m:L_ (Int×O_ Nat)}(h:OkQ l m t)(hn:l.length<4096){id at_:Int}(hm:Xg m id=none):
  ∃r,BG l m id at_ t=C r/\OkQ r.2.1 r.2.2.2 r.2.2.1/\r.2.1.length=l.length+1/\(Jc r.2.2.1 r.2.1).Perm (Jc t l++[(at_,id)])/\∃v,r.2.2.2=YQ UP m id v:=by
 obtain⟨h1,h2,h3⟩:=h;unfold BG;rw[hm];show ∃r,(bif f_ then _ else _)=C r/\_;unfold Br;rw[Qe,Qa,show((l.length:Int)==4096)=f_ by simp;omega];have c1:l.all (okP t.length)=t_:=XS.2 λo O=>by
  obtain⟨k,rfl,hk⟩:=h1.1 o O;simpa[okP] using hk
 have c2:(m.all λq=>okP t.length q.2)=t_:=XS.2 h2;rw[Qe,BO c1,Qa,BO c2,Qa];unfold IJ LO;have g0:(t++[(Qk.mk id at_ 0)])[t.length]? = C (Qk.mk id at_ 0):=by simp
 rw[Qa,g0,Qa,Yv (by simp;omega),Qa,Qa];have hq:ZY (l++[C t.length]) (t++[Qk.mk id at_ 0]):=by
  refine⟨λo O=>?_,λ_ _=>trivial⟩;rcases YT.1 O with O|O
  ·obtain⟨k,e,hk⟩:=h1.1 o O;exact⟨k,e,by simp;omega⟩
  rw[LA]at O;exact⟨t.length,O,by simp⟩
 have hq2:=hq.setT g0 (l.length:Int);have ln:(l++[C t.length]).length=l.length+1:=by simp
 show ∃r,((Gn (l++[C t.length]) _).bind _).bind _=C r/\_;unfold Gn;rw[Qa,ln];have ew:Qh (((l.length+1:Nat):Int)-1)=(l.length:Int):=by rw[Xb (by omega)];omega
 rw[ew];unfold Nv;obtain⟨p,g1,g2,g3,g4,g5,g6⟩:=QAr l.length hq2 (by omega) (by omega);have hk:Jc ((t++[Qk.mk id at_ 0]).set t.length ⟨id,at_,(l.length:Int)⟩) (l++[C t.length])=Jc t l++[(at_,id)]:=by
  have:∀o,ky ((t++[Qk.mk id at_ 0]).set t.length ⟨id,at_,(l.length:Int)⟩) o=ky (t++[Qk.mk id at_ 0]) o:=Qs9 g0 _;show List.map _ _=_;rw[QaV λo _=>this o,QaU];show Jc (t++[Qk.mk id at_ 0]) l++[ky (t++[Qk.mk id at_ 0]) (C t.length)]=_;rw[QAs h1,QcV,g0]
 have hx:QhR (l.length+1) (Jc t l++[(at_,id)]) l.length:=by
  have gl:∀c,c<l.length->gt (Jc t l++[(at_,id)]) c=gt (Jc t l) c:=λc hc=>by
   unfold gt;rw[Sy,Jh (by rw[Ei];exact hc),Sy]
  refine⟨λc c0 cn ce=>?_,λc c0 cn p _=>by omega⟩;rw[gl c (by omega),gl _ (by omega)];exact h3 c c0 (by omega)
 rw[hk]at g5 g6;rw[ln]at g6 g3;have gh:=g6 hx;refine⟨_,(congrArg (λo=>Option.bind (Option.bind (Option.bind o _) _) _) g1).trans rfl,⟨g2,λq hq=>?_,?_⟩,g3,g5,_,rfl⟩
 ·have lt:p.1.length=t.length+1:=by rw[g4];simp
  show okP p.1.length q.2=t_;rw[lt];rcases Qyb hq with rfl|hq
  ·simp[okP]
  exact Qya (FT _) (h2 q hq)
 show QaL p.2.length (Jc p.1 p.2);rw[g3];exact gh
def QhU (m:L_ (Int×O_ Nat))(h:ZY l t):(l=[]/\Km l m t=C (0,0,f_))\/(0<l.length/\Km l m t=C ((gt (Jc t l) 0).2,(gt (Jc t l) 0).1,t_)):=by
 unfold Km Br;rw[Qa];by_cases h0:l.length=0
 ·have:=HO.1 h0;subst this;exact .inl ⟨rfl,rfl⟩
 right;refine⟨by omega,?_⟩;rw[show((l.length:Int)==0)=f_ by simp;intro h;exact h0 (by simp[h])];obtain⟨k,e,O,h2,h3⟩:=Qs8 h (i:=0) (by omega);have O:idx l 0=C (C k):=O;rw[Qe,O,Qa,Qa,h2,Qa,Qa,Qa,h2,Qa,h3]
def Qye {K:L_ Ky}{n:Nat}(h:K.length=n+1):K=K.take n++[gt K n]:=by
 have e:K.drop n=[gt K n]:=by
  rw[NE (by omega),Qps (by omega),List.drop_eq_nil_of_le (by omega)]
 rw[<-e,QiN]
def Qzk (m:L_ (Int×O_ Nat))(h1:ZY l t)(h3:QaL l.length (Jc t l))(hl:0<l.length)(hn:l.length<=4000000):
  ∃r,BH l m t=C r/\ZY r.2.1 r.2.2/\QaL r.2.1.length (Jc r.2.2 r.2.1)/\r.2.1.length+1=l.length/\(gt (Jc t l) 0::Jc r.2.2 r.2.1).Perm (Jc t l):=by
 unfold BH Gn;have ew:Qh ((l.length:Int)-1)=((l.length-1:Nat):Int):=by rw[Xb (by omega)];omega
 rw[Qa,ew];obtain⟨p,hp,g1,g2,g3,g4⟩:=Qny h1 (i:=0) (j:=l.length-1) (by omega) (by omega);have hp:Wl l 0 ((l.length-1:Nat):Int) t=C p:=hp;rw[hp,Qa,Yv g2,Qa];unfold IK;obtain⟨q,f1,f2,f3,f4,f5,f6,f7⟩:=Qyd (n:=l.length-1) _ 0 rfl g1 (by omega) (by omega) (by omega);have e0:Qq (λst=>KS ((l.length-1:Nat):Int) st.1 st.2.1 st.2.2) (0,p.2,p.1)=C q:=f1;rw[e0,Qa];unfold OV;rw[Qa];unfold Nw;show ∃r,((idx q.2.2 (Qh ((q.2.2.length:Int)-1))).bind _).bind _=C r/\_;rw[g2]at f3;rw[f3,ew];obtain⟨k,e,i1,i2,i3,_⟩:=f2.at (i:=((l.length-1:Nat):Int)) (by omega) (by omega);rw[i1,Qa];rw[BO (by simp),Qa,Qa];have tk:(q.2.2.take (((l.length-1:Nat):Int)).toNat).length=l.length-1:=by rw[Kv];omega
 have kl:(Jc t l).length=l.length:=Ei t l;have sw:=λc=>Qkp (i:=0) (j:=l.length-1) (K:=Jc t l) (by omega) (by omega) c;rw[g4]at f5 f6 f7;have hd:QhS (l.length-1) (swp 0 (l.length-1) (Jc t l)) 0:=by
  refine⟨λc c0 cn p=>?_,λc c0 cn p h0=>by omega⟩;rw[sw,sw,if_neg (by omega),if_neg p,if_neg (by omega),if_neg (by omega)];exact h3 c c0 (by omega)
 have hh:=f7 hd;have h:gt (Jc q.2.1 q.2.2) (l.length-1)=gt (Jc t l) 0:=by rw[f6 _ (Yk _),sw,if_pos rfl]
 have O:(Jc q.2.1 q.2.2).Perm (Jc t l):=f5.trans (Qnx (by omega) (by omega));have ktk:Jc q.2.1 (q.2.2.take (((l.length-1:Nat):Int)).toNat)=(Jc q.2.1 q.2.2).take (l.length-1):=by
  unfold Jc;rw[XM,List.map_take]
 refine⟨_,rfl,⟨λo ho=>f2.1 o (FQ ho),f2.2⟩,?_,?_,?_⟩
 ·show QaL (q.2.2.take (((l.length-1:Nat):Int)).toNat).length (Jc q.2.1 (q.2.2.take (((l.length-1:Nat):Int)).toNat));rw[tk,ktk];intro c c0 cn;have gtk:∀c,c<l.length-1->gt ((Jc q.2.1 q.2.2).take (l.length-1)) c=gt (Jc q.2.1 q.2.2) c:=λc hc=>by
   unfold gt;rw[Sy,Kd,if_pos hc,Sy]
  rw[gtk c cn,gtk _ (by omega)];exact hh c c0 cn
 ·show(q.2.2.take (((l.length-1:Nat):Int)).toNat).length+1=l.length;omega
 show(gt (Jc t l) 0::Jc q.2.1 (q.2.2.take (((l.length-1:Nat):Int)).toNat)).Perm (Jc t l);rw[ktk];have:=Qye (K:=Jc q.2.1 q.2.2) (n:=l.length-1) (by rw[Ei];omega);rw[h]at this;refine(List.perm_append_comm (l₁:=[gt (Jc t l) 0])).trans ?_;rw[<-this];exact O
def QbX (now:Int)(S:L_ Ky):LI_:=(S.takeWhile λs=>decide (s.1<=now)).map Prod.snd
def Qta {now:Int}:∀(S:L_ Ky) {id at_:Int} {is:Bool} {out:LI_} {m:L_ (Int×O_ Nat)} {t:L_ Qk} {l:L_ (O_ Nat)},ZY l t->QaL l.length (Jc t l)->Srt S->S.Perm (Jc t l)->
  (C (id,at_,is)=Km l m t)->out.length+l.length<=4000000->
  ∃r,Qq (λst=>Wm now st.1 st.2.1 st.2.2.1 st.2.2.2.1 st.2.2.2.2.1 st.2.2.2.2.2.1 st.2.2.2.2.2.2) (id,at_,is,out,m,t,l)=C r/\r.1=out++QbX now S:=by
 intro S
 induction S with
 |nil=>
  intro id at_ is out m t l h hh hs hp hi hc;have hl:l=[]:=by
   have:=hp.length_eq;rw[Ei]at this;exact HO.1 this.symm
  subst hl;rcases QhU m h with⟨_,e⟩|⟨h0,_⟩
  ·rw[e]at hi;cases hi;rw[Yl];exact⟨_,rfl,by simp[QbX]⟩
  cases h0
 |cons s S ih=>
  intro id at_ is out m t l h hh hs hp hi hc;have hl:0<l.length:=by
   have:=hp.length_eq;rw[Ei]at this;simp at this;omega
  rcases QhU m h with⟨e,_⟩|⟨_,e⟩
  ·subst e;cases hl
  have h0:=Qyc hs hp (by rw[Ei];exact hh) (by rw[Ei];exact hl);rw[e,h0]at hi;cases hi;rw[Yl];show ∃r,((Wm now s.2 s.1 t_ out m t l).bind _)=C r/\_;by_cases ha:s.1<=now
  ·obtain⟨r,hr,k1,k2,k3,k4⟩:=Qzk m h hh hl (by omega);rw[h0]at k4;have hp2:S.Perm (Jc r.2.2 r.2.1):=(List.perm_cons s).1 (hp.trans k4.symm);obtain⟨v,hv⟩:∃v,Km r.2.1 (Ip m s.2) r.2.2=C v:=by
    rcases QhU (Ip m s.2) k1 with⟨_,e⟩|⟨_,e⟩<;>exact⟨_,e⟩
   obtain⟨q,g1,g2⟩:=ih (id:=v.1) (at_:=v.2.1) (is:=v.2.2) (out:=out++[s.2]) (m:=Ip m s.2) k1 k2 (List.Pairwise.of_cons hs) hp2 hv.symm (by rw[YZ,FO];omega);have O:Wm now s.2 s.1 t_ out m t l=C (.inl (v.1,v.2.1,v.2.2,out++[s.2],Ip m s.2,r.2.2,r.2.1)):=by
    unfold Wm;rw[Ql ha,QaO,Qr,Yv (by rw[FO];omega),Qa,hr,Qa,hv,Qa]
   refine⟨q,(congrArg (λo=>Option.bind o _) O).trans g1,?_⟩;rw[g2];unfold QbX;rw[List.takeWhile_cons_of_pos (by simpa using ha),GC,Kh];rfl
  have O:Wm now s.2 s.1 t_ out m t l=C (.inr (out,m,t,l)):=by
   unfold Wm;rw[Qn ha];rfl
  refine⟨_,(congrArg (λo=>Option.bind o _) O).trans rfl,?_⟩;unfold QbX;rw[List.takeWhile_cons_of_neg (by simpa using ha)];simp
def RtB (b:Xj):Prop:=1<=b.Most/\b.Most<=16/\1<=b.Enough/\b.Enough<=b.Most/\0<=b.Open/\0<=b.Done/\0<=b.Failed/\b.Open<=16/\b.Done<=16/\b.Failed<=16/\1<=b.Open+b.Done+b.Failed/\b.Open+b.Done+b.Failed<=b.Most
open Classical in
def QwI (b:Xj):Ub b=C (decide (RtB b)):=by
 unfold Ub;by_cases h:b.Most<1\/16<b.Most\/b.Enough<1\/b.Most<b.Enough\/b.Open<0\/b.Done<0\/b.Failed<0\/16<b.Open\/16<b.Done\/16<b.Failed
 ·have e:((decide (b.Most<1))||((decide (16<b.Most))||((decide (b.Enough<1))||((decide (b.Most<b.Enough))||((decide (b.Open<0))||((decide (b.Done<0))||((decide (b.Failed<0))||((decide (16<b.Open))||((decide (16<b.Done))||(decide (16<b.Failed)))))))))) )=t_:=by
   simp only[KG,Qw];exact h
  rw[e,Qr,Qn];unfold RtB;omega
 have e:((decide (b.Most<1))||((decide (16<b.Most))||((decide (b.Enough<1))||((decide (b.Most<b.Enough))||((decide (b.Open<0))||((decide (b.Done<0))||((decide (b.Failed<0))||((decide (16<b.Open))||((decide (16<b.Done))||(decide (16<b.Failed)))))))))) )=f_:=by
  rw[<-Lz];simp only[KG,Qw];exact h
 rw[e,Qe,Xb (n:=b.Open+b.Done) (by omega),Xb (by omega)];congr 1;rw[HN,QN,Qw,Qw,Qw];unfold RtB;omega
open Classical in
def Qvj (b:Xj):JR b=C (decide (RtB b)):=by
 unfold JR NN;simp only[Hs,Qa];have k5:EG b f_=C (!(HI (λ(_:Nat) (x:Int)=>!(decide (0<=x)&&decide (x<=b.Most))) 0 [b.Open,b.Done,b.Failed])&&(decide (1<=Qh (Qh (b.Open+b.Done)+b.Failed))&&decide (Qh (Qh (b.Open+b.Done)+b.Failed)<=b.Most))):=by
  unfold EG;have h:=TS (body:=λst=>Yy b st) (l:=[b.Open,b.Done,b.Failed]) (λi=>(i:Int)) (λ_ x=>!(decide (0<=x)&&decide (x<=b.Most))) (.inl ()) (.inr ()) (λi x hi hx=>by
   show Yy b (i:Int)=_;unfold Yy;rw[ZF hx,Bi hx,Qo hi (by show 3<=_;decide)];simp only[Qr,Qa,Hs];cases (!(decide (0<=x)&&decide (x<=b.Most)))<;>rfl) (by
   show Yy b (([b.Open,b.Done,b.Failed].length:Nat):Int)=_;unfold Yy;rw[ZG];rfl) (s0:=0) rfl
  rw[Qe,h];cases HI (λ(_:Nat) (x:Int)=>!(decide (0<=x)&&decide (x<=b.Most))) 0 [b.Open,b.Done,b.Failed]<;>rfl
 cases O:(decide (1<=b.Most)&&decide (b.Most<=16))with
 |true=>
  rw[QN,Qw,Qw]at O;cases d2:(decide (1<=b.Enough)&&decide (b.Enough<=b.Most))with
  |true=>
   rw[QN,Qw,Qw]at d2;refine k5.trans ?_;congr 1;rw[HN];simp only[HI,QN,Ga,Ku,CR,Qw,and_true];unfold RtB;constructor
   ·rintro ⟨⟨c1,c2,c3⟩,c4⟩;rw[Xb (n:=b.Open+b.Done) (by omega),Xb (by omega)]at c4;omega
   intro h;rw[Xb (n:=b.Open+b.Done) (by omega),Xb (by omega)];omega
  |false=>
   refine Eq.trans (b:=C f_) rfl (congrArg C (Qn λh=>?_).symm);rw[Vj,QU,QU]at d2;unfold RtB at h;omega
 |false=>
  refine Eq.trans (b:=C f_) rfl (congrArg C (Qn λh=>?_).symm);rw[Vj,QU,QU]at O;unfold RtB at h;omega
def Ro (b:Xj):Ub b=JR b:=by rw[QwI,Qvj]
def QbE (b:Xj):IZ b=KU b:=by
 unfold IZ KU Qe9 PF;rw[Ro];rfl
def QtV {l:L_ Qm}(hm:l.length<=maxLen):SU l next=C (upF next 0 l&&decide ((l.length:Int)<=64)):=by
 unfold SU;by_cases O:(64:Int)<l.length
 ·rw[Ql O,Qn (show ¬(l.length:Int)<=64 by omega),Bool.and_false];rfl
 rw[Qn O,Ql (show(l.length:Int)<=64 by omega),QaO,Qe];have h:=Qo5 (body:=λst=>UF l next st) (l:=l) (λi t=>0<=t/\(i=0->t=0)/\∀j,i=j+1->∃y,l[j]? = C y/\t=y.Id) (λi _=>(i:Int)) (λi t x=>bif Bs next t x then .inl x.Id else .inr (.inl ())) (λ_=>.inr ()) (λi t x hj hi hx=>by
  obtain⟨j0,j1,j2⟩:=hj;refine⟨?_,λt' e=>?_⟩
  ·show UF l next (i:Int)=_;unfold UF;rw[ZF hx,Qr,Bi hx,Qa,Ro,QbE];obtain⟨r,hr⟩:=Qnv x.Batch;obtain⟨q,hq⟩:=Qs7 x.Batch;have hg:Mw x.Batch=(r&&!q):=by unfold Mw;rw[hr,hq];rfl
   rw[hr,hq,Qa,Qa];have hgo:TJ r q x next (i:Int) l=C (!Bs next t x):=by
    unfold TJ Bs;rw[hg];cases r with
    |false=>simp|true=>
     cases q with
     |true=>simp|false=>
      rw[Jq,Qe,Qe];by_cases c1:x.Until<0
      ·rw[Ql c1,Qn (show ¬0<=x.Until by omega)];simp
      rw[Qn c1,Ql (show 0<=x.Until by omega),Qe];by_cases c2:x.Id<1
      ·rw[Ql c2,Qn (show ¬t<x.Id by omega)];simp
      rw[Qn c2,Qe];by_cases c3:next<=x.Id
      ·rw[Ql c3,Qn (show ¬x.Id<next by omega)];simp
      rw[Qn c3,Ql (show x.Id<next by omega),Qe];cases i with
      |zero=>
       rw[j1 rfl,Ql (show(0:Int)<x.Id by omega)];rfl
      |succ j=>
       obtain⟨y,hy,rfl⟩:=j2 j rfl;have ew:Qh (((j+1:Nat):Int)-1)=(j:Int):=by unfold maxLen at hm;rw[Xb (by omega)];omega
       rw[Ql (show(0:Int)<((j+1:Nat):Int) by omega),Qr,ew,Bi hy,Qa];by_cases c4:x.Id<=y.Id
       ·rw[Ql c4,Qn (show ¬y.Id<x.Id by omega)];rfl
       rw[Qn c4,Ql (show y.Id<x.Id by omega)];rfl
   rw[hgo,Qa];unfold QdZ;rw[Qo hi hm];cases Bs next t x<;>rfl
  ·cases hk:Bs next t x with
   |false=>rw[hk]at e;cases e
   |true=>
    rw[hk]at e;cases e;have hk2:=hk;unfold Bs at hk2;simp only[QN,Qw]at hk2;exact⟨by omega,λh=>by omega,λj e=>⟨x,by rw[show j=i by omega];exact hx,rfl⟩⟩) (λt _=>by
  show UF l next (l.length:Int)=_;unfold UF;rw[ZG];rfl) 0 ⟨Int.le_refl _,λ_=>rfl,λj e=>by omega⟩ (s0:=0) rfl
 rw[h];have key:∀(l:L_ Qm) (i:Nat) (t:Int),UW (λ(_:Nat) (t:Int) (x:Qm)=>bif Bs next t x then Sum.inl x.Id else Sum.inr (Sum.inl ())) (λ_=>(Sum.inr ():Unit⊕Unit)) i t l=bif upF next t l then .inr ()else .inl ():=by
  intro l
  induction l with
  |nil=>intro i t;rfl|cons x l ih=>
   intro i t;rw[UW,upF];cases Bs next t x with|true=>simpa using ih (i+1) x.Id|false=>rfl
 rw[key];cases upF next 0 l<;>rfl
def Qpt {l:L_ Qm}{id:Int}(hm:l.length<=maxLen):CL l id=C ((KM (λ_ y=>y.Id==id) 0 l).elim (-1) λi=>(i:Int)):=by
 unfold CL;have h:=QbC (body:=λst=>AR l id st) (l:=l) (λi=>(i:Int)) (λ_ y=>y.Id==id) (λi=>.inl (i:Int)) (.inr ()) (λi y hi O=>by
  show AR l id (i:Int)=_;unfold AR;rw[ZF O,Bi O,Qo hi hm];simp only[Qr,Qa];cases (y.Id==id)<;>rfl) (by
  show AR l id (l.length:Int)=_;unfold AR;rw[ZG];rfl) (s0:=0) rfl
 rw[h];cases KM (λ_ y=>y.Id==id) 0 l<;>rfl
def Qly (h:lens x<=1000):CJ x=C x:=by
 unfold lens at h;unfold CJ TR;rw[Yv (by simp;omega),Qa,Yv (by simp;omega),Qa,Yv (by simp;omega),Qa];rfl
def Qpu {l:L_ Qm}{id:Int}(hf:∀x∈l,lens x<=1000)(hl:l.length<=4294967296)(hm:l.length<=maxLen):Lg l id=C (dropL l id):=by
 unfold Lg;have h:=Cf (body:=λst:Int×L_ Qm=>AQ l id st.1 st.2) l.length (λi s=>s=((i:Int),dropL (l.take i) id)) (λr=>r=dropL l id) (λi s hi hs=>by
  subst hs;left;have hx:l[i]? = C l[i]:=Qv hi;have htk:l.take (i+1)=l.take i++[l[i]]:=by rw[JY,hx];rfl
  show ∃s',AQ l id (i:Int) (dropL (l.take i) id)=_/\_;unfold AQ;rw[ZF hx,Bi hx];simp only[Qr,Qa];have hlen:(dropL (l.take i) id).length<=i:=by
   refine Yq (Vo _ _) ?_;simp;omega
  by_cases e:l[i].Id=id
  ·have O:(l[i].Id != id)=f_:=by simp[e]
   rw[O];refine⟨_,rfl,?_⟩;rw[htk];unfold dropL;rw[QaT,Ax,O,Qo hi hm];simp
  ·have O:(l[i].Id != id)=t_:=by simp[e]
   rw[O,Qr,Qly (hf _ (Xc hi)),Qa,Yv (by simp;omega),Qa];refine⟨_,rfl,?_⟩;rw[htk];unfold dropL;rw[QaT,Ax,O,Qo hi hm];simp) (λs hs=>by
  subst hs;refine⟨_,?_,rfl⟩;show AQ l id (l.length:Int) (dropL (l.take l.length) id)=_;unfold AQ;rw[ZG,Uf];rfl) (0,[]) rfl
 obtain⟨r,hr,rfl⟩:=h;rw[hr];rfl
def ahead (x:Qm):L_ Qm->Nat
 |[]=>0|y::l=>if y.Id<=x.Id then ahead x l+1 else 0
def Qrc (x:Qm):∀l,QaJ x l=l.take (ahead x l)++x::l.drop (ahead x l)
 |[]=>rfl|y::l=>by
  rw[ahead];unfold QaJ;by_cases c:y.Id<=x.Id
  ·rw[if_pos c,List.take_succ_cons,List.drop_succ_cons,QgY,<-Qrc x l];simp[show ¬x.Id<y.Id by omega]
  rw[if_neg c];simp[show x.Id<y.Id by omega]
end Go.Proofs
