/- A part of the proof. -/
import Derived.Test.YtdogcfnkpfekmaaGreatDoorN3P1
import Derived.Test.YtdogcfnkpfekmaaGreatDoorN3T2
import Derived.KernelRfl
import Derived.Test.YtdogcfnkpfekmaaGreatDoorN3P1
import Derived.Test.YtdogcfnkpfekmaaGreatDoorN3P1
import Derived.Test.YtdogcfnkpfekmaaGreatDoorN3P1
set_option linter.all false
noncomputable section
namespace Go.Proofs
open Go Go.RowKit Go.Vm
open Option renaming some→C
variable {n:Qd}{m:L_ QBg}{o:Qc}{l:L_ QD}{c i:Nat}{O x a b v:Int}{e:Qm}
def Hz (m:L_ QBg)(h:m.length<=4294967296)(hb:∀b∈m,b.length<=4294967296):Fg m=C m:=by
 unfold Fg Dn;rw[YR (by simp;omega)];simp only[Qa,LW];obtain⟨r,h1,h2⟩:=(Qg.up (body:=λst=>NQ m st.1 st.2) m.length (λst=>st.1) (λst=>st.2=m) (Q:=λq=>q=m) (s0:=(0,m)) rfl rfl (λi st hi hn hJ=>by
  obtain⟨x,l⟩:=st;replace hi:x=(i:Int):=hi;replace hJ:l=m:=hJ;subst hJ;show Qg (NQ l x l) _;unfold NQ;refine T1 (λhc=>?_) (λ_=>T2 (Qn rfl));simp only[Qx]at hc;have O:i<l.length:=by omega
  rw[hi,Qs,Qp O,Qa];unfold Jh;rw[YR (by have:=hb _ (Xn O);simp;omega)];simp only[Qa,LW];exact T2 (QG ⟨O,Qj O (by unfold maxLen;omega),by simp⟩)))
 rw[h1,h2];rfl
def Qv9 (n:Qd)(a b:L_ QBg)(c d:Nat)(h:QT n)(ha:Kr n c a)(hb:Kr n d b)(hcd:c+d<=1000000):Qg (Gb a b) λr=>r.2=0->Kr n (c+d) r.1:=by
 have hpl:=h.pl;have ha1:=ha.1;have hb1:=hb.1;have O:min2 (a.length:Int) (b.length:Int)=(n.Places.length:Int):=by unfold min2;split<;>omega
 unfold Gb;rw[O];refine T0 (T5 (by simp only[QJ,Qx];omega)) λ_ _=>?_;refine T0 (Qg.up n.Places.length (λst=>st.1) (λst=>st.2.length=n.Places.length/\∀b∈st.2,Rt b/\b.length<=c+d) (Q:=λq:Int⊕L_ QBg=>(∀x,q=.inl x->x≠0)/\∀m,q=.inr m->Kr n (c+d) m) rfl ⟨by simp,λb hb=>?_⟩ (λi st hi hn hJ=>?_)) (λq hq=>?_)
 ·have:=Zu hb;subst this;exact⟨Rt.nil,by simp⟩
 ·obtain⟨x,m⟩:=st;replace hi:x=(i:Int):=hi;obtain⟨hJ1,hJ2⟩:m.length=n.Places.length/\∀b∈m,Rt b/\b.length<=c+d:=hJ;show Qg (KE a b x m) _;unfold KE;rw[O];refine T1 (λhc=>?_) (λhc=>T2 (Qn ⟨λx e=>(by cases e),λm' e=>(by cases e;exact⟨hJ1,hJ2⟩)⟩));simp only[Qx,Tc]at hc;refine T0 (T4 (by omega) (by omega)) λu hu=>?_;refine T0 (T4 (by omega) (by omega)) λv hv=>?_;have hu2:=ha.2 u hu;have hv2:=hb.2 v hv;have key:∃s,JL u v=C s/\(s.2=0->Rt s.1/\s.1.length<=c+d):=by
   rcases Lt u v (by omega)with⟨_,e⟩|⟨_,_,_,e⟩|⟨_,_,_,r,e,h1,_,h2⟩
   ·exact⟨_,e,λh=>by cases h⟩
   ·exact⟨_,e,λh=>by cases h⟩
   exact⟨_,e,λ_=>⟨h1,by show r.length<=_;omega⟩⟩
  obtain⟨s,es,hs⟩:=key;rw[es,Qa];refine T0 (T4 (by omega) (by omega)) λ_ _=>?_;refine T1 (λhc5=>T2 (Qn ⟨λx e=>(by cases e;simpa using hc5),λm' e=>(by cases e)⟩)) λhc5=>?_;have hs:=hs (by simpa using hc5);refine T2 (QG ⟨by omega,by subst hi;exact Qj (by omega) (by unfold maxLen;omega:n.Places.length<=maxLen),by simpa using hJ1,λb hb'=>?_⟩);rcases Zl hb' with rfl | hb'
  ·exact hs
  exact hJ2 b hb'
 rcases q with q | q
 ·exact T2 λh=>absurd h (hq.1 q rfl)
 exact T2 λ_=>hq.2 q rfl
def QuK (n:Qd)(a b:L_ QBg)(c d:Nat)(h:QT n)(ha:Kr n c a)(hb:Kr n d b)(hcd:c+d<=1000000):Qg (KF a b) λr=>r.2=0->Kr n (c+d) r.1:=by
 have hpl:=h.pl;have ha1:=ha.1;have hb1:=hb.1;have O:min2 (a.length:Int) (b.length:Int)=(n.Places.length:Int):=by unfold min2;split<;>omega
 unfold KF;rw[O];refine T0 (T5 (by simp only[QJ,Qx];omega)) λ_ _=>?_;refine T0 (Qg.up n.Places.length (λst=>st.1) (λst=>st.2.length=n.Places.length/\∀b∈st.2,Rt b/\b.length<=c+d) (Q:=λq:Int⊕L_ QBg=>(∀x,q=.inl x->x≠0)/\∀m,q=.inr m->Kr n (c+d) m) rfl ⟨by simp,λb hb=>?_⟩ (λi st hi hn hJ=>?_)) (λq hq=>?_)
 ·have:=Zu hb;subst this;exact⟨Rt.nil,by simp⟩
 ·obtain⟨x,m⟩:=st;replace hi:x=(i:Int):=hi;obtain⟨hJ1,hJ2⟩:m.length=n.Places.length/\∀b∈m,Rt b/\b.length<=c+d:=hJ;show Qg (Jq a b x m) _;unfold Jq;rw[O];refine T1 (λhc=>?_) (λhc=>T2 (Qn ⟨λx e=>(by cases e),λm' e=>(by cases e;exact⟨hJ1,hJ2⟩)⟩));simp only[Qx,Tc]at hc;refine T0 (T4 (by omega) (by omega)) λu hu=>?_;refine T0 (T4 (by omega) (by omega)) λv hv=>?_;have hu2:=ha.2 u hu;have hv2:=hb.2 v hv;have key:∃s,Jt u v=C s/\(s.2=0->Rt s.1/\s.1.length<=c+d):=by
   rcases UA u v (by omega)with⟨_,e⟩|⟨_,_,_,e⟩|⟨_,_,r,e,h1,_,h2⟩
   ·exact⟨_,e,λh=>by cases h⟩
   ·exact⟨_,e,λh=>by cases h⟩
   exact⟨_,e,λ_=>⟨h1,by show r.length<=_;omega⟩⟩
  obtain⟨s,es,hs⟩:=key;rw[es,Qa];refine T0 (T4 (by omega) (by omega)) λ_ _=>?_;refine T1 (λhc5=>T2 (Qn ⟨λx e=>(by cases e;simpa using hc5),λm' e=>(by cases e)⟩)) λhc5=>?_;have hs:=hs (by simpa using hc5);refine T2 (QG ⟨by omega,by subst hi;exact Qj (by omega) (by unfold maxLen;omega:n.Places.length<=maxLen),by simpa using hJ1,λb hb'=>?_⟩);rcases Zl hb' with rfl | hb'
  ·exact hs
  exact hJ2 b hb'
 rcases q with q | q
 ·exact T2 λh=>absurd h (hq.1 q rfl)
 exact T2 λ_=>hq.2 q rfl
def Qre (n:Qd)(m:L_ QBg)(o:Qc)(c:Nat)(h:QT n)(hm:Kr n c m)(O:c<=900000)(ho:Yf n o):Qg (Ud n m o) λr=>r.2=0->Kr n (c+20) r.1:=by
 unfold Ud;refine T0 (Qfq n m o h (hm.len h (by omega)) ho) λx _=>?_;refine T1 (λO=>T2 λh=>absurd h (by simpa using O)) λ_=>?_;refine T0 (Qo2 n o h ho) λy hy=>?_;refine T1 (λO=>T2 λh=>absurd h (by simpa using O)) λhc2=>?_;exact T0 (Qv9 n m y.1 c 20 h hm (hy (by simpa using hc2)).1 (by omega)) λz hz=>T2 hz
def Qx6 (n:Qd)(m:L_ QBg)(o:Qc)(c:Nat)(h:QT n)(hm:Kr n c m)(hc:c<=900000)(ho:Yf n o):Qg (GG n m o) λr=>r.2=0->Kr n (c+20) r.1:=by
 have hpl:=h.pl;have hm1:=hm.1;unfold GG;refine T0 (Qo3 n o h ho) λy hy=>?_;refine T1 (λhc=>T2 λh=>absurd h (by simpa using hc)) λhc2=>?_;obtain⟨⟨hy,_⟩,h1,h2⟩:=hy (by simpa using hc2);rw[Hz m (by omega) (λb hb=>by have:=(hm.2 b hb).2;omega),Qa];refine T0 (T4 h1 h2) λe he=>?_;have hcl:=(h.tk e he).2.2.2;refine T0 (Qg.up e.Cancel.length (λst=>st.1) (λst=>Kr n c st.2) (Q:=λq=>Kr n c q) rfl hm (λi st hi hn hJ=>?_)) (λq hq=>?_)
 ·obtain⟨x,l⟩:=st;replace hi:x=(i:Int):=hi;replace hJ:Kr n c l:=hJ;show Qg (Ji e x l) _;unfold Ji;refine T1 (λhc=>?_) (λ_=>T2 (Qn hJ));simp only[Qx]at hc;refine T0 (T4 (by omega) (by omega)) λk _=>?_;have next:∀l,Kr n c l->Qg (Gr x l) λo=>(∀s',o=.inl s'->i<e.Cancel.length/\s'.1=((i+1:Nat):Int)/\Kr n c s'.2)/\∀r:L_ QBg,o=.inr r->Kr n c r:=λl hl=>by
   unfold Gr;exact T2 (QG (ix:=λst:Int×L_ QBg=>st.1) (J:=λst:Int×L_ QBg=>Kr n c st.2) ⟨by omega,by subst hi;exact Qj (by omega) (by unfold maxLen;omega:e.Cancel.length<=maxLen),hl⟩)
  refine T1 (λO=>?_) λ_=>next l hJ;simp only[QJ,Qx]at O;refine T0 (T4 O.1 O.2) λ_ _=>?_;refine next _ ⟨by simpa using hJ.1,λb hb=>?_⟩;rcases Zl hb with rfl | hb
  ·exact⟨Rt.nil,by simp⟩
  exact hJ.2 b hb
 show Qg (EG y q) _;unfold EG;exact T0 (QuK n q y.1 c 20 h hq hy (by omega)) λz hz=>T2 hz
def Qo4 (n:Qd)(m:L_ QBg)(o:Qc)(c:Nat)(h:QT n)(hm:Kr n c m)(hc:c<=800000)(ho:Yf n o):Qg (Yg n m o) λr=>r.2=0->Kr n (c+40) r.1:=by
 unfold Yg;refine T0 (Qre n m o c h hm (by omega) ho) λx hx=>?_;refine T1 (λhc=>T2 λh=>absurd h (by simpa using hc)) λO=>?_;exact T0 (Qx6 n x.1 o (c+20) h (hx (by simpa using O)) (by omega) ho) λz hz=>T2 hz
def VA (n:Qd):L_ QBg->L_ Qc->O_ QMk
 | m,[]=>C m
 | m,o::l=>(Yg n m o).bind λx=>bif x.2==0 then VA n x.1 l else none
def Qth {x:L_ QBg}{l:L_ Qc}(h:VA n m (o::l)=C x):∃y,Yg n m o=C (y,0)/\VA n y l=C x:=by
 rw[VA]at h;obtain⟨r,O,h⟩:=QU h;obtain⟨a,b⟩:=r;rcases Ye h with⟨c,h⟩|⟨_,h⟩
 ·simp only[beq_iff_eq]at c;subst c;exact⟨a,O,h⟩
 cases h
def Qx7 (h:QT n){l:L_ Qc}{x:L_ QBg}(hm:Kr n c m)(hc:c<=1000000)(hl:l.length<=4294967296)(e:VA n m l=C x):TO n m l=C (x,(l.length:Int)):=by
 have hpl:=h.pl;have hm1:=hm.1;unfold TO;rw[Hz m (by omega) (λb hb=>by have:=(hm.2 b hb).2;omega),Qa];obtain⟨r,h1,h2⟩:=JC (body:=λst=>Ch l n st.1 st.2) l.length (λi s=>s.2=(i:Int)/\VA n s.1 (l.drop i)=C x) (λr=>r=.inr x)
  (λi s hi O=>by
   obtain⟨a,j⟩:=s;obtain⟨rfl,O⟩:j=(i:Int)/\VA n a (l.drop i)=C x:=O;rw[Fz hi]at O;obtain⟨y,g1,g2⟩:=Qth O;refine .inl ⟨(y,((i+1:Nat):Int)),?_,rfl,g2⟩;show Ch l n a i=_;unfold Ch;rw[Qt (by omega:(i:Int)<l.length),Ql,Qs,Qp hi,Qa,g1,Qa];show C (Sum.inl (y,Qe ((i:Int)+1)))=_;rw[Qj hi (by unfold maxLen;omega)])
  (λs O=>by
   obtain⟨a,j⟩:=s;obtain⟨rfl,O⟩:j=(l.length:Int)/\VA n a (l.drop l.length)=C x:=O;rw[List.drop_length]at O;cases O;refine⟨_,?_,rfl⟩;show Ch l n _ l.length=_;unfold Ch;rw[Qz (by omega)];rfl) (m,0) ⟨rfl,by rw[List.drop_zero];exact e⟩
 rw[h1,h2];rfl
abbrev Bag := QBg
def Qti (how:Bag->Bag->O_ (Bag×Int))(a b r:L_ Bag):Prop:=∀(j:Nat) x y,a[j]? = C x->b[j]? = C y->∃z,r[j]? = C z/\how x y=C (z,0)
def Can (how:Bag->Bag->O_ (Bag×Int))(a b:L_ Bag):Prop:=∀(j:Nat) x y,a[j]? = C x->b[j]? = C y->∃z,how x y=C (z,0)
def SK {α:Type}{l:L_ α}(h:i<l.length):l[i]? = C l[i]:=Qp h
def Qx8 {a b r:Bag}(h:a.length+b.length<=4294967296)(e:Jt a b=C (r,0)):Rt a/\Rt b/\Rt r/\∀k,QH r k=QH a k+QH b k:=by
 rcases UA a b h with⟨_,e'⟩|⟨_,_,_,e'⟩|⟨O,h2,r',e',h3,h4,_⟩
 ·rw[e]at e';cases e'
 ·rw[e]at e';cases e'
 rw[e]at e';cases e';exact⟨O,h2,h3,h4⟩
def Qxf {a b r:Bag}(h:a.length+b.length<=4294967296)(e:JL a b=C (r,0)):Rt a/\Rt b/\Rt r/\(∀k,QH b k<=QH a k)/\∀k,QH r k=QH a k-QH b k:=by
 rcases Lt a b h with⟨_,e'⟩|⟨_,_,_,e'⟩|⟨O,h2,h5,r',e',h3,h4,_⟩
 ·rw[e]at e';cases e'
 ·rw[e]at e';cases e'
 rw[e]at e';cases e';exact⟨O,h2,h3,h5,h4⟩
def Qqv {m:L_ Bag}(h:Kr n c m){j:Nat}(O:j<n.Places.length):∃b,m[j]? = C b/\Rt b/\b.length<=c:=by
 have:j<m.length:=by have:=h.1;omega
 exact⟨m[j],SK this,h.2 _ (Xn this)⟩
def Qr0 (n:Qd)(a b:L_ Bag)(c d:Nat)(h:QT n)(ha:Kr n c a)(hb:Kr n d b)(hcd:c+d<=1000000):Qg (Gb a b) λr=>(r.2=0->r.1.length=n.Places.length/\Qti JL a b r.1)/\(Can JL a b->r.2=0):=by
 have hpl:=h.pl;have ha1:=ha.1;have hb1:=hb.1;have hmin:min2 (a.length:Int) (b.length:Int)=(n.Places.length:Int):=by unfold min2;split<;>omega
 unfold Gb;rw[hmin];refine T0 (T5 (by simp only[QJ,Qx];omega)) λ_ _=>?_;refine T0 (Qg.up n.Places.length (λst=>st.1) (λst=>st.2.length=n.Places.length/\∀(j:Nat) x y,(j:Int)<st.1->a[j]? = C x->b[j]? = C y->∃z,st.2[j]? = C z/\JL x y=C (z,0)) (Q:=λq:Int⊕L_ Bag=>(∀x,q=.inl x->x≠0/\¬Can JL a b)/\∀m,q=.inr m->m.length=n.Places.length/\Qti JL a b m) rfl ⟨by simp,λj x y hj=>by omega⟩ (λi st hi hn hJ=>?_)) (λq hq=>?_)
 ·obtain⟨x,m⟩:=st;replace hi:x=(i:Int):=hi;obtain⟨hJ1,hJ2⟩:m.length=n.Places.length/\∀(j:Nat) u v,(j:Int)<x->a[j]? = C u->b[j]? = C v->∃z,m[j]? = C z/\JL u v=C (z,0):=hJ;show Qg (KE a b x m) _;unfold KE;rw[hmin];refine T1 (λhc=>?_) (λhc=>T2 (Qn ⟨λx e=>(by cases e),λm' e=>(by cases e;exact⟨hJ1,λj u v hu hv=>hJ2 j u v (by
   simp only[QS,Tc]at hc;have:=(QX.1 hu).1;omega) hu hv⟩)⟩))
  simp only[Qx,Tc]at hc;have i1:i<a.length:=by omega
  have i2:i<b.length:=by omega
  rw[hi,Qs,SK i1,Qa,Qs,SK i2,Qa];have hu2:=ha.2 _ (Xn i1);have hv2:=hb.2 _ (Xn i2);have key:∃s,JL a[i] b[i]=C s:=by
   rcases Lt a[i] b[i] (by omega)with⟨_,e⟩|⟨_,_,_,e⟩|⟨_,_,_,r,e,h1,_,h2⟩
   ·exact⟨_,e⟩
   ·exact⟨_,e⟩
   exact⟨_,e⟩
  obtain⟨s,es⟩:=key;rw[es,Qa];refine T0 (T4 (by omega) (by omega)) λ_ _=>?_;refine T1 (λO=>T2 (Qn ⟨λx e=>(by cases e;exact⟨by simpa using O,λhcan=>by
   obtain⟨z,hz⟩:=hcan i _ _ (SK i1) (SK i2);rw[es]at hz;cases hz;simp at O⟩),λm' e=>(by cases e)⟩)) λO=>?_
  simp only[DK]at O;refine T2 (QG ⟨by omega,Qj (by omega) (by unfold maxLen;omega:n.Places.length<=maxLen),by simpa using hJ1,λj u v hj hu hv=>?_⟩);have hj:(j:Int)<Qe ((i:Int)+1):=hj;rw[Qj (show i<n.Places.length by omega) (by unfold maxLen;omega)]at hj;show ∃z,(m.set (i:Int).toNat s.1)[j]? = C z/\_;by_cases cj:j=i
  ·subst cj;rw[SK i1]at hu;rw[SK i2]at hv;cases hu;cases hv;refine⟨s.1,by rw[show((j:Int)).toNat=j from Xs j];exact Zw (by omega),?_⟩;rw[es,<-O]
  obtain⟨z,h1,h2⟩:=hJ2 j u v (by omega) hu hv;exact⟨z,by rw[ND (by simp;omega)];exact h1,h2⟩
 rcases q with q | q
 ·have:=hq.1 q rfl;exact T2 ⟨λh=>absurd h this.1,λh=>absurd h this.2⟩
 exact T2 ⟨λ_=>hq.2 q rfl,λ_=>rfl⟩
def Qrf (n:Qd)(a b:L_ Bag)(c d:Nat)(h:QT n)(ha:Kr n c a)(hb:Kr n d b)(hcd:c+d<=1000000):Qg (KF a b) λr=>(r.2=0->r.1.length=n.Places.length/\Qti Jt a b r.1)/\(Can Jt a b->r.2=0):=by
 have hpl:=h.pl;have ha1:=ha.1;have hb1:=hb.1;have hmin:min2 (a.length:Int) (b.length:Int)=(n.Places.length:Int):=by unfold min2;split<;>omega
 unfold KF;rw[hmin];refine T0 (T5 (by simp only[QJ,Qx];omega)) λ_ _=>?_;refine T0 (Qg.up n.Places.length (λst=>st.1) (λst=>st.2.length=n.Places.length/\∀(j:Nat) x y,(j:Int)<st.1->a[j]? = C x->b[j]? = C y->∃z,st.2[j]? = C z/\Jt x y=C (z,0)) (Q:=λq:Int⊕L_ Bag=>(∀x,q=.inl x->x≠0/\¬Can Jt a b)/\∀m,q=.inr m->m.length=n.Places.length/\Qti Jt a b m) rfl ⟨by simp,λj x y hj=>by omega⟩ (λi st hi hn hJ=>?_)) (λq hq=>?_)
 ·obtain⟨x,m⟩:=st;replace hi:x=(i:Int):=hi;obtain⟨hJ1,hJ2⟩:m.length=n.Places.length/\∀(j:Nat) u v,(j:Int)<x->a[j]? = C u->b[j]? = C v->∃z,m[j]? = C z/\Jt u v=C (z,0):=hJ;show Qg (Jq a b x m) _;unfold Jq;rw[hmin];refine T1 (λhc=>?_) (λhc=>T2 (Qn ⟨λx e=>(by cases e),λm' e=>(by cases e;exact⟨hJ1,λj u v hu hv=>hJ2 j u v (by
   simp only[QS,Tc]at hc;have:=(QX.1 hu).1;omega) hu hv⟩)⟩))
  simp only[Qx,Tc]at hc;have i1:i<a.length:=by omega
  have i2:i<b.length:=by omega
  rw[hi,Qs,SK i1,Qa,Qs,SK i2,Qa];have hu2:=ha.2 _ (Xn i1);have hv2:=hb.2 _ (Xn i2);have key:∃s,Jt a[i] b[i]=C s:=by
   rcases UA a[i] b[i] (by omega)with⟨_,e⟩|⟨_,_,_,e⟩|⟨_,_,r,e,h1,_,h2⟩
   ·exact⟨_,e⟩
   ·exact⟨_,e⟩
   exact⟨_,e⟩
  obtain⟨s,es⟩:=key;rw[es,Qa];refine T0 (T4 (by omega) (by omega)) λ_ _=>?_;refine T1 (λO=>T2 (Qn ⟨λx e=>(by cases e;exact⟨by simpa using O,λhcan=>by
   obtain⟨z,hz⟩:=hcan i _ _ (SK i1) (SK i2);rw[es]at hz;cases hz;simp at O⟩),λm' e=>(by cases e)⟩)) λO=>?_
  simp only[DK]at O;refine T2 (QG ⟨by omega,Qj (by omega) (by unfold maxLen;omega:n.Places.length<=maxLen),by simpa using hJ1,λj u v hj hu hv=>?_⟩);have hj:(j:Int)<Qe ((i:Int)+1):=hj;rw[Qj (show i<n.Places.length by omega) (by unfold maxLen;omega)]at hj;show ∃z,(m.set (i:Int).toNat s.1)[j]? = C z/\_;by_cases cj:j=i
  ·subst cj;rw[SK i1]at hu;rw[SK i2]at hv;cases hu;cases hv;refine⟨s.1,by rw[show((j:Int)).toNat=j from Xs j];exact Zw (by omega),?_⟩;rw[es,<-O]
  obtain⟨z,h1,h2⟩:=hJ2 j u v (by omega) hu hv;exact⟨z,by rw[ND (by simp;omega)];exact h1,h2⟩
 rcases q with q | q
 ·have:=hq.1 q rfl;exact T2 ⟨λh=>absurd h this.1,λh=>absurd h this.2⟩
 exact T2 ⟨λ_=>hq.2 q rfl,λ_=>rfl⟩
def Qtj {m t:L_ Bag}(h:Ud n m o=C (t,0)):YD n m o=C 0/\∃O,DT n o=C (O,0)/\Gb m O=C (t,0):=by
 unfold Ud at h;obtain⟨x,hx,h⟩:=QU h;rcases Ye h with⟨c,h⟩|⟨c,h⟩
 ·simp only[Option.some.injEq,Prod.mk.injEq]at h;rw[h.2]at c;cases c
 simp only[DK]at c;subst c;obtain⟨y,hy,h⟩:=QU h;obtain⟨y1,y2⟩:=y;rcases Ye h with⟨c,h⟩|⟨c,h⟩
 ·simp only[Option.some.injEq,Prod.mk.injEq]at h;simp only[h.2]at c;cases c
 simp only[DK]at c;subst c;obtain⟨z,hz,h⟩:=QU h;obtain⟨z1,z2⟩:=z;simp only[Option.some.injEq,Prod.mk.injEq]at h;obtain⟨rfl,rfl⟩:=h;exact⟨hx,y1,hy,hz⟩
def Qwa {m x:L_ Bag}(h:Yg n m o=C (x,0)):∃t,Ud n m o=C (t,0)/\GG n t o=C (x,0):=by
 unfold Yg at h;obtain⟨y,O,h⟩:=QU h;obtain⟨y1,y2⟩:=y;rcases Ye h with⟨c,h⟩|⟨c,h⟩
 ·simp only[Option.some.injEq,Prod.mk.injEq]at h;simp only[h.2]at c;cases c
 simp only[DK]at c;subst c;obtain⟨z,hz,h⟩:=QU h;obtain⟨z1,z2⟩:=z;simp only[Option.some.injEq,Prod.mk.injEq]at h;obtain⟨rfl,rfl⟩:=h;exact⟨y1,O,hz⟩
def AI : Bag->Int
 | []=>0
 | p::l=>p.2+AI l
def QuL {l m:Bag}(h:l.Perm m):AI l=AI m:=by
 induction h with
 | nil=>rfl
 | cons p _ ih=>simp only[AI,ih]
 | swap p q l=>simp only[AI];omega
 | trans _ _ O ih2=>rw[O,ih2]
def Qio (b:Bag)(hr:Rt b)(h:b.length<=maxLen):AQ b=C (Qe (AI b)):=by
 unfold AQ;rw[Qd8 b h,YV.2 hr];show NS b=_;unfold NS;have O:∀(l:Bag) (s:Int),JY (λst (p:Int×Int)=>Wa st p.1 p.2) (Qe s) l=C (.inl (Qe (s+AI l))):=by
  intro l
  induction l with
  | nil=>intro s;simp[JY,AI]
  | cons p l ih=>
   intro s;simp only[JY];rw[show Wa (Qe s) p.1 p.2=C (.inl (Qe (s+p.2)))from by unfold Wa;rw[Qfi]];simp only[Qa,Sum.elim_inl];rw[ih,AI,Int.add_assoc]
 have h0:IZ (λst (p:Int×Int)=>Wa st p.1 p.2) (0:Int) b=C (.inl (Qe (AI b))):=by
  have e0:(0:Int)=Qe 0:=by decide
  rw[e0];refine HQ.2 ⟨λl' hp=>?_,by rw[O];simp⟩;rw[O,O,QuL hp]
 rw[h0];rfl
def tS (m:L_ Bag):Nat->Int
 | 0=>0
 | i+1=>tS m i+AI (m.getD i [])
def QaE {m:L_ Bag}(h:QT n)(hm:Kr n c m)(hc:c<=1000000):Bc m=C (Qe (tS m m.length)):=by
 have hpl:=h.pl;have hm1:=hm.1;unfold Bc;obtain⟨r,h1,h2⟩:=(Qg.up (body:=λst=>Wi m st.1 st.2) m.length (λst=>st.2) (λst=>st.1=Qe (tS m st.2.toNat)) (Q:=λq=>q=Qe (tS m m.length)) (s0:=((0:Int),(0:Int))) rfl (by show(0:Int)=Qe 0;decide) (λi st hi hn hJ=>by
  obtain⟨a,x⟩:=st;replace hi:x=(i:Int):=hi;replace hJ:a=Qe (tS m x.toNat):=hJ;subst hi;show Qg (Wi m a i) _;unfold Wi;refine T1 (λhc=>?_) (λhc=>T2 (Qn ?_))
  ·simp only[Qx]at hc;have O:i<m.length:=by omega
   have hb:=hm.2 _ (Xn O);rw[Qs,SK O,Qa,Qio _ hb.1 (by have:=hb.2;unfold maxLen;omega),Qa];have hw:Qe ((i:Int)+1)=((i+1:Nat):Int):=Qj O (by unfold maxLen;omega);refine T2 (QG ⟨O,hw,?_⟩);show Qe (a+Qe (AI m[i]))=Qe (tS m (Qe ((i:Int)+1)).toNat);rw[hw,hJ,Qfi,Int.add_comm,Qfi,Xs,Xs,tS,Qyx,SK O,Int.add_comm];rfl
  simp only[QS]at hc;rw[hJ,show(i:Int).toNat=m.length by omega]))
 rw[h1,h2];rfl
def Qwb (n:Qd)(m:L_ Bag)(o:Qc)(c:Nat)(h:QT n)(hm:Kr n c m)(hl:MN n m)(hc:c<=900000)(ho:Yf n o):Qg (GG n m o) λr=>r.2=0->MN n r.1:=by
 have hpl:=h.pl;have hm1:=hm.1;unfold GG;refine T0 (Qo3 n o h ho) λy hy=>?_;refine T1 (λhc=>T2 λh=>absurd h (by simpa using hc)) λhc2=>?_;obtain⟨⟨hy,hyl⟩,h1,h2⟩:=hy (by simpa using hc2);rw[Hz m (by omega) (λb O=>by have:=(hm.2 b O).2;omega),Qa];refine T0 (T4 h1 h2) λe he=>?_;have hcl:=(h.tk e he).2.2.2;refine T0 (Qg.up e.Cancel.length (λst=>st.1) (λst=>Kr n c st.2/\MN n st.2) (Q:=λq=>Kr n c q/\MN n q) rfl ⟨hm,hl⟩ (λi st hi hn hJ=>?_)) (λq hq=>?_)
 ·obtain⟨x,l⟩:=st;replace hi:x=(i:Int):=hi;replace hJ:Kr n c l/\MN n l:=hJ;show Qg (Ji e x l) _;unfold Ji;refine T1 (λhc=>?_) (λ_=>T2 (Qn hJ));simp only[Qx]at hc;refine T0 (T4 (by omega) (by omega)) λk _=>?_;have next:∀l,Kr n c l/\MN n l->Qg (Gr x l) λo=>(∀s',o=.inl s'->i<e.Cancel.length/\s'.1=((i+1:Nat):Int)/\Kr n c s'.2/\MN n s'.2)/\∀r:L_ QBg,o=.inr r->Kr n c r/\MN n r:=λl hl=>by
   unfold Gr;exact T2 (QG (ix:=λst:Int×L_ QBg=>st.1) (J:=λst:Int×L_ QBg=>Kr n c st.2/\MN n st.2) ⟨by omega,by subst hi;exact Qj (by omega) (by unfold maxLen;omega:e.Cancel.length<=maxLen),hl⟩)
  refine T1 (λhc3=>?_) λ_=>next l hJ;simp only[QJ,Qx]at hc3;refine T0 (T4 hc3.1 hc3.2) λ_ _=>?_;refine next _ ⟨⟨by simpa using hJ.1.1,λb O=>?_⟩,λj b p O hp k' hk=>?_⟩
  ·rcases Zl O with rfl | O
   ·exact⟨Rt.nil,by simp⟩
   exact hJ.1.2 b O
  by_cases cj:k.toNat=j
  ·subst cj;rw[Zw (by omega)]at O;cases O;simp[QH,Qr]at hk
  rw[ND cj]at O;exact hJ.2 j b p O hp k' hk
 show Qg (EG y q) _;unfold EG;refine T0 (Qrf n q y.1 c 20 h hq.1 hy (by omega)) λz hz=>T2 λhz0=>?_;obtain⟨zl,ze⟩:=hz.1 hz0;intro j b p O hp k hk;have hj:j<n.Places.length:=(QX.1 hp).1;obtain⟨u,hu,hu1,hu2⟩:=Qqv hq.1 hj;obtain⟨v,hv,hv1,hv2⟩:=Qqv hy hj;obtain⟨s,hs1,hs2⟩:=ze j u v hu hv;have hs1:z.1[j]? = C s:=hs1;have O:z.1[j]? = C b:=O;rw[O]at hs1;cases hs1;have q:=(Qx8 (by omega) hs2).2.2.2 k;by_cases c0:0<QH u k
 ·exact hq.2 j u p hu hp k c0
 exact hyl j v p hv hp k (by omega)
def XS (n:Qd)(t:QF):LI_:=t.Vars.map λv=>(YK n.Colours v.Colour).getD 0
def HA (b:Xl)(r:LI_):Bool:=decide (Yi b r=C 0)
def DV (n:Qd)(m:L_ QBg)(h:Int)(O outs:L_ LI_)(p:LI_):L_ Qc:=match YZ n m h p with
 | some (c,b)=>if c=0/\XC b=C 0 then O.flatMap λe=>if Xx b e=C 0 then(outs.filter (HA b)).map λo=>Qc.mk h p e o else []else []
 | none=>[]
def ne0 (g:Int):(g != 0)=!decide (C g=C (0:Int)):=by by_cases h:g=0<;>simp[h]
def Qpu (t:QF)(n:Qd)(l:LI_)(h:Xo n)(hl:l.length=t.Vars.length)(hv:t.Vars.length<=16)(hd:∀d∈l,0<=d/\d<=1024):
  Qg (Qh (λst=>KD t n st.1 st.2) ((Qe ((l.length:Int)-1)),l)) λq=>(-1<=q.1/\q.1<l.length/\q.2=l.take (q.1+1).toNat++List.replicate (l.length-(q.1+1).toNat) 0)/\(∀(j:Nat) x s,q.1<(j:Int)->l[j]? = C x->(XS n t)[j]? = C s->¬x+1<s)/\∀x s,0<=q.1->l[q.1.toNat]? = C x->(XS n t)[q.1.toNat]? = C s->x+1<s/\x<1024:=by
 have hw:Qe ((l.length:Int)-1)=(l.length:Int)-1:=Xh (by omega);refine Qg.up l.length (λst=>(l.length:Int)-1-st.1) (λst=>st.2=l.take (st.1+1).toNat++List.replicate (l.length-(st.1+1).toNat) 0/\∀(j:Nat) x s,st.1<(j:Int)->l[j]? = C x->(XS n t)[j]? = C s->¬x+1<s) (by rw[hw];omega) ⟨by
  rw[hw];show l=_;rw[show((l.length:Int)-1+1).toNat=l.length by omega,UG,Tf];simp,λj x s hj hx=>by
  replace hj:Qe ((l.length:Int)-1)<(j:Int):=hj;have:=(QX.1 hx).1;omega⟩ (λi st hi hn hJ=>?_)
 obtain⟨a,d⟩:=st;replace hi:(l.length:Int)-1-a=i:=hi;obtain⟨hJ,hJ2⟩:d=l.take (a+1).toNat++List.replicate (l.length-(a+1).toNat) 0/\∀(j:Nat) x s,a<(j:Int)->l[j]? = C x->(XS n t)[j]? = C s->¬x+1<s:=hJ;have hdl:d.length=l.length:=by rw[hJ];simp;omega
 show Qg (KD t n a d) _;unfold KD;refine T0 (P:=λx=>(x=true->0<=a/\∀e s,l[a.toNat]? = C e->(XS n t)[a.toNat]? = C s->¬e+1<s)/\(x=false->∀e s,0<=a->l[a.toNat]? = C e->(XS n t)[a.toNat]? = C s->e+1<s/\e<1024)) ?_ λx hx=>?_
 ·unfold HZ;refine T1 (λO=>?_) λO=>T2 ⟨λh=>(by cases h),λ_ e s he=>?_⟩
  ·simp only[Qx]at O;have hlt:a.toNat<l.length:=by omega
   have hlv:a.toNat<t.Vars.length:=by omega
   have ed:idx d a=C l[a.toNat]:=by
    rw[YI O,hJ,Jo (by simp;omega),KA,if_pos (by omega),Qp hlt]
   have ev:idx t.Vars a=C t.Vars[a.toNat]:=by rw[YI O,Qp hlv]
   rw[ed,Qa,ev,Qa];refine T0 (DG _ _ h.1).self λz hz=>?_;obtain⟨hze,hz⟩:=hz;have hsz:(XS n t)[a.toNat]? = C z:=by
    unfold XS;rw[Yn,Qp hlv,Ki,hze];rfl
   have h2:=hd _ (Xn hlt);rw[Xh (by omega)];refine T2 ⟨λht=>⟨O,λe s he hs=>?_⟩,λhf e s _ he hs=>?_⟩
   ·rw[Qp hlt]at he;cases he;rw[hsz]at hs;cases hs;simp only[Qx]at ht;omega
   rw[Qp hlt]at he;cases he;rw[hsz]at hs;cases hs;simp only[QS]at hf;omega
  simp only[QS]at O;omega
 unfold TG;refine T1 (λO=>?_) λO=>?_
 ·obtain⟨ha,ha2⟩:=hx.1 O;refine T0 (T4 ha (by omega)) λ_ _=>?_;have hw2:Qe (a-1)=a-1:=Xh (by omega);refine T2 (QG ⟨by omega,?_,?_,λj x s hj hx hs=>?_⟩)
  ·show(l.length:Int)-1-Qe (a-1)=_;rw[hw2];omega
  ·show d.set a.toNat 0=l.take (Qe (a-1)+1).toNat++List.replicate (l.length-(Qe (a-1)+1).toNat) 0;rw[hw2,hJ,show(a+1).toNat=a.toNat+1 by omega,QlR (by omega),show(a-1+1).toNat=a.toNat by omega];rw[show l.length-a.toNat=(l.length-(a.toNat+1))+1 by omega,List.replicate_succ]
  replace hj:Qe (a-1)<(j:Int):=hj;rw[hw2]at hj;by_cases c:a<(j:Int)
  ·exact hJ2 j x s c hx hs
  have:a.toNat=j:=by omega
  subst this;exact ha2 x s hx hs
 exact T2 (Qn ⟨⟨by omega,by omega,hJ⟩,hJ2,hx.2 O⟩)
def Qr1 (n:Qd)(m:L_ QBg)(b:Xl)(l:L_ LI_)(h:QT n)(hb:BOk n m b)(hl:Nx l):Qg (WB l b) λr=>(r=-1/\∀row∈l,HA b row=true)\/∃i:Nat,r=(i:Int)/\i<l.length/\(∀row∈l.take i,HA b row=true)/\∀row,l[i]? = C row->HA b row=false:=by
 have hl1:=hl.1;unfold WB;refine T0 (Qg.up l.length (λst=>st) (λst=>∀row∈l.take st.toNat,HA b row=true) (Q:=λq:Int⊕Unit=>(∀x,q=.inl x->∃i:Nat,x=(i:Int)/\i<l.length/\(∀row∈l.take i,HA b row=true)/\∀row,l[i]? = C row->HA b row=false)/\(q=.inr ()->∀row∈l,HA b row=true)) rfl (λrow h=>by cases h) (λi st hi hn hJ=>?_)) (λq hq=>?_)
 ·replace hi:st=(i:Int):=hi;subst hi;replace hJ:∀row∈l.take (i:Int).toNat,HA b row=true:=hJ;rw[Xs]at hJ;show Qg (Gg l b i) _;unfold Gg Ha;refine T1 (λhc=>?_) (λhc=>T2 (Qn ⟨λx h=>(by cases h),λ_=>?_⟩))
  ·simp only[Qx]at hc;have O:i<l.length:=by omega
   rw[Qs,Qp O,Qa];have:=hl.2 _ (Xn O);refine T0 (P:=λc:Bool=>c=!HA b l[i]) ?_ λc hcc=>?_
   ·refine T0 (Qo1 n m b l[i] h hb (by omega)).self λg hg=>T2 ?_;unfold HA;rw[hg.1];exact ne0 g
   subst hcc;refine T1 (λhc2=>T2 (Qn ⟨λx e=>(by cases e;exact⟨i,rfl,O,hJ,λrow hr=>by rw[Qp O]at hr;cases hr;simpa using hc2⟩),λe=>by cases e⟩)) λhc2=>?_;have hw:Qe ((i:Int)+1)=((i+1:Nat):Int):=Qj O (by unfold maxLen;omega:l.length<=maxLen);refine T2 (QG ⟨O,hw,?_⟩);show ∀row∈l.take (Qe ((i:Int)+1)).toNat,HA b row=true;rw[hw,Xs,UF,Qp O];intro row hr;rcases XU.1 hr with hr | hr
   ·exact hJ row hr
   simp at hr;subst hr;simpa using hc2
  simp only[QS]at hc;rwa[JE (by omega)]at hJ
 rcases q with q | q
 ·exact T2 (.inr (hq.1 q rfl))
 exact T2 (.inl ⟨rfl,hq.2 rfl⟩)
def Qr2 (n:Qd)(m:L_ QBg)(b:Xl)(l:L_ LI_)(h:QT n)(hb:BOk n m b)(hl:Nx l):Qg (Wm l b) λr=>r=l.filter (HA b):=by
 have hl1:=hl.1;unfold Wm;refine T0 (Qr1 n m b l h hb hl) λx hx=>?_;rcases hx with⟨rfl,hx⟩|⟨O,rfl,hi0,hx1,hx2⟩
 ·exact T1 (λ_=>T2 (List.filter_eq_self.2 hx).symm) λhc=>by simp at hc
 refine T1 (λhc=>by simp at hc) λ_=>?_;have hw:Qe ((O:Int)+1)=(O:Int)+1:=Xh (by omega);have hbad:=hx2 _ (Qp hi0);refine T0 (Qg.up (l.length-(O+1)) (λst=>st.2.1-((O:Int)+1)) (λst=>0<=st.1/\st.1<st.2.1/\st.2.2.length=l.length/\st.2.2.take st.1.toNat=(l.take st.2.1.toNat).filter (HA b)/\st.2.2.drop st.2.1.toNat=l.drop st.2.1.toNat) (Q:=λq:Int×L_ LI_=>0<=q.1/\q.1<=(l.length:Int)/\q.2.length=l.length/\q.2.take q.1.toNat=l.filter (HA b)) (by show Qe ((O:Int)+1)-((O:Int)+1)=0;omega) ⟨by show(0:Int)<=O;omega,by show(O:Int)<Qe ((O:Int)+1);omega,rfl,?_,rfl⟩ (λi st hi hn hJ=>?_)) (λq hq=>?_)
 ·show l.take (O:Int).toNat=(l.take (Qe ((O:Int)+1)).toNat).filter (HA b);rw[hw,Xs,show((O:Int)+1).toNat=O+1 by omega,UF,Qp hi0,Tb,List.filter_eq_self.2 hx1];show l.take O=l.take O++List.filter (HA b) [l[O]];rw[Bx,hbad];exact(Qda _).symm
 ·obtain⟨a,j,l2⟩:=st;replace hi:j-((O:Int)+1)=i:=hi;obtain⟨j1,j2,j3,j4,j5⟩:0<=a/\a<j/\l2.length=l.length/\l2.take a.toNat=(l.take j.toNat).filter (HA b)/\l2.drop j.toNat=l.drop j.toNat:=hJ;show Qg (DQ b a j l2) _;unfold DQ Ha;refine T1 (λhc=>?_) (λhc=>T2 (Qn ⟨j1,?_,j3,?_⟩))
  ·simp only[Qx]at hc;have hj:j.toNat<l2.length:=by omega
   have hj':j.toNat<l.length:=by omega
   have ej:l2[j.toNat]=l[j.toNat]:=by
    have:=congrArg List.head? j5;rw[Fz hj,Fz hj']at this;exact Option.some.inj this
   have ej5:l2.drop (j.toNat+1)=l.drop (j.toNat+1):=by
    have:=congrArg List.tail j5;simpa using this
   rw[PT (by omega) (by omega),Qa];have:=hl.2 _ (Xn hj');have hw2:Qe (j+1)=j+1:=Xh (by omega);have hw3:Qe (a+1)=a+1:=Xh (by omega);have tk:l.take (j+1).toNat=l.take j.toNat++[l[j.toNat]]:=by
    rw[show(j+1).toNat=j.toNat+1 by omega,UF,Qp hj'];rfl
   refine T0 (P:=λc:Bool=>c=!HA b l[j.toNat]) ?_ λc hcc=>?_
   ·rw[ej];refine T0 (Qo1 n m b l[j.toNat] h hb (by omega)).self λg hg=>T2 ?_;unfold HA;rw[hg.1];exact ne0 g
   subst hcc;refine T1 (λhc2=>?_) λhc2=>?_
   ·have hc2:HA b l[j.toNat]=true:=by simpa using hc2
    refine T0 (T4 (by omega) (by omega)) λ_ _=>?_;refine T2 (QG ⟨by omega,by show Qe (j+1)-((O:Int)+1)=_;omega,by show 0<=Qe (a+1);omega,by show Qe (a+1)<Qe (j+1);omega,by simpa using j3,?_,?_⟩)
    ·show(l2.set a.toNat l2[j.toNat]).take (Qe (a+1)).toNat=(l.take (Qe (j+1)).toNat).filter (HA b);rw[hw2,hw3,tk,Tb,<-j4,show(a+1).toNat=a.toNat+1 by omega,UF,Zw (by omega),List.take_set_of_le (Yx _),ej];simp[hc2]
    show(l2.set a.toNat l2[j.toNat]).drop (Qe (j+1)).toNat=l.drop (Qe (j+1)).toNat;rw[hw2,show(j+1).toNat=j.toNat+1 by omega,List.drop_set_of_lt (by omega),ej5]
   have hc2:HA b l[j.toNat]=false:=by simpa using hc2
   refine T2 (QG ⟨by omega,by show Qe (j+1)-((O:Int)+1)=_;omega,j1,by show a<Qe (j+1);omega,j3,?_,?_⟩)
   ·show l2.take a.toNat=(l.take (Qe (j+1)).toNat).filter (HA b);rw[hw2,tk,Tb,<-j4];simp[hc2]
   show l2.drop (Qe (j+1)).toNat=l.drop (Qe (j+1)).toNat;rw[hw2,show(j+1).toNat=j.toNat+1 by omega,ej5]
  ·simp only[QS]at hc;show a<=_;omega
  simp only[QS]at hc;show l2.take a.toNat=_;rw[j4,JE (by omega)]
 obtain⟨q1,q2⟩:=q;obtain⟨h1,h2,h3,h4⟩:0<=q1/\q1<=l.length/\q2.length=l.length/\q2.take q1.toNat=l.filter (HA b):=hq;show Qg (DR q1 q2) _;unfold DR;refine T0 (T5 (by simp only[QJ,Qx];omega)) λ_ _=>?_;refine T0 (T5 (by simp only[QJ,Qx,Jp,KX,Tc];omega)) λ_ _=>?_;refine T2 ?_;rw[QiD (by simp;omega),List.take_take,Nat.min_self,h4]
def Qtk (n:Qd)(m:L_ QBg)(task most:Int)(l5 l8:L_ Qc)(O outs:L_ LI_)(p:LI_)(h:QT n)(hm:QP (QP λ_=>True) m)(hmost:most<=4294967296\/l8.length+(DV n m task O outs p).length<=4294967296)
  (hi:Nx O) (ho:Nx outs) (hp:p.length<=16) (ha:(l8.length:Int)<most):
  Qg (UL n m task most l5 O outs l8 p) λr=>r=Jf most.toNat l8 (DV n m task O outs p):=by
 have hil:=hi.1;have hol:=ho.1;unfold UL;refine T0 (Qsq n m task p h).self λx hx=>?_;obtain⟨c,b⟩:=x;obtain⟨hxe,hx⟩:=hx;refine T0 (P:=λy=>(y=true->DV n m task O outs p=[])/\(y=false->BOk n m b/\c=0/\XC b=C 0)) ?_ λy hy=>?_
 ·unfold Ni;refine T1 (λhc=>T2 ⟨λ_=>?_,λh=>by cases h⟩) λhc=>?_
  ·unfold DV;rw[hxe];simp only;rw[if_neg λe=>by simp[e.1]at hc]
  have hc:c=0:=by simpa using hc
  have hb:=hx hc;refine T0 (Qps n m b h hb).self λg hg=>T2 ⟨λhg2=>?_,λhg2=>⟨hb,hc,?_⟩⟩
  ·unfold DV;rw[hxe];simp only;rw[if_neg λe=>by rw[hg.1]at e;simp at e;simp[e.2]at hg2]
  rw[hg.1];simpa using hg2
 unfold Nj;refine T1 (λhc=>T2 ?_) λhc=>?_
 ·rw[hy.1 hc,SU (by omega)]
 obtain⟨hb,hc0,hgd⟩:=hy.2 hc;refine T0 (P:=λz=>z=outs) (by unfold Ax;exact T0 (T5 (by simp;omega)) λ_ _=>T2 rfl) λx19 h19=>?_;rw[h19];refine T0 (Qr2 n m b outs h hb ho) λx20 h20=>?_;have h20l:x20.length<=16:=by rw[h20];exact XZ (LV _ _) ho.1
 have h20e:∀r∈x20,r.length<=16:=λr hr=>by rw[h20]at hr;exact ho.2 r (Ua.1 hr).1
 have hR:DV n m task O outs p=O.flatMap λe=>if Xx b e=C 0 then x20.map (λo=>Qc.mk task p e o)else []:=by
  unfold DV;rw[hxe];simp only;rw[if_pos ⟨hc0,hgd⟩,h20]
 rw[hR]at hmost ⊢;generalize hg:(λe=>if Xx b e=C 0 then x20.map (λo=>Qc.mk task p e o)else [])=g at hmost ⊢;refine T0 (Qg.up O.length (λst=>st.1) (λst=>(st.2.length:Int)<most/\Jf most.toNat st.2 ((O.drop st.1.toNat).flatMap g)=Jf most.toNat l8 (O.flatMap g)/\st.2.length+((O.drop st.1.toNat).flatMap g).length=l8.length+(O.flatMap g).length) (Q:=λq=>q=Jf most.toNat l8 (O.flatMap g)) rfl ⟨ha,rfl,rfl⟩ (λi st hi2 hn hJ=>?_)) (λq hq=>?_)
 ·obtain⟨j,l⟩:=st;replace hi2:j=(i:Int):=hi2;subst hi2;obtain⟨hJ1,hJ2,hJ3⟩:(l.length:Int)<most/\Jf most.toNat l ((O.drop (i:Int).toNat).flatMap g)=Jf most.toNat l8 (O.flatMap g)/\l.length+((O.drop (i:Int).toNat).flatMap g).length=l8.length+(O.flatMap g).length:=hJ;rw[Xs]at hJ2 hJ3;show Qg (Bg O (c,b) x20 p task most i l) _;unfold Bg;refine T1 (λhc=>?_) (λhc=>T2 (Qn ?_))
  ·simp only[Qx]at hc;have hlt:i<O.length:=by omega
   have hel:=hi.2 _ (Xn hlt);rw[Qs,Qp hlt,Qa];rw[Fz hlt,UE,QiO]at hJ2;rw[Fz hlt,UE,Jp]at hJ3;have next:∀l',(l'.length:Int)<most->Jf most.toNat l' ((O.drop (i+1)).flatMap g)=Jf most.toNat l8 (O.flatMap g)->l'.length+((O.drop (i+1)).flatMap g).length=l8.length+(O.flatMap g).length->Qg (WN i l') λo=>(∀s',o=.inl s'->i<O.length/\s'.1=((i+1:Nat):Int)/\(s'.2.length:Int)<most/\Jf most.toNat s'.2 ((O.drop s'.1.toNat).flatMap g)=Jf most.toNat l8 (O.flatMap g)/\s'.2.length+((O.drop s'.1.toNat).flatMap g).length=l8.length+(O.flatMap g).length)/\∀r:L_ Qc⊕L_ Qc,o=.inr r->r=Jf most.toNat l8 (O.flatMap g):=λl' hl1 hl2 hl3=>by
    have hw:Qe ((i:Int)+1)=((i+1:Nat):Int):=Qj hlt (by unfold maxLen;omega:O.length<=maxLen);unfold WN;exact T2 (QG (ix:=λst:Int×L_ Qc=>st.1) (J:=λst:Int×L_ Qc=>(st.2.length:Int)<most/\Jf most.toNat st.2 ((O.drop st.1.toNat).flatMap g)=Jf most.toNat l8 (O.flatMap g)/\st.2.length+((O.drop st.1.toNat).flatMap g).length=l8.length+(O.flatMap g).length) ⟨hlt,hw,hl1,by
     show Jf most.toNat l' ((O.drop (Qe ((i:Int)+1)).toNat).flatMap g)=_/\l'.length+((O.drop (Qe ((i:Int)+1)).toNat).flatMap g).length=_;rw[hw,Xs];exact⟨hl2,hl3⟩⟩)
   refine T0 (Qsr n m b O[i] h hb hm (by omega)).self λz hz=>?_;refine T1 (λhc2=>?_) λhc2=>?_
   ·have:g O[i]=[]:=by
     rw[<-hg];simp only;rw[if_neg λe=>by rw[hz.1]at e;simp at e;simp[e]at hc2]
    rw[this,SU (by omega)]at hJ2;rw[this]at hJ3;exact next l hJ1 hJ2 (by simpa using hJ3)
   have hge:g O[i]=x20.map (λo=>Qc.mk task p O[i] o):=by
    rw[<-hg];simp only;rw[if_pos (by rw[hz.1];simpa using hc2)]
   rw[hge]at hJ2 hJ3;rw[EY]at hJ3;refine T0 (Qg.up x20.length (λst=>st.1) (λst=>(st.2.length:Int)<most/\Jf most.toNat st.2 ((x20.drop st.1.toNat).map λo=>Qc.mk task p O[i] o)=Jf most.toNat l (x20.map λo=>Qc.mk task p O[i] o)/\(st.2.length:Int)=l.length+st.1) (Q:=λq=>q=Jf most.toNat l (x20.map λo=>Qc.mk task p O[i] o)) rfl ⟨hJ1,rfl,by simp⟩ (λi2 st hi3 hn2 hK=>?_)) (λq hq=>?_)
   ·obtain⟨j2,l2⟩:=st;replace hi3:j2=(i2:Int):=hi3;subst hi3;obtain⟨hK1,hK2,hK3⟩:(l2.length:Int)<most/\Jf most.toNat l2 ((x20.drop (i2:Int).toNat).map λo=>Qc.mk task p O[i] o)=Jf most.toNat l (x20.map λo=>Qc.mk task p O[i] o)/\(l2.length:Int)=l.length+(i2:Int):=hK;rw[Xs]at hK2;show Qg (Bf x20 p O[i] task most i2 l2) _;unfold Bf;refine T1 (λhc=>?_) (λhc=>T2 (Qn ?_))
    ·simp only[Qx]at hc;have hlt2:i2<x20.length:=by omega
     have hel2:=h20e _ (Xn hlt2);rw[Qs,Qp hlt2,Qa];rw[Fz hlt2,EZ,Qv5]at hK2;rw[SV p (by omega),Qa,SV O[i] (by omega),Qa,SV x20[i2] (by omega),Qa];refine T0 (T5 (by simp;omega)) λ_ _=>?_;refine T1 (λhc2=>T2 (Qn ?_)) λhc2=>?_
     ·simp only[beq_iff_eq,Jp,Bz]at hc2;rw[Qv4 (by simp;omega)]at hK2;exact hK2
     simp only[beq_eq_false_iff_ne,Jp,Bz]at hc2;have hw:Qe ((i2:Int)+1)=((i2+1:Nat):Int):=Qj hlt2 (by unfold maxLen;omega:x20.length<=maxLen);refine T2 (QG ⟨hlt2,hw,by show((l2++[_]).length:Int)<most;simp;omega,?_,by show((l2++[_]).length:Int)=l.length+Qe ((i2:Int)+1);rw[hw];simp;omega⟩);show Jf most.toNat (l2++[_]) ((x20.drop (Qe ((i2:Int)+1)).toNat).map _)=_;rw[hw,Xs];exact hK2
    simp only[QS]at hc;rw[Qfx (by omega),List.map_nil,SU (by omega)]at hK2;exact hK2
   rw[<-hq]at hJ2;rcases q with q | q
   ·exact T2 (Qn hJ2)
   exact next q (by have:=Qnq hq.symm;omega) hJ2 (by
    have e:=congrArg List.length (QiP hq.symm);rw[Jp,EY]at e;omega)
  simp only[QS]at hc;rw[Qfx (by omega),List.flatMap_nil,SU (by omega)]at hJ2;exact hJ2
 rcases q with q | q
 ·exact T2 hq
 exact T2 hq
def Qqh (n:Qd)(m:L_ QBg)(O most:Int)(l5:L_ Qc)(ins outs:L_ LI_)(t:QF)(h:QT n)(hm:QP (QP λ_=>True) m)(hmost:most<=4294967296\/((binds (XS n t)).flatMap (DV n m O ins outs)).length<=4294967296)(h1:1<=most)
  (hi:Nx ins) (ho:Nx outs) (ht:t∈n.Tasks):Qg (FF n m O most l5 ins outs [] t n) λr=>∀a,r=.inl a\/r=.inr a->a=((binds (XS n t)).flatMap (DV n m O ins outs)).take most.toNat:=by
 have hv:=(h.tk t ht).1;have hsz:(XS n t).length=t.Vars.length:=by simp[XS]
 generalize hrl:DV n m O ins outs=rl at hmost ⊢;have fin:∀q:L_ Qc⊕L_ Qc,q.swap=Jf most.toNat [] ((binds (XS n t)).flatMap rl)->∀a,q=.inl a\/q=.inr a->a=((binds (XS n t)).flatMap rl).take most.toNat:=λq hq a ha=>by
  rw[<-Qq6 (by omega:0<most.toNat),<-hq];rcases ha with rfl | rfl<;>rfl
 unfold FF;refine T0 (T5 (by simp only[QJ,Qx];omega)) λ_ _=>?_;refine T0 (Qpt (λst=>(Jz (XS n t) st.1).length) (λst=>st.1.length=t.Vars.length/\(∀d∈st.1,0<=d/\d<=1024)/\(st.2.length:Int)<most/\Jf most.toNat st.2 ((st.1::Jz (XS n t) st.1).flatMap rl)=Jf most.toNat [] ((binds (XS n t)).flatMap rl)/\st.2.length+((st.1::Jz (XS n t) st.1).flatMap rl).length=((binds (XS n t)).flatMap rl).length) (Q:=λq:L_ Qc⊕L_ Qc=>q.swap=Jf most.toNat [] ((binds (XS n t)).flatMap rl))
  ⟨by simp,λd hd=>by have:=Zu hd;omega,by simp;omega,?_⟩ (λst hJ=>?_)) (λq hq=>?_)
 ·show Jf most.toNat [] ((List.replicate (t.Vars.length:Int).toNat 0::Jz (XS n t) (List.replicate (t.Vars.length:Int).toNat 0)).flatMap rl)=_/\0+((List.replicate (t.Vars.length:Int).toNat 0::Jz (XS n t) (List.replicate (t.Vars.length:Int).toNat 0)).flatMap rl).length=_;rw[QeH (XS n t),Ln,hsz,Xs,Ui];exact⟨rfl,rfl⟩
 ·obtain⟨d,l⟩:=st;obtain⟨j1,j2,j3,j4,j5⟩:d.length=t.Vars.length/\(∀d'∈d,0<=d'/\d'<=1024)/\(l.length:Int)<most/\Jf most.toNat l ((d::Jz (XS n t) d).flatMap rl)=Jf most.toNat [] ((binds (XS n t)).flatMap rl)/\l.length+((d::Jz (XS n t) d).flatMap rl).length=((binds (XS n t)).flatMap rl).length:=hJ;rw[UE,Jp]at j5;show Qg (Ic n m O most l5 ins outs t n d l) _;unfold Ic;rw[SV d (by omega),Qa];refine T0 (Qtk n m O most l5 l ins outs d h hm (by rw[hrl];omega) hi ho (by omega) j3) λr hr=>?_;rw[hrl]at hr;rw[UE,QiO,<-hr]at j4;rcases r with r | r
  ·exact T2 ⟨λs' e=>(by cases e),λq e=>(by cases e;exact j4)⟩
  have hacc:=Qnq hr.symm;have hlen:=congrArg List.length (QiP hr.symm);rw[Jp]at hlen;replace j4:Jf most.toNat r ((Jz (XS n t) d).flatMap rl)=Jf most.toNat [] ((binds (XS n t)).flatMap rl):=j4;show Qg (Ib t n d r) _;unfold Ib;refine T0 (Qpu t n d h.k j1 hv j2) λq hq=>?_;obtain⟨a,d2⟩:=q;obtain⟨⟨q1,q2,q3⟩,q4,q5⟩:(-1<=a/\a<d.length/\d2=d.take (a+1).toNat++List.replicate (d.length-(a+1).toNat) 0)/\(∀(j:Nat) x s,a<(j:Int)->d[j]? = C x->(XS n t)[j]? = C s->¬x+1<s)/\∀x s,0<=a->d[a.toNat]? = C x->(XS n t)[a.toNat]? = C s->x+1<s/\x<1024:=hq;have hnx:=Qnp (XS n t) d;show Qg (Ia r a d2) _;unfold Ia;refine T1 (λhc=>T2 ⟨λs' e=>(by cases e),λq e=>(by
   cases e;simp only[Qx]at hc;rw[Qh9 (XS n t) d λj x s=>q4 j x s (by omega)]at hnx;simp only at hnx;rw[hnx,List.flatMap_nil,SU hacc]at j4;exact j4)⟩) λhc=>?_
  simp only[QS]at hc;have hlt:a.toNat<d.length:=by omega
  have hls:a.toNat<(XS n t).length:=by omega
  have ed:idx d2 a=C d[a.toNat]:=by
   rw[YI (by omega),q3,Jo (by simp;omega),KA,if_pos (by omega),Qp hlt]
  rw[ed,Qa,Qa];have h9:=q5 _ _ (by omega) (Qp hlt) (Qp hls);have h10:=j2 _ (Xn hlt);rw[Xh (by omega)];have e3:d2.set a.toNat (d[a.toNat]+1)=d.take a.toNat++(d[a.toNat]+1)::List.replicate (d.length-(a.toNat+1)) 0:=by
   rw[q3,show(a+1).toNat=a.toNat+1 by omega,QlR hlt]
  rw[e3];have hd3:∀x∈d.take a.toNat++(d[a.toNat]+1)::List.replicate (d.length-(a.toNat+1)) 0,0<=x/\x<=1024:=λx hx=>by
   rcases XU.1 hx with hx | hx
   ·exact j2 x (Cu hx)
   rcases XV.1 hx with rfl | hx
   ·omega
   have:=Zu hx;omega
  have hlen2:(d.take a.toNat++(d[a.toNat]+1)::List.replicate (d.length-(a.toNat+1)) 0).length=t.Vars.length:=by simp;omega
  rw[Qsm a.toNat (XS n t) d _ _ (by omega) (Qp hlt) (Qp hls) h9.1 λj y z hj=>q4 j y z (by omega)]at hnx;simp only at hnx;rw[hnx]at j4;exact T2 ⟨λs' e=>(by
   cases e;refine⟨?_,hlen2,hd3,by show(r.length:Int)<most;omega,j4,by show r.length+(List.flatMap rl (_::_)).length=_;rw[<-hnx];omega⟩;show(Jz (XS n t) (d.take a.toNat++(d[a.toNat]+1)::List.replicate (d.length-(a.toNat+1)) 0)).length<(Jz (XS n t) d).length;rw[hnx,We];omega),λq e=>(by cases e)⟩
 rcases q with q | q
 ·exact T2 λa ha=>fin _ hq a (by rcases ha with ha | ha<;>cases ha;exact .inl rfl)
 exact T2 λa ha=>fin _ hq a (by rcases ha with ha | ha<;>cases ha;exact .inr rfl)
def El (O h:Int):L_ LI_:=(YT O h).getD []
def Yk (n:Qd)(m:L_ QBg)(h:Int):L_ Qc:=match idx n.Tasks h with
 | some t=>(binds (XS n t)).flatMap (DV n m h (El t.Join t.Ins.length) (El t.Split t.Outs.length))
 | none=>[]
def Qgp (n:Qd)(m:L_ QBg)(O most:Int)(h:QT n)(hm:QP (QP λ_=>True) m)(hmost:most<=4294967296\/(Yk n m O).length<=4294967296):Hb n m O most=C ((Yk n m O).take most.toNat):=by
 have key:Qg (Hb n m O most) λr=>r=(Yk n m O).take most.toNat:=by
  unfold Hb;refine T1 (λhc=>T2 ?_) λhc=>?_
  ·simp only[KW,Qx]at hc;rcases hc with hc | hc | hc
   ·unfold Yk idx;rw[if_neg (by omega)];simp
   ·unfold Yk idx;rw[if_pos (by omega),Zv (by omega)];simp
   rw[show most.toNat=0 by omega,List.take_zero]
  simp only[JT,QS]at hc;refine T0 (T4 (by omega) (by omega)).self λe he=>?_;refine T0 (Qd9 _ _).self λx hx=>?_;refine T0 (Qd9 _ _).self λy hy=>?_;refine T0 (P:=λz=>z=(n,e)) (T2 rfl) λz hz=>?_;subst hz;have hml:Yk n m O=(binds (XS n e)).flatMap (DV n m O x y):=by
   unfold Yk El;rw[he.1];simp only;rw[hx.1,hy.1];rfl
  refine T0 (Qqh n m O most [] x y e h hm (by rw[<-hml];exact hmost) (by omega) hx.2 hy.2 he.2) λr hr=>?_;rw[hml];rcases r with r | r
  ·exact T2 (hr r (.inl rfl))
  exact T2 (hr r (.inr rfl))
 obtain⟨r,h1,h2⟩:=key;rw[h1,h2]
def Ja (n:Qd)(m:L_ QBg):L_ Qc:=(List.range n.Tasks.length).flatMap λ(k:Nat)=>Yk n m (k:Int)
def Qwc {α:Type}(f:Nat->L_ α)(N:Nat):∀k,k<=N->∃r,(List.range N).flatMap f=(List.range k).flatMap f++r:=by
 induction N with
 | zero=>intro k h;exact⟨[],by rw[show k=0 by omega];rfl⟩
 | succ N ih=>
  intro k h;by_cases c:k=N+1
  ·subst c;exact⟨[],by simp⟩
  obtain⟨r,O⟩:=ih k (by omega);exact⟨r++f N,by rw[List.range_succ,QiA,List.flatMap_singleton,O,Dz]⟩
def Qgq (n:Qd)(m:L_ QBg)(most:Int)(h:QT n)(hm:QP (QP λ_=>True) m)(h0:0<=most)(h1:most<=9223372036854775807)(hmost:most<=4294967296\/(Ja n m).length<=4294967296):Cz n m most=C ((Ja n m).take most.toNat):=by
 have key:Qg (Cz n m most) λr=>r=(Ja n m).take most.toNat:=by
  unfold Cz;refine T0 (Qg.up n.Tasks.length (λst=>st.1) (λst=>st.2=((List.range st.1.toNat).flatMap λ(k:Nat)=>Yk n m (k:Int)).take most.toNat) (Q:=λq=>q=(Ja n m).take most.toNat) rfl (by simp) (λi st hi hn O=>?_)) (λq hq=>T2 hq);obtain⟨x,l⟩:=st;replace hi:x=(i:Int):=hi;subst hi;replace O:l=((List.range (i:Int).toNat).flatMap λ(k:Nat)=>Yk n m (k:Int)).take most.toNat:=O;rw[Xs]at O;show Qg (Eg n m most i l) _;unfold Eg;refine T1 (λhc=>?_) (λhc=>T2 (Qn ?_))
  ·simp only[Qx]at hc;have hll:l.length<=most.toNat:=by rw[O];exact List.length_take_le _ _
   have hw:Qe (most-(l.length:Int))=most-(l.length:Int):=Xh (by omega);obtain⟨rest,hrest⟩:=Qwc (λ(k:Nat)=>Yk n m (k:Int)) n.Tasks.length (i+1) (by omega);have hle:((List.range i).flatMap λ(k:Nat)=>Yk n m (k:Int)).length+(Yk n m (i:Int)).length<=(Ja n m).length:=by
    unfold Ja;rw[hrest,List.range_succ,QiA,List.flatMap_singleton];simp
   have hl2:l.length<=((List.range i).flatMap λ(k:Nat)=>Yk n m (k:Int)).length:=by rw[O];exact List.length_take_le' _ _
   rw[hw,Qgp n m i _ h hm (by omega),Qa];have e:l++(Yk n m (i:Int)).take (most-(l.length:Int)).toNat=((List.range (i+1)).flatMap λ(k:Nat)=>Yk n m (k:Int)).take most.toNat:=by
    rw[List.range_succ,QiA,List.flatMap_singleton,List.take_append,<-O];congr 1;by_cases c:((List.range i).flatMap λ(k:Nat)=>Yk n m (k:Int)).length<=most.toNat
    ·have:l.length=((List.range i).flatMap λ(k:Nat)=>Yk n m (k:Int)).length:=by rw[O,KX];omega
     congr 1;omega
    have:l.length=most.toNat:=by rw[O,KX];omega
    rw[show(most-(l.length:Int)).toNat=0 by omega,show most.toNat-((List.range i).flatMap λ(k:Nat)=>Yk n m (k:Int)).length=0 by omega]
   rw[e];refine T0 (T5 (by
    have:=List.length_take_le (most-(l.length:Int)).toNat (Yk n m (i:Int));have:=List.length_take_le' (most-(l.length:Int)).toNat (Yk n m (i:Int));simp only[Qx];omega)) λ_ _=>?_
   have hw2:Qe ((i:Int)+1)=((i+1:Nat):Int):=Qj (by omega:i<n.Tasks.length) h.k.2.2.1.1;refine T2 (QG ⟨by omega,hw2,?_⟩);show _=((List.range (Qe ((i:Int)+1)).toNat).flatMap λ(k:Nat)=>Yk n m (k:Int)).take most.toNat;rw[hw2,Xs]
  simp only[QS]at hc;rw[O,show i=n.Tasks.length by omega];rfl
 obtain⟨r,h1,h2⟩:=key;rw[h1,h2]
def QuM {ins outs:L_ LI_}{p:LI_}:
  o∈DV n m O ins outs p↔o.Task=O/\o.Vars=p/\o.Ins∈ins/\o.Outs∈outs/\∃b,YZ n m O p=C (0,b)/\XC b=C 0/\Xx b o.Ins=C 0/\Yi b o.Outs=C 0:=by
 unfold DV;cases hb:YZ n m O p with
 | none=>simp
 | some x=>
  obtain⟨c,b⟩:=x;simp only;by_cases hc:c=0/\XC b=C 0
  ·rw[if_pos hc];obtain⟨rfl,hg⟩:=hc;simp only[List.mem_flatMap];constructor
   ·rintro ⟨e,he,h⟩;by_cases ht:Xx b e=C 0
    ·rw[if_pos ht]at h;obtain⟨r,hr,rfl⟩:=YB.1 h;obtain⟨h1,h2⟩:=Ua.1 hr;exact⟨rfl,rfl,he,h1,b,rfl,hg,ht,Xd h2⟩
    rw[if_neg ht]at h;cases h
   rintro ⟨h1,h2,h3,h4,b',h5,h6,h7,h8⟩;cases h5;refine⟨o.Ins,h3,?_⟩;rw[if_pos h7];refine YB.2 ⟨o.Outs,Ua.2 ⟨h4,Qt h8⟩,?_⟩;cases o;simp only at h1 h2;subst h1;subst h2;rfl
  rw[if_neg hc];constructor
  ·intro h;cases h
  rintro ⟨_,_,_,_,b',h5,h6,_⟩;cases h5;exact absurd ⟨rfl,h6⟩ hc
def HK {h:Int}:
  o∈Yk n m h↔o.Task=h/\∃e,idx n.Tasks h=C e/\inB (XS n e) o.Vars/\o.Ins∈El e.Join e.Ins.length/\o.Outs∈El e.Split e.Outs.length/\∃b,YZ n m h o.Vars=C (0,b)/\XC b=C 0/\Xx b o.Ins=C 0/\Yi b o.Outs=C 0:=by
 unfold Yk;cases he:idx n.Tasks h with
 | none=>simp
 | some e=>
  simp only[List.mem_flatMap,QuE,QuM,Option.some.injEq,exists_eq_left'];constructor
  ·rintro ⟨p,O,h2,rfl,h3,h4,h5⟩;exact⟨h2,O,h3,h4,h5⟩
  rintro ⟨O,h2,h3,h4,h5⟩;exact⟨o.Vars,h2,O,rfl,h3,h4,h5⟩
def Qss:o∈Ja n m↔o∈Yk n m o.Task:=by
 unfold Ja;simp only[List.mem_flatMap,Eo];constructor
 ·rintro ⟨k,hk,h⟩;have:=(HK.1 h).1;rwa[this]
 intro h;obtain⟨_,e,O,_⟩:=HK.1 h;have h0:0<=o.Task:=by
  unfold idx at O;split at O
  ·assumption
  cases O
 rw[YI h0]at O;have:=(QX.1 O).1;exact⟨o.Task.toNat,this,by rwa[show((o.Task.toNat:Nat):Int)=o.Task by omega]⟩
def QnF (a b:LI_)(ha:a.length<=maxLen):JQ a b=C (decide (a=b)):=by
 have key:Qg (JQ a b) λr=>r=decide (a=b):=by
  unfold JQ;refine T1 (λhc=>T2 ?_) λhc=>?_
  ·rw[Qz λe=>by subst e;simp at hc]
  simp only[DK]at hc;have hc:a.length=b.length:=by omega
  refine T0 (Qg.up a.length (λst=>st) (λst=>a.take st.toNat=b.take st.toNat) (Q:=λq:Unit⊕Unit=>(q=.inl ()->a≠b)/\(q=.inr ()->a=b)) rfl rfl (λi st hi hn hJ=>?_)) (λq hq=>?_)
  ·replace hi:st=(i:Int):=hi;subst hi;replace hJ:a.take (i:Int).toNat=b.take (i:Int).toNat:=hJ;rw[Xs]at hJ;show Qg (Wn a b i) _;unfold Wn;refine T1 (λO=>?_) (λO=>T2 (Qn ⟨λe=>(by cases e),λ_=>?_⟩))
   ·simp only[Qx]at O;have i1:i<a.length:=by omega
    have i2:i<b.length:=by omega
    rw[Qs,Qp i1,Qa,Qs,Qp i2,Qa];refine T1 (λh=>T2 (Qn ⟨λ_ e=>?_,λe=>by cases e⟩)) λh=>?_
    ·subst e;simp at h
    have hw:Qe ((i:Int)+1)=((i+1:Nat):Int):=Qj i1 ha;refine T2 (QG ⟨i1,hw,?_⟩);show a.take (Qe ((i:Int)+1)).toNat=b.take (Qe ((i:Int)+1)).toNat;rw[hw,Xs,UF,UF,hJ,Qp i1,Qp i2];simp only[DK]at h;rw[h]
   simp only[QS]at O;rwa[JE (by omega),JE (by omega)]at hJ
  rcases q with q | q
  ·exact T2 (Qz (hq.1 rfl)).symm
  exact T2 (Qt (hq.2 rfl)).symm
 obtain⟨r,h1,h2⟩:=key;rw[h1,h2]
def PV (O h:Int):YT O h=C (El O h)/\Nx (El O h):=by
 obtain⟨r,h1,h2⟩:=Qd9 O h;unfold El;rw[h1];exact⟨rfl,h2⟩
def LB (O h:Int)(row:LI_):Eh O h row=C (decide (row∈El O h)):=by
 have key:Qg (Eh O h row) λr=>r=decide (row∈El O h):=by
  unfold Eh WD WC;obtain⟨e,hx⟩:=PV O h;rw[e,Qa];generalize El O h=x at hx;have hl:=hx.1;have key:Qg ((Qh (λst=>YH x row st) 0)) λq:Int⊕Unit=>(∀k,q=.inl k->0<=k/\row∈x)/\(q=.inr ()->row ∉ x):=by
   refine Qg.up x.length (λst=>st) (λst=>row ∉ x.take st.toNat) rfl (by simp) (λi st hi hn hJ=>?_);replace hi:st=(i:Int):=hi;subst hi;replace hJ:row ∉ x.take (i:Int).toNat:=hJ;rw[Xs]at hJ;show Qg (YH x row i) _;unfold YH Mc;refine T1 (λhc=>?_) (λhc=>T2 (Qn ⟨λk e=>(by cases e),λ_=>?_⟩))
   ·simp only[Qx]at hc;have i1:i<x.length:=by omega
    have:=hx.2 _ (Xn i1);rw[Qs,Qp i1,Qa,QnF _ _ (by unfold maxLen;omega)];simp only[Qa];refine T1 (λhc2=>T2 (Qn ⟨λk e=>(by cases e;exact⟨by omega,by rw[<-Xd hc2];exact Xn i1⟩),λe=>by cases e⟩)) λhc2=>?_;have hw:Qe ((i:Int)+1)=((i+1:Nat):Int):=Qj i1 (by unfold maxLen;omega:x.length<=maxLen);refine T2 (QG ⟨i1,hw,?_⟩);show row ∉ x.take (Qe ((i:Int)+1)).toNat;rw[hw,Xs,UF,Qp i1];simp only[Option.toList_some,XU,Da,not_or];exact⟨hJ,λe=>of_decide_eq_false hc2 e.symm⟩
   simp only[QS]at hc;rwa[JE (by omega)]at hJ
  obtain⟨q,hq1,hq2⟩:=key;rw[hq1];rcases q with q | q
  ·have:=hq2.1 q rfl;refine T2 ?_;rw[Qt this.2];exact Qt this.1
  refine T2 ?_;rw[Qz (hq2.2 rfl)];rfl
 obtain⟨r,h1,h2⟩:=key;rw[h1,h2]
def QuN (l:L_ QD)(k m:Int)(hl:QP Jg l):Qg (DC l k m) λr=>r.2=true->0<=m/\∃z,YK l k=C z/\m<z:=by
 unfold DC YK;refine T0 (Lr l k hl).self λx hx=>?_;obtain⟨hxe,hx⟩:=hx;refine T0 (P:=λr=>r=false->x.1=true/\0<=m/\∃h:0<=k/\k<(x.2.sizes.length:Int),m<x.2.sizes[k.toNat]'(by omega)) ?_ λr hr=>?_
 ·unfold Cx;refine T1 (λ_=>T2 λh=>by cases h) λO=>?_;have O:x.1=true:=by simpa using O
  have h:=hx.2 O;have hk:k.toNat<x.2.sizes.length:=by omega
  have ei:idx x.2.sizes k=C x.2.sizes[k.toNat]:=PT h.1.1 h.1.2;refine T0 (P:=λy=>y=true->0<=m/\m<x.2.sizes[k.toNat]) ?_ λy hy=>T2 λhf=>?_
  ·unfold KC;refine T0 (P:=λy=>y=true->0<=m/\m<x.2.sizes[k.toNat]) ?_ λy hy=>T2 hy;unfold Eu;refine T1 (λhc2=>?_) λ_=>T2 λh=>by cases h
   rw[h.2.1,ei,Qa];exact T2 λh=>⟨by simpa using hc2,by simpa using h⟩
  have:=hy (by simpa using hf);exact⟨O,this.1,h.1,this.2⟩
 unfold Cy;refine T1 (λ_=>T2 λh=>by cases h) λO=>?_;obtain⟨h1,h2,h3,h4⟩:=hr O;have h:=hx.2 h1;have fin:0<=m/\∃z,((DO l k).bind λx5=>bif (!x5.1)then C 0 else(idx x5.2.sizes k).bind λe7=>C e7)=C z/\m<z:=⟨h2,x.2.sizes[k.toNat]'(by omega),by
  rw[hxe,Qa,h1];simp only[JD,Qi];rw[PT h3.1 h3.2];rfl,h4⟩
 refine T0 (Hy x.2 (by omega)) λ_ _=>?_;refine T1 (λ_=>?_) λ_=>T2 λ_=>fin;exact T0 (Hy x.2 (by omega)) λ_ _=>T2 λ_=>fin
def Qx9 {l d:LI_}(h:d.length=l.length)(O:∀(j:Nat) x s,d[j]? = C x->l[j]? = C s->0<=x/\x<s):inB l d:=by
 induction l generalizing d with
 | nil=>cases d with
  | nil=>trivial
  | cons x d=>simp at h
 | cons s r ih=>cases d with
  | nil=>simp at h
  | cons x d=>
   have:=O 0 x s rfl rfl;exact⟨this.1,.inr this.2,ih (by simpa using h) λj y z h1 h2=>O (j+1) y z (by simpa using h1) (by simpa using h2)⟩
def Qya (n:Qd)(task:Int)(O:LI_)(h:QT n):Qg (Ga n task O) λr=>r.2=0->∃e,idx n.Tasks task=C e/\e∈n.Tasks/\inB (XS n e) O/\∀s∈XS n e,0<s:=by
 unfold Ga;refine T1 (λ_=>T2 λh=>by cases h) λhc=>?_;simp only[JT,QS]at hc;refine T0 (T4 (by omega) (by omega)).self λe he=>?_;have hv:=(h.tk e he.2).1;have ke:=h.k.2.2.1.2 e he.2;refine T1 (λ_=>T2 λh=>by cases h) λhl=>?_;simp only[DK]at hl;have hl:O.length=e.Vars.length:=by omega
 refine T0 (T5 (by simp only[QJ,Qx];omega)) λ_ _=>?_;refine T0 (Qg.up e.Vars.length (λst=>st.1) (λst=>st.2.length=e.Vars.length/\∀(j:Nat) x s,(j:Int)<st.1->O[j]? = C x->(XS n e)[j]? = C s->0<=x/\x<s) (Q:=λq:Unit⊕LI_=>∀out,q=.inr out->inB (XS n e) O/\∀s∈XS n e,0<s) rfl ⟨by simp,λj x s hj=>by simp at hj;omega⟩ (λi st hi hn hJ=>?_)) (λq hq=>?_)
 ·obtain⟨x,l⟩:=st;replace hi:x=(i:Int):=hi;subst hi;obtain⟨hJ,hJ2⟩:l.length=e.Vars.length/\∀(j:Nat) x s,(j:Int)<(i:Int)->O[j]? = C x->(XS n e)[j]? = C s->0<=x/\x<s:=hJ;show Qg (DZ e O n i l) _;unfold DZ;refine T1 (λhc=>?_) (λhc=>T2 (Qn λout _=>?_))
  ·simp only[Qx]at hc;have i1:i<e.Vars.length:=by omega
   have i2:i<O.length:=by omega
   rw[Qs,Qp i1,Qa,Qs,Qp i2,Qa];refine T0 (QuN _ _ _ h.k.1) λc hc3=>?_;refine T1 (λ_=>T2 (Qn λout e=>by cases e)) λhc4=>?_;obtain⟨h1,z,h2,h3⟩:=hc3 (by simpa using hc4);refine T0 (T4 (by omega) (by omega)) λd _=>?_;have hw:Qe ((i:Int)+1)=((i+1:Nat):Int):=Qj i1 (by unfold maxLen;omega:e.Vars.length<=maxLen);refine T2 (QG ⟨i1,hw,by simpa using hJ,λj x s hj hx hs=>?_⟩);replace hj:(j:Int)<Qe ((i:Int)+1):=hj;rw[hw]at hj;by_cases cj:j=i
   ·subst cj;rw[Qp i2]at hx;cases hx;unfold XS at hs;rw[Yn,Qp i1,Ki,h2]at hs;cases hs;exact⟨h1,h3⟩
   exact hJ2 j x s (by omega) hx hs
  simp only[QS]at hc;have hb:∀(j:Nat) x s,O[j]? = C x->(XS n e)[j]? = C s->0<=x/\x<s:=λj x s hx hs=>hJ2 j x s (by have:=(QX.1 hx).1;omega) hx hs;refine⟨Qx9 (by simp[XS,hl]) hb,λs hs=>?_⟩;obtain⟨j,hj,rfl⟩:=Ct.1 hs;have hj2:j<O.length:=by simp[XS]at hj;omega
  have:=hb j _ _ (Qp hj2) (Qp hj);omega
 rcases q with q | q
 ·exact T2 λh=>by cases h
 exact T2 λ_=>⟨e,he.1,he.2,hq q rfl⟩
def OS {vars:LI_}{b:Xl}(h:QT n)(e:YZ n m O vars=C (0,b)):idx n.Tasks O=C b.task/\b.task∈n.Tasks/\b.net=n/\b.m=m/\(inB (XS n b.task) vars/\∀s∈XS n b.task,0<s)/\Ga n O vars=C (b.env,0):=by
 unfold YZ at e;obtain⟨x,hx,e⟩:=QU e;obtain⟨x1,x2⟩:=x;rcases Ye e with⟨c,e⟩|⟨c,e⟩
 ·simp only[Option.some.injEq,Prod.mk.injEq]at e;simp only[e.1]at c;cases c
 simp only[DK]at c;subst c;obtain⟨t,ht,h1,h2⟩:=EU (Qya n O vars h) hx rfl;rw[ht,Qa]at e;simp only[Option.some.injEq,Prod.mk.injEq,true_and]at e;subst e;exact⟨ht,h1,rfl,rfl,h2,hx⟩
def Qea (h:QT n)(hm:QP (QP λ_=>True) m)(ho:Yf n o):YD n m o=C 0↔o∈Yk n m o.Task:=by
 rw[HK];constructor
 ·intro e;unfold YD at e;obtain⟨x,hx,e⟩:=QU e;obtain⟨c,b⟩:=x;have k3:∀g,JK (c,b) o g=C 0->g=0/\o.Ins∈El b.task.Join b.task.Ins.length/\o.Outs∈El b.task.Split b.task.Outs.length/\Xx b o.Ins=C 0/\Yi b o.Outs=C 0:=λg e=>by
   unfold JK at e;rcases Ye e with⟨c2,e⟩|⟨c2,e⟩
   ·simp only[Option.some.injEq]at e;rw[e]at c2;cases c2
   simp only[DK]at c2;obtain⟨y,O,e⟩:=QU e;unfold CA at O;rw[LB,Qa]at O;unfold CB at e;rcases Ye e with⟨_,e⟩|⟨c3,e⟩
   ·cases e
   subst c3;rcases Ye O with⟨_,O⟩|⟨c4,O⟩
   ·cases O
   rw[LB,Qa]at O;simp only[Fy,Qx]at c4;simp only[Option.some.injEq,Fy,Qx]at O;obtain⟨z,hz,e⟩:=QU e;rcases Ye e with⟨c5,e⟩|⟨c5,e⟩
   ·simp only[Option.some.injEq]at e;rw[e]at c5;cases c5
   simp only[DK]at c5;subst c5;obtain⟨w,hw,e⟩:=QU e;simp only[Option.some.injEq]at e;subst e;exact⟨c2,c4,O,hz,hw⟩
  have fin:c=0->XC b=C 0->(o.Ins∈El b.task.Join b.task.Ins.length/\o.Outs∈El b.task.Split b.task.Outs.length/\Xx b o.Ins=C 0/\Yi b o.Outs=C 0)->o.Task=o.Task/\∃e,idx n.Tasks o.Task=C e/\inB (XS n e) o.Vars/\o.Ins∈El e.Join e.Ins.length/\o.Outs∈El e.Split e.Outs.length/\∃b,YZ n m o.Task o.Vars=C (0,b)/\XC b=C 0/\Xx b o.Ins=C 0/\Yi b o.Outs=C 0:=λhc hg q=>by
   subst hc;obtain⟨h1,_,_,_,h2,_⟩:=OS h hx;exact⟨rfl,b.task,h1,h2.1,q.1,q.2.1,b,hx,hg,q.2.2.1,q.2.2.2⟩
  rcases Ye e with⟨c1,e⟩|⟨c1,e⟩
  ·simp only[beq_iff_eq]at c1;obtain⟨g,hg,e⟩:=QU e;obtain⟨rfl,q⟩:=k3 g e;exact fin c1 hg q
  have e1:=(k3 _ e).1;simp only[beq_eq_false_iff_ne]at c1;exact absurd e1 c1
 rintro ⟨_,e,he,h1,h2,h3,b,hb,hg,ht,hv⟩;obtain⟨k1,k2,_⟩:=OS h hb;rw[he]at k1;cases k1;unfold YD;rw[hb,Qa];simp only[show((0:Int)==0)=true from rfl,Ql,hg,Qa];unfold JK;simp only[show((0:Int) != 0)=false from rfl,Qi];unfold CA;rw[LB,Qa,Qt h2];simp only[JD,Qi];rw[LB,Qa,Qt h3,Qa];unfold CB;simp only[JD,Qi,ht,Qa,show((0:Int) != 0)=false from rfl,hv]
def Qwd (h:QT n)(hm:QP (QP λ_=>True) m)(ho:o∈Yk n m O):Yf n o:=by
 obtain⟨_,e,he,h1,h2,h3,_⟩:=HK.1 ho;have hem:e∈n.Tasks:=by
  unfold idx at he;split at he
  ·exact Xt he
  cases he
 have hv:=(h.tk e hem).1;have hl:=Qxb h1;have h4:=(PV e.Join e.Ins.length).2.2 _ h2;have h5:=(PV e.Split e.Outs.length).2.2 _ h3;have:(XS n e).length=e.Vars.length:=by simp[XS]
 exact⟨by omega,by omega,by omega⟩
def PW (h:QT n)(O:QP (QP λ_=>True) m)(ho:o∈Ja n m):Yf n o:=Qwd h O (Qss.1 ho)
def XI (a:Int):Prop:=-9223372036854775808<=a/\a<=9223372036854775807
instance (a : Int):Decidable (XI a):=by unfold XI;infer_instance
def Qbp (x:Int):IntKind.u64.wrap x=x % 18446744073709551616:=rfl
def IR (h:0<=x/\x<18446744073709551616):IntKind.u64.wrap x=x:=by rw[Qbp];omega
def QnG (h:0<=x):KB .u64 x 32=x / 4294967296:=by
 unfold KB;rw[show min ((32:Int).toNat) (IntKind.bits .u64)=32 from rfl,Int.fdiv_eq_ediv_of_nonneg _ (by decide)];rfl
def Qtl (h:0<=x/\x<18446744073709551616):Gy .u64 x 4294967295=x % 4294967296:=by
 unfold Gy;have e:((BitVec.ofInt (IntKind.bits .u64) x &&& BitVec.ofInt (IntKind.bits .u64) 4294967295).toNat:Int)=x % 4294967296:=by
  rw[BitVec.toNat_and,BitVec.toNat_ofInt,BitVec.toNat_ofInt];have O:(x % ((2:Nat) ^ (IntKind.bits .u64):Nat)).toNat=x.toNat:=by
   show(x % 18446744073709551616).toNat=x.toNat;omega
  have h2:((4294967295:Int) % ((2:Nat) ^ (IntKind.bits .u64):Nat)).toNat=2 ^ 32-1:=by decide
  rw[O,h2,Nat.and_two_pow_sub_one_eq_mod];omega
 rw[e];exact IR (by omega)
def QnH {y:Int}(O:0<=x/\x<=4294967295)(h:0<=y/\y<=4294967295):0<=x*y/\x*y<=18446744065119617025:=by
 refine⟨Int.mul_nonneg O.1 h.1,?_⟩;have:=Int.mul_le_mul O.2 h.2 h.1 (by decide);omega
def Qtm {y:Int}(h:0<=x/\x<18446744073709551616)(O:0<=y/\y<18446744073709551616):GX x y=C (x*y / 18446744073709551616,x*y % 18446744073709551616):=by
 unfold GX;rw[QnG h.1,QnG O.1,Qtl h,Qtl O,Qbp (x*y)];have e:x*y=(x / 4294967296)*(y / 4294967296)*18446744073709551616+((x / 4294967296)*(y % 4294967296)+(x % 4294967296)*(y / 4294967296))*4294967296+(x % 4294967296)*(y % 4294967296):=by
  have h1:x=(x / 4294967296)*4294967296+x % 4294967296:=by omega
  have h2:y=(y / 4294967296)*4294967296+y % 4294967296:=by omega
  generalize x / 4294967296=a at *;generalize x % 4294967296=b at *;generalize y / 4294967296=c at *;generalize y % 4294967296=d at *;subst h1 h2
  grind
 rw[e];have b1:=QnH (x:=x / 4294967296) (y:=y / 4294967296) (by omega) (by omega);have b2:=QnH (x:=x / 4294967296) (y:=y % 4294967296) (by omega) (by omega);have b3:=QnH (x:=x % 4294967296) (y:=y / 4294967296) (by omega) (by omega);have b4:=QnH (x:=x % 4294967296) (y:=y % 4294967296) (by omega) (by omega);generalize x / 4294967296*(y / 4294967296)=p at *;generalize x / 4294967296*(y % 4294967296)=q at *;generalize x % 4294967296*(y / 4294967296)=r at *;generalize x % 4294967296*(y % 4294967296)=s at *;rw[IR (x:=s) (by omega),QnG (x:=s) (by omega),IR (x:=q) (by omega),IR (x:=q+s / 4294967296) (by omega),QnG (x:=q+s / 4294967296) (by omega),Qtl (x:=q+s / 4294967296) (by omega),IR (x:=r) (by omega),IR (x:=p) (by omega),
  IR (x:=(q+s / 4294967296) % 4294967296+r) (by omega),QnG (x:=(q+s / 4294967296) % 4294967296+r) (by omega),IR (x:=p+(q+s / 4294967296) / 4294967296) (by omega),IR (by omega)]
 congr 2;omega
def EV (a:Int):Int:=if a<0 then -a else a
def Qpv (h:XI a):Fi a=C (EV a):=by
 unfold Fi EV XI at *;by_cases c:a<0
 ·rw[Qt c,Ql,if_pos c,Qbp,Qbp];congr 1;omega
 rw[Qz c,Qi,if_neg c,Qbp];congr 1;omega
def Qst (a b:Int):EV a*EV b=EV (a*b):=by
 unfold EV;by_cases h:a<0<;>by_cases O:b<0
 ·rw[if_pos h,if_pos O,if_neg (by have:=Int.mul_pos_of_neg_of_neg h O;omega),Int.neg_mul_neg]
 ·rw[if_pos h,if_neg O];by_cases c3:b=0
  ·subst c3;simp
  rw[if_pos (Int.mul_neg_of_neg_of_pos h (by omega)),Int.neg_mul]
 ·rw[if_neg h,if_pos O];by_cases c3:a=0
  ·subst c3;simp
  rw[if_pos (Int.mul_neg_of_pos_of_neg (by omega) O),Int.mul_neg]
 rw[if_neg h,if_neg O,if_neg (by have:=Int.mul_nonneg (show 0<=a by omega) (show 0<=b by omega);omega)]
def Zm (a b:Int):Int×Int:=if XI (a*b)then(a*b,0)else(0,6)
def Qip (ha:XI a)(hb:XI b):AW a b=C (Zm a b):=by
 unfold AW;have h1:0<=EV a/\EV a<=9223372036854775808:=by unfold EV XI at *;split<;>omega
 have h2:0<=EV b/\EV b<=9223372036854775808:=by unfold EV XI at *;split<;>omega
 have h3:0<=EV a*EV b:=Int.mul_nonneg h1.1 h2.1;rw[Qpv ha,Qa,Qpv hb,Qa,Qtm (by omega) (by omega),Qa];rw[Qst]at h3 ⊢;have sg:(decide (a<0) != decide (b<0))=true\/(decide (a<0) != decide (b<0))=false:=by cases (decide (a<0) != decide (b<0))<;>simp
 have hsg:(decide (a<0) != decide (b<0))=true->a*b<=0:=λh=>by
  by_cases c1:a<0<;>by_cases c2:b<0<;>simp[c1,c2]at h
  ·exact Int.mul_nonpos_of_nonpos_of_nonneg (by omega) (by omega)
  exact Int.mul_nonpos_of_nonneg_of_nonpos (by omega) (by omega)
 have hsg2:(decide (a<0) != decide (b<0))=false->0<=a*b:=λh=>by
  by_cases c1:a<0<;>by_cases c2:b<0<;>simp[c1,c2]at h
  ·have:=Int.mul_pos_of_neg_of_neg c1 c2;omega
  exact Int.mul_nonneg (by omega) (by omega)
 have hw:XI (a*b)->Qe (a*b)=a*b:=λh=>Xh h;generalize hm:a*b=m at *;unfold Zm;rw[hm];unfold EV at h3 ⊢;rcases sg with c | c
 ·rw[c,Ql];have:=hsg c;unfold Du;rw[hm,Qbp];simp only;by_cases O:XI m
  ·rw[if_pos O,hw O];unfold XI at O;rw[Qz (by split<;>omega),Qz (by split<;>omega)];rfl
  rw[if_neg O];have:decide (0<(if m<0 then -m else m) / 18446744073709551616)=true\/decide ((9223372036854775807+1) % 18446744073709551616<(if m<0 then -m else m) % 18446744073709551616)=true:=by
   unfold XI at O;rw[Qx,Qx];split<;>omega
  rcases this with h | h
  ·rw[h];rfl
  rw[h,Bool.or_true];rfl
 rw[c,Qi];have:=hsg2 c;unfold Du;rw[hm];simp only;by_cases O:XI m
 ·rw[if_pos O,hw O];unfold XI at O;rw[Qz (by split<;>omega),Qz (by split<;>omega)];rfl
 rw[if_neg O];have:decide (0<(if m<0 then -m else m) / 18446744073709551616)=true\/decide ((9223372036854775807:Int)<(if m<0 then -m else m) % 18446744073709551616)=true:=by
  unfold XI at O;rw[Qx,Qx];split<;>omega
 rcases this with h | h
 ·rw[h];rfl
 rw[h,Bool.or_true];rfl
def Qrg (a b:Int):Int×Int:=if XI (a+b)then(a+b,0)else(0,6)
def Qwe (ha:XI a)(hb:XI b):HX a b=C (Qrg a b):=by
 unfold HX Qrg;by_cases ci:XI (a+b)
 ·rw[if_pos ci,Xh ci];have:((decide (a<0)==decide (b<0))&&(decide (a+b<0) != decide (a<0)))=false:=by
   by_cases h:a<0<;>by_cases O:b<0<;>simp[h,O]<;>omega
  rw[this];rfl
 rw[if_neg ci];have hw:Qe (a+b)=if a+b<0 then a+b+18446744073709551616 else a+b-18446744073709551616:=by
  rw[Zj];unfold wrap64 XI at *;split<;>omega
 have:((decide (a<0)==decide (b<0))&&(decide (Qe (a+b)<0) != decide (a<0)))=true:=by
  rw[hw];unfold XI at *;by_cases h:a<0<;>by_cases O:b<0<;>by_cases c3:a+b<0<;>simp[h,O,c3]<;>omega
 rw[this];rfl
def Qyb (h:XI a)(O:XI b):Ka 3 a b=C (Zm a b):=by
 unfold Ka;rw[show((3:Int)==1)=false from rfl,Qi,show((3:Int)==2)=false from rfl,Qi,show((3:Int)==3)=true from rfl,Ql,Qip h O];rfl
def Qyc (h:XI a)(O:XI b):Ka 1 a b=C (Qrg a b):=by
 unfold Ka;rw[show((1:Int)==1)=true from rfl,Ql,Qwe h O];rfl
def Qxg (O:XI a)(hb:XI b):Ge 1 a b=C (Qrg a b):=by
 unfold Ge;show(ZJ a b).bind _=_;unfold ZJ Qrg;have h:(bif (decide (0<b))then((decide ((Qe (9223372036854775807-b))<a))||((decide (b<0))&&(decide (a<(Qe ((-9223372036854775808)-b))))))else((decide (b<0))&&(decide (a<(Qe ((-9223372036854775808)-b))))))=decide (¬XI (a+b)):=by
  unfold XI at *;by_cases b1:0<b
  ·rw[Qt b1,Ql,Qz (by omega:¬b<0),SY,Ta,Xh (by omega)];exact decide_eq_decide.2 (by omega)
  rw[Qz b1,Qi];by_cases b2:b<0
  ·rw[Qt b2,UD,Xh (by omega)];exact decide_eq_decide.2 (by omega)
  rw[Qz b2,SY,eq_comm,QS];omega
 rw[h];by_cases c:XI (a+b)
 ·rw[Qz (by simpa using c),Qi,Xh c,if_pos c];rfl
 rw[Qt c,Ql,if_neg c];rfl
def QuO {y:Int}(hx:0<=x/\x<=9223372036854775807)(hy:0<y/\y<=9223372036854775807)(ha:x=EV a)(hb:y=EV b)(ha0:a≠0):(Ho x a b y).bind (λx16=>Cj x16.1 x16.2)=C (Zm a b):=by
 have hm:x*y=EV (a*b):=by rw[ha,hb,Qst]
 unfold Ho;rw[GV (by simpa using (by omega:y≠0)),Qa,Int.tdiv_eq_ediv_of_nonneg (by decide)];have d1:0<=9223372036854775807 / y:=Int.ediv_nonneg (by decide) (by omega);have d2:9223372036854775807 / y<=9223372036854775807:=Int.ediv_le_self _ (by decide);rw[Xh (by omega)];have le1:x<=9223372036854775807 / y↔x*y<=9223372036854775807:=Int.le_ediv_iff_mul_le hy.1;by_cases c:x<=9223372036854775807 / y
 ·have:=le1.1 c;have hin:XI (a*b):=by unfold XI EV at *;split at hm<;>omega
  rw[Qt c,Ql,Xh hin];unfold Zm;rw[if_pos hin];rfl
 have:=λh=>c (le1.2 h);rw[Qz c,Qi];unfold Qe8;have sg:(bif (decide (a<0))then((decide (0<b))||((decide (0<a))&&(decide (b<0))))else((decide (0<a))&&(decide (b<0))))=decide (a*b<0):=by
  have hb0:b≠0:=by intro h;subst h;unfold EV at hb;simp at hb;omega
  by_cases c1:a<0<;>by_cases c2:b<0
  ·have:=Int.mul_pos_of_neg_of_neg c1 c2;rw[Qt c1,Qz (by omega:¬0<b),Qz (by omega:¬0<a),Qz (by omega:¬a*b<0)];rfl
  ·have:=Int.mul_neg_of_neg_of_pos c1 (by omega:0<b);rw[Qt c1,Qt (by omega:0<b),Qt this];rfl
  ·have:=Int.mul_neg_of_pos_of_neg (by omega:0<a) c2;rw[Qz c1,Qt (by omega:0<a),Qt c2,Qt this];rfl
  have:=Int.mul_nonneg (by omega:0<=a) (by omega:0<=b);rw[Qz c1,Qz c2,Qz (by omega:¬a*b<0),Bool.and_false];rfl
 rw[sg];by_cases c3:a*b<0
 ·rw[Qt c3,Ql,GV (by simpa using (by omega:y≠0)),Qa,Xh (by omega:-9223372036854775808<=y-1/\y-1<=9223372036854775807),Xh (by omega:-9223372036854775808<=9223372036854775807-(y-1)/\9223372036854775807-(y-1)<=9223372036854775807),Xh (by omega:-9223372036854775808<=x-1/\x-1<=9223372036854775807),Int.tdiv_eq_ediv_of_nonneg (by omega)];have d3:0<=(9223372036854775807-(y-1)) / y:=Int.ediv_nonneg (by omega) (by omega);have d4:(9223372036854775807-(y-1)) / y<=9223372036854775807-(y-1):=Int.ediv_le_self _ (by omega);rw[Xh (by omega)];have O:x-1<=(9223372036854775807-(y-1)) / y↔(x-1)*y<=9223372036854775807-(y-1):=Int.le_ediv_iff_mul_le hy.1;have e3:(x-1)*y=x*y-y:=by rw[Int.sub_mul,Int.one_mul]
  rw[e3]at O;unfold EV at hm;rw[if_pos c3]at hm;unfold Zm;by_cases c4:x-1<=(9223372036854775807-(y-1)) / y
  ·have h4:=O.1 c4;have e4:x*y=9223372036854775808:=by omega
   rw[Qt c4,Ql,e4,if_pos (by unfold XI;omega),show a*b=-9223372036854775808 by omega];rfl
  have h4:=λh=>c4 (O.2 h);rw[Qz c4,Qi,if_neg (by unfold XI;omega)];rfl
 rw[Qz c3,Qi];unfold EV at hm;rw[if_neg c3]at hm;unfold Zm;rw[if_neg (by unfold XI;omega)];rfl
def Qxh (ha:XI a)(hb:XI b):Ge 3 a b=C (Zm a b):=by
 unfold Ge;show(ZL a b).bind _=_;unfold ZL;by_cases z:a=0\/b=0
 ·rw[show((a==0)||(b==0))=true by simpa using z,Ql];have:a*b=0:=Int.mul_eq_zero.2 z;unfold Zm;rw[this];rfl
 rw[show((a==0)||(b==0))=false by simpa using z,Qi];simp only[not_or]at z;by_cases m:a=-9223372036854775808\/b=-9223372036854775808
 ·rw[show((a==(-9223372036854775808))||(b==(-9223372036854775808)))=true by simpa using m,Ql];by_cases o:a=1\/b=1
  ·rw[show((a==1)||(b==1))=true by simpa using o,Ql];have h:XI (a*b):=by
    rcases o with rfl | rfl
    ·rwa[Int.one_mul]
    rwa[Int.mul_one]
   rw[Xh h];unfold Zm;rw[if_pos h];rfl
  rw[show((a==1)||(b==1))=false by simpa using o,Qi];simp only[not_or]at o;have h:¬XI (a*b):=by
   unfold XI;rcases m with rfl | rfl
   ·omega
   omega
  unfold Zm;rw[if_neg h];rfl
 rw[show((a==(-9223372036854775808))||(b==(-9223372036854775808)))=false by simpa using m,Qi];simp only[not_or]at m;unfold XI at ha hb;have k4:∀x,0<=x/\x<=9223372036854775807->x=EV a->(Hp b a x).bind (λO=>Cj O.1 O.2)=C (Zm a b):=λx hx he=>by
  unfold Hp;by_cases c:b<0
  ·rw[Qt c,Ql,Xh (by omega)];exact QuO hx (by omega) he (by unfold EV;rw[if_pos c];omega) z.1
  rw[Qz c,Qi];exact QuO hx (by omega) he (by unfold EV;rw[if_neg c]) z.1
 by_cases c:a<0
 ·rw[Qt c,Ql,Xh (by omega)];exact k4 _ (by omega) (by unfold EV;rw[if_pos c];omega)
 rw[Qz c,Qi];exact k4 _ (by omega) (by unfold EV;rw[if_neg c])
def eqO {o p:O_ QLL}(h:decide (o=p)=true):o=p:=Xd h
set_option maxRecDepth 100000 in
def QcT (O h:Int):GO O h=YT O h:=by
 by_cases hg:((decide (h<0))||((decide (16<h))||((O==3)&&(decide (4<h)))))=true
 ·unfold YT GO;rw[hg,Ql,Ql]
 have hg':=hg;simp only[KW,QJ,Qx,beq_iff_eq,not_or,not_and]at hg;obtain⟨h0,h1,h2⟩:=hg;by_cases e1:O=1
 ·subst e1;rcases near h0 h1 with rfl | rfl | rfl | rfl | rfl | rfl | rfl | rfl | rfl | rfl | rfl | rfl | rfl | rfl | rfl | rfl | rfl<;>exact eqO (by kernel_rfl)
 by_cases e2:O=2
 ·subst e2;rcases near h0 h1 with rfl | rfl | rfl | rfl | rfl | rfl | rfl | rfl | rfl | rfl | rfl | rfl | rfl | rfl | rfl | rfl | rfl<;>exact eqO (by kernel_rfl)
 by_cases e3:O=3
 ·subst e3;have h3:=h2 rfl;have:h=0\/h=1\/h=2\/h=3\/h=4:=by omega
  rcases this with rfl | rfl | rfl | rfl | rfl<;>exact eqO (by kernel_rfl)
 have f1:(O==1)=false:=by simpa using e1
 have f2:(O==2)=false:=by simpa using e2
 have f3:(O==3)=false:=by simpa using e3
 have t0:∃l,Qh (λst=>Qah h st.1 st.2) (0,([]:LI_))=C l:=by
  rcases near h0 h1 with rfl | rfl | rfl | rfl | rfl | rfl | rfl | rfl | rfl | rfl | rfl | rfl | rfl | rfl | rfl | rfl | rfl<;>exact Option.isSome_iff_exists.1 (by kernel_rfl)
 obtain⟨l,hl⟩:=t0;rw[HN]at hg';unfold YT GO;rw[hg',Qi,Qi,hl,Qa];unfold VK;rw[f1,f2,f3];rfl
def Qxi (ha:XI a)(hb:XI b):Ge 2 a b=Ka 2 a b:=by
 unfold Ge Ka;show(ZK a b).bind _=(Dt a b).bind _;unfold ZK Dt;have h:(bif (decide (b<0))then((decide ((Qe (9223372036854775807+b))<a))||((decide (0<b))&&(decide (a<(Qe ((-9223372036854775808)+b))))))else((decide (0<b))&&(decide (a<(Qe ((-9223372036854775808)+b))))))=decide (¬XI (a-b)):=by
  unfold XI at *;by_cases b1:b<0
  ·rw[Qt b1,Ql,Qz (by omega:¬0<b),SY,Ta,Xh (by omega)];exact decide_eq_decide.2 (by omega)
  rw[Qz b1,Qi];by_cases b2:0<b
  ·rw[Qt b2,UD,Xh (by omega)];exact decide_eq_decide.2 (by omega)
  rw[Qz b2,SY,eq_comm,QS];omega
 have O:(((decide (a<0)) != (decide (b<0)))&&((decide ((Qe (a-b))<0)) != (decide (a<0))))=decide (¬XI (a-b)):=by
  have e:Qe (a-b)=wrap64 (a-b):=Zj _;rw[e];unfold wrap64 XI at *;apply NC.2;simp only[QJ,bne_iff_ne,ne_eq,decide_eq_decide,Qx];omega
 rw[h,O];by_cases c:XI (a-b)
 ·rw[Qz (by simpa using c),Qi,Qi];rfl
 rw[Qt c,Ql,Ql];rfl
def QuP {op:Int}(h:XI a)(O:XI b):Ge op a b=Ka op a b:=by
 by_cases h1:op=1
 ·subst h1;rw[Qxg h O,Qyc h O]
 by_cases h2:op=2
 ·subst h2;exact Qxi h O
 by_cases h3:op=3
 ·subst h3;rw[Qxh h O,Qyb h O]
 unfold Ge Ka;have b1:(op==1)=false:=by simpa using h1
 have b2:(op==2)=false:=by simpa using h2
 have b3:(op==3)=false:=by simpa using h3
 have y:∀c:Bool,GH c=C (bif c then 1 else 0)/\Kf c=C (bif c then 1 else 0,0):=λc=>by cases c<;>exact⟨rfl,rfl⟩
 rw[b1,b2,b3];simp only[Qi];by_cases h4:op=4
 ·subst h4;unfold Ck Wl;rw[show((4:Int)==4)=true from rfl,Ql,Ql,Ql];by_cases c:b=0
  ·subst c;rfl
  rw[show(b==0)=false by simpa using c,Qi,Qi,GV (by simpa using c)];cases ((a==(-9223372036854775808))&&(b==(-1)))<;>rfl
 by_cases h5:op=5
 ·subst h5;unfold Ck Wl;rw[show((5:Int)==4)=false from rfl,show((5:Int)==5)=true from rfl,Qi,Ql,Ql,Qi,Qi];by_cases c:b=0
  ·subst c;rfl
  rw[show(b==0)=false by simpa using c,Qi,Qi,GV (by simpa using c)];cases ((a==(-9223372036854775808))&&(b==(-1)))<;>rfl
 have b4:(op==4)=false:=by simpa using h4
 have b5:(op==5)=false:=by simpa using h5
 rw[b4,b5];unfold Ck QgI QgJ QgK QgL TB QbS TC QbT;simp only[Qi,λc=>(y c).1,λc=>(y c).2,Qa];cases (op==6)<;>cases (op==7)<;>cases (op==8)<;>cases (op==9)<;>cases (op==10)<;>cases (op==11)<;>cases (a != 0)<;>rfl
def Qqw (x:Int):XI (Qe x):=by
 have e:Qe x=wrap64 x:=Zj _;rw[e];unfold wrap64 XI;omega
def QwT {op:Int}(ha:XI a)(hb:XI b){r:Int×Int}(h:Ka op a b=C r):XI r.1:=by
 have z:XI 0:=by unfold XI;omega
 have o:XI 1:=by unfold XI;omega
 have y:∀c:Bool,∃n,Kf c=C (n,0)/\XI n:=λc=>by cases c;exact⟨0,rfl,z⟩;exact⟨1,rfl,o⟩
 have yy:∀(c:Bool) {r:Int×Int},((Kf c).bind λx=>C (x.1,x.2))=C r->XI r.1:=λc r h=>by
  obtain⟨n,e,hn⟩:=y c;rw[e]at h;cases h;exact hn
 have tm:XI (Int.tmod a b):=by
  by_cases hb0:b=0
  ·subst hb0;rw[Int.tmod_zero];exact ha
  unfold XI at *;have h2:(Int.tmod a b).natAbs<b.natAbs:=by rw[Int.natAbs_tmod];exact Nat.mod_lt _ (by omega)
  omega
 have q:∀{r:Int×Int×Int},Wl a b=C r->XI r.1/\XI r.2.1:=λ{r} h=>by
  unfold Wl at h;rcases Ye h with⟨_,h⟩|⟨_,h⟩
  ·cases h;exact⟨z,z⟩
  rcases Ye h with⟨_,h⟩|⟨_,h⟩
  ·cases h;exact⟨z,z⟩
  obtain⟨_,_,h⟩:=QU h;obtain⟨_,_,h⟩:=QU h;cases h;exact⟨Qqw _,tm⟩
 unfold Ka at h;rcases Ye h with⟨_,h⟩|⟨_,h⟩
 ·obtain⟨x,O,h⟩:=QU h;cases h;unfold HX at O;rcases Ye O with⟨_,h⟩|⟨_,h⟩<;>cases h
  ·exact z
  exact Qqw _
 rcases Ye h with⟨_,h⟩|⟨_,h⟩
 ·obtain⟨x,O,h⟩:=QU h;cases h;unfold Dt at O;rcases Ye O with⟨_,h⟩|⟨_,h⟩<;>cases h
  ·exact z
  exact Qqw _
 rcases Ye h with⟨_,h⟩|⟨_,h⟩
 ·obtain⟨x,O,h⟩:=QU h;cases h;rw[Qip ha hb]at O;unfold Zm at O;split at O<;>cases O
  ·assumption
  exact z
 rcases Ye h with⟨_,h⟩|⟨_,h⟩
 ·obtain⟨x,O,h⟩:=QU h;cases h;exact(q O).1
 rcases Ye h with⟨_,h⟩|⟨_,h⟩
 ·obtain⟨x,O,h⟩:=QU h;cases h;exact(q O).2
 iterate 4
  rcases Ye h with⟨_,h⟩|⟨_,h⟩
  ·exact yy _ h
 rcases Ye h with⟨_,h⟩|⟨_,h⟩
 ·obtain⟨x,O,h⟩:=QU h;cases h;unfold TB at O;rcases Ye O with⟨_,h⟩|⟨_,h⟩<;>exact yy _ h
 rcases Ye h with⟨_,h⟩|⟨_,h⟩
 ·obtain⟨x,O,h⟩:=QU h;cases h;unfold TC at O;rcases Ye O with⟨_,h⟩|⟨_,h⟩<;>exact yy _ h
 cases h;exact z
def QuQ {α:Type}{l:L_ α}(p:α->Bool){body:Int->O_ (Int⊕(Int⊕Unit))}(O:∀(i:Nat) x,i<l.length->l[i]? = C x->body (i:Int)=C (bif p x then .inr (.inl (i:Int))else .inl ((i+1:Nat):Int)))(h:body (l.length:Int)=C (.inr (.inr ()))):
  Qh body 0=C ((KM (λ_ x=>p x) 0 l).elim (Sum.inr ()) λi=>Sum.inl (i:Int)):=
 SS (λi:Nat=>(i:Int)) (λ_ x=>p x) (λi=>Sum.inl (i:Int)) (Sum.inr ()) O h rfl
def QwU {α:Type}(p:α->Bool)(l:L_ α):decide (0<=(KM (λ_ x=>p x) 0 l).elim (-1:Int) λi=>(i:Int))=l.any p:=by
 cases h:KM (λ_ x=>p x) 0 l with
 | none=>
  have:=Qbm h;symm;rw[show decide ((0:Int)<=(none:O_ Nat).elim (-1:Int) λi=>(i:Int))=false from rfl,List.any_eq_false];intro x hx;obtain⟨i,hi⟩:=En.1 hx;simpa using this i x hi
 | some n=>
  obtain⟨i,x,h1,O,h3⟩:=Qbl h;symm;rw[show decide ((0:Int)<=(C n).elim (-1:Int) λi=>(i:Int))=true from Qt (Int.natCast_nonneg n),EX];exact⟨x,Xt O,h3⟩
def Qsu {α:Type}(f:α->Bool):∀(l:L_ α) (k:Nat) (t:Bool),DE (λ(_:Nat) (t:Bool) x=>(bif t then .inl (f x)else .inr t:Bool⊕Bool)) (λt=>t) k t l=(t&&l.all f)
 | [],_,t=>by simp[DE]
 | x::l,k,t=>by
  rw[DE];cases t with
  | true=>rw[Ql,Sum.elim_inl,Qsu f l];simp
  | false=>rfl
def Qtn (n:Nat)(e:Qm):GP n e=Wb n e:=by
 have:∀n,GP n=Wb n:=λn=>by
  induction n with
  | zero=>rfl
  | succ n h=>
   funext e;show Vh (GP n) e=NT (Wb n) e;rw[h];rfl
 rw[this]
def QuR (n:Nat)(e:Qm):EL n e=WZ n e:=by
 have:∀n,EL n=WZ n:=λn=>by
  induction n with
  | zero=>rfl
  | succ n h=>
   funext e;show Zf (EL n) e=Ra (WZ n) e;rw[h];rfl
 rw[this]
def Qto {O:Qm->Int->O_ Bool}{p:Qm->Bool}(hl:e.Kids.length<=maxLen)(h:∀k∈e.Kids,O k v=C (p k))(ok:Bool):KL e O v ok=C (ok&&e.Kids.all p):=by
 unfold KL;rw[CZ (body:=λst=>EM e O v st.1 st.2) (l:=e.Kids) (λi (t:Bool)=>(t,(i:Int))) (λ_ t x=>bif t then .inl (p x)else .inr t) (λt=>t) (λi t x hi hx=>by
  show EM e O v t (i:Int)=_;unfold EM;rw[Qt (by omega),UD];cases t with
  | false=>rfl
  | true=>rw[Ql,Qs,hx,Qa,h x (Xt hx),Qa,Qj hi hl];rfl) (λt=>by
  show EM e O v t (e.Kids.length:Int)=_;unfold EM;rw[Qz (by omega),SY];rfl) ok (s0:=(ok,0)) rfl,Qsu]
 rfl
def QuS {l:L_ Qm}{O:Qm->Int->O_ Bool}{p:Qm->Bool}(hl:l.length<=maxLen)(h:∀k∈l,O k v=C (p k)):XQ O l v=C (!(l.all p)):=by
 unfold XQ JJ;rw[QuQ (l:=l) (λk=>!p k) (λi x hi hx=>by
  show XP l O v i=_;unfold XP NU;rw[Qt (by omega),Ql,Qs,hx,Qa,h x (Xt hx),Qa,Qa,Qj hi hl];cases p x<;>rfl) (by
  show XP l O v l.length=_;unfold XP;rw[Qz (by omega),Qi])]
 have e:(!(l.all p))=l.any λk=>!p k:=by rw[List.all_eq_not_any_not,Bool.not_not]
 rw[e,<-QwU];cases KM (λ_ k=>!p k) 0 l<;>rfl
def QnI : ∀(n:Nat) (e:Qm) (v:Int),WA e->SizeOf.sizeOf e<=n->GQ n e v=YU n e v
 | 0,e,_,_,h=>absurd e.pos (by omega)
 | n+1,e,v,he,h=>by
  have hkl:=(WW he).1;have tot:∀k∈e.Kids,YU n k v=C ((YU n k v).getD false):=λk hk=>by
   obtain⟨r,hr,_⟩:=SI n k v ((WW he).2 k hk) (by have:=Qak hk;omega);rw[hr];rfl
  have tot2:∀k∈e.Kids,GQ n k v=C ((YU n k v).getD false):=λk hk=>by
   rw[QnI n k v ((WW he).2 k hk) (by have:=Qak hk;omega)];exact tot k hk
  show Mz (GQ n) e v=FZ (YU n) e v;have k3:=Qto hkl tot2;generalize hp:(λk=>(YU n k v).getD false)=p at *;have c3:XQ (YU n) e.Kids v=C (!(e.Kids.all p)):=QuS hkl λk hk=>by rw[<-hp];exact tot k hk
  unfold Mz IA Qcs Qct FZ Tu Tv QaC Nf PI AV AU;rw[c3];simp only[k3,Qa];by_cases h1:e.Kind=1
  ·simp only[h1,show((1:Int)==1)=true from rfl,show((1:Int)==2)=false from rfl,show((1:Int)==5)=false from rfl,Ql,Qi,Qa,SY];by_cases c:(e.Kids.length:Int)=0
   ·rw[show((e.Kids.length:Int)==0)=true by simpa using c,show((e.Kids.length:Int) != 0)=false by simpa using c];simp
   rw[show((e.Kids.length:Int)==0)=false by simpa using c,show((e.Kids.length:Int) != 0)=true by simpa using c];rfl
  by_cases h2:e.Kind=2
  ·simp only[h2,show((2:Int)==1)=false from rfl,show((2:Int)==2)=true from rfl,show((2:Int)==5)=false from rfl,Ql,Qi,Qa,UD];by_cases c:(e.Kids.length:Int)=0
   ·rw[show((e.Kids.length:Int)==0)=true by simpa using c,show((e.Kids.length:Int) != 0)=false by simpa using c];by_cases d:0<=e.Num
    ·by_cases f:e.Num<v
     ·rw[Qt d,Qt f,Qz (by omega:¬e.Num<0),Qz (by omega:¬v<=e.Num)];simp
     rw[Qt d,Qz f,Qz (by omega:¬e.Num<0),Qt (by omega:v<=e.Num)];simp
    rw[Qz d,Qt (by omega:e.Num<0)];simp
   rw[show((e.Kids.length:Int)==0)=false by simpa using c,show((e.Kids.length:Int) != 0)=true by simpa using c];simp
  have b1:(e.Kind==1)=false:=by simpa using h1
  have b2:(e.Kind==2)=false:=by simpa using h2
  simp only[b1,b2,Qi,SY];have O:∀(m:Int) (q:Bool),((bif ((e.Kids.length:Int) != m)then C false else(bif q then C false else C (!(!(e.Kids.all p))))):O_ Bool)=C ((((e.Kids.length:Int)==m)&&!q)&&e.Kids.all p):=λm q=>by
   by_cases c:(e.Kids.length:Int)=m
   ·rw[show((e.Kids.length:Int)==m)=true by simpa using c,show((e.Kids.length:Int) != m)=false by simpa using c];cases q<;>simp
   rw[show((e.Kids.length:Int)==m)=false by simpa using c,show((e.Kids.length:Int) != m)=true by simpa using c];rfl
  have neg:((e.Kids.length:Int) != -1)=true:=by simp
  by_cases h3:e.Kind=3
  ·have:=O 1 false;simp only[h3,show((3:Int)==3)=true from rfl,show((3:Int)==5)=false from rfl,Ql,Qi,Qa]at this ⊢;rw[this];simp
  by_cases h4:e.Kind=4
  ·have:=O 1 false;simp only[h4,show((4:Int)==3)=false from rfl,show((4:Int)==4)=true from rfl,show((4:Int)==5)=false from rfl,Ql,Qi,Qa]at this ⊢;rw[this];simp
  have b3:(e.Kind==3)=false:=by simpa using h3
  have b4:(e.Kind==4)=false:=by simpa using h4
  simp only[b3,b4,Qi];by_cases h5:e.Kind=5
  ·have:=O 2 (!((decide (1<=e.Num))&&(decide (e.Num<=11))));simp only[h5,show((5:Int)==5)=true from rfl,Ql,Qi,Qa]at this ⊢;rw[this];cases ((e.Kids.length:Int)==2)<;>simp
  have b5:(e.Kind==5)=false:=by simpa using h5
  simp only[b5,Qi];by_cases h6:e.Kind=6
  ·have:=O 3 false;simp only[h6,show((6:Int)==6)=true from rfl,Ql,Qi,Qa]at this ⊢;rw[this];simp
  have b6:(e.Kind==6)=false:=by simpa using h6
  simp only[b6,Qi,Qa,neg,Ql,SY]
def Qtp (e:Qm)(v:Int)(h:WA e):Rz e v=Up e v:=by
 unfold Rz Up Qcu Tz QaB Tt Qcr ZF QaD Tw;rw[Qtn,QuR,QnI _ e v h (Yx _)]
 all_goals rfl
inductive RE : Qm->Prop where
 | mk (e:Qm):XI e.Num->(∀k∈e.Kids,RE k)->RE e
def Qpw : ∀(n:Nat) (v:LI_) (e:Qm),POk v.length e->RE e->(∀x∈v,XI x)->SizeOf.sizeOf e<=n->∃r,XG n v e=C r/\EN n e v=C r/\XI r.1
 | 0,_,e,_,_,_,h=>absurd e.pos (by omega)
 | n+1,v,e,he,hr,hv,h=>by
  cases he with
  | mk _ hk h2 h3 h5 h6 hp=>
  cases hr with
  | mk _ hnum hkr=>
  have z:XI 0:=by unfold XI;omega
  have o:XI 1:=by unfold XI;omega
  have sub:∀(j:Nat) (hj:j<e.Kids.length),∃r,XG n v (e.Kids[j])=C r/\EN n (e.Kids[j]) v=C r/\XI r.1:=λj hj=>
   Qpw n v _ (hp _ (Xn hj)) (hkr _ (Xn hj)) hv (by have:=Qak (Xn hj);omega)
  have kid:∀(j:Nat) (hj:j<e.Kids.length),idx e.Kids (j:Int)=C e.Kids[j]:=λj hj=>by rw[Qs,Qp hj]
  show ∃r,Ai (XG n) v e=C r/\OA (EN n) e v=C r/\XI r.1;unfold Ai OA Wk Kw;by_cases k1:e.Kind=1
  ·rw[k1];exact⟨(e.Num,0),rfl,rfl,hnum⟩
  by_cases k2:e.Kind=2
  ·have hh:=h2 k2;have hx:idx v e.Num=C (v[e.Num.toNat]'(by omega)):=PT hh.1 hh.2;rw[k2];refine⟨(v[e.Num.toNat]'(by omega),0),?_,?_,hv _ (Xn _)⟩
   ·show(Ur e v)=_;unfold Ur BB;rw[hx];rfl
   show(idx v e.Num).bind _=_;rw[hx];rfl
  have b1:(e.Kind==1)=false:=by simpa using k1
  have b2:(e.Kind==2)=false:=by simpa using k2
  have l1:1<=e.Kids.length:=by
   by_cases k3:e.Kind=3\/e.Kind=4
   ·have:=h3 k3;omega
   by_cases k5:e.Kind=5
   ·have:=h5 k5;omega
   have:=h6 (by omega);omega
  obtain⟨a,a1,a2,a3⟩:=sub 0 (by omega);have O:idx e.Kids 0=C (e.Kids[0]'(by omega)):=kid 0 (by omega);rw[b1,b2];simp only[Qi,O,Qa,a2];by_cases k34:e.Kind=3\/e.Kind=4
  ·have ed:((bif e.Kind==3 then bif e.Kind==3 then C (.inr (.inr (.inl v)))else bif e.Kind==5 then C (.inr (.inr (.inr (.inl v))))else C (.inr (.inr (.inr (.inr v))))else bif e.Kind==4 then C (.inr (.inr (.inl v)))else bif e.Kind==5 then C (.inr (.inr (.inr (.inl v))))else C (.inr (.inr (.inr (.inr v))))):O_ (LI_⊕(LI_⊕(LI_⊕(LI_⊕LI_)))))=C (.inr (.inr (.inl v))):=by
    rcases k34 with k | k<;>rw[k]<;>rfl
   rw[ed];show ∃r,WL (XG n) e v=C r/\_;unfold WL Ah;rw[O,Qa,a1,Qa];cases hz:(a.2 != 0)with
   | true=>exact⟨(0,a.2),rfl,rfl,z⟩
   | false=>
    simp only[Qi];rcases k34 with k | k
    ·rw[k];simp only[show((3:Int)==3)=true from rfl,Ql];unfold TE;rw[QuP z a3];have hd:=Ft 2 0 a.1;obtain⟨d,hd,_⟩:=hd;rw[hd];exact⟨d,rfl,rfl,QwT z a3 hd⟩
    rw[k];simp only[show((4:Int)==3)=false from rfl,show((4:Int)==4)=true from rfl,Ql,Qi];by_cases c:a.1=0
    ·rw[c];exact⟨(1,0),rfl,rfl,o⟩
    have:(a.1==0)=false:=by simpa using c
    rw[this];refine⟨(0,0),?_,rfl,z⟩;show(((Kf (a.1==0)).bind _).bind _).bind _=_;rw[this];rfl
  have n3:¬e.Kind=3:=λk=>k34 (.inl k);have n4:¬e.Kind=4:=λk=>k34 (.inr k);have b3:(e.Kind==3)=false:=by simpa using n3
  have b4:(e.Kind==4)=false:=by simpa using n4
  rw[b3,b4];simp only[Qi];by_cases k5:e.Kind=5
  ·have hl:=h5 k5;obtain⟨b,c1,c2,c3⟩:=sub 1 (by omega);have kid1:idx e.Kids 1=C (e.Kids[1]'(by omega)):=kid 1 (by omega);rw[k5];show ∃r,Us (XG n) e v=C r/\_;unfold Us NV Dv;simp only[O,kid1,Qa,a1,c1,c2,show((5:Int)==6)=false from rfl,Qi];cases hz:(a.2 != 0)with
   | true=>exact⟨(0,a.2),rfl,rfl,z⟩
   | false=>
    simp only[Qi];cases hq:((e.Num==10)&&(a.1==0))with
    | true=>
     have:a.1=0:=by simp at hq;exact hq.2
     rw[this];exact⟨(0,0),rfl,rfl,z⟩
    | false=>
     simp only[Qi];have rest:∃r,((bif (b.2 != 0)then C (0,b.2)else(Ka e.Num a.1 b.1).bind λx16=>C (x16.1,x16.2)):O_ (Int×Int))=C r/\((bif (b.2 != 0)then C (0,b.2)else(Ge e.Num a.1 b.1).bind λx16=>C (x16.1,x16.2)):O_ (Int×Int))=C r/\XI r.1:=by
      rw[QuP a3 c3];obtain⟨d,hd,_⟩:=Ft e.Num a.1 b.1;rw[hd];cases (b.2 != 0)with
      | true=>exact⟨(0,b.2),rfl,rfl,z⟩
      | false=>exact⟨d,rfl,rfl,QwT a3 c3 hd⟩
     obtain⟨r,r1,r2,r3⟩:=rest;cases h11:(e.Num==11)with
     | false=>
      simp only[Qi,SY];exact⟨r,by rw[r1];rfl,r2,r3⟩
     | true=>
      simp only[Ql,UD];cases ha:(a.1 != 0)with
      | true=>
       refine⟨(1,0),?_,rfl,o⟩;simp only[Ql];show(((Kf (a.1 != 0)).bind _).bind _).bind _=_;rw[ha];rfl
      | false=>
       simp only[Qi];exact⟨r,by rw[r1];rfl,r2,r3⟩
  have k6:e.Kind=6:=by omega
  have hl:=h6 k6;obtain⟨b,c1,c2,c3⟩:=sub 1 (by omega);obtain⟨d,d1,d2,d3⟩:=sub 2 (by omega);have kid1:idx e.Kids 1=C (e.Kids[1]'(by omega)):=kid 1 (by omega);have kid2:idx e.Kids 2=C (e.Kids[2]'(by omega)):=kid 2 (by omega);rw[k6];show ∃r,Ut (XG n) e v=C r/\_;unfold Ut FE;simp only[O,kid1,kid2,Qa,a1,c1,c2,d1,d2,show((6:Int)==6)=true from rfl,Ql];cases hz:(a.2 != 0)with
  | true=>exact⟨(0,a.2),rfl,rfl,z⟩
  | false=>
   simp only[Qi];cases (a.1 != 0)with
   | true=>exact⟨b,rfl,rfl,c3⟩
   | false=>exact⟨d,rfl,rfl,d3⟩
def Qpx {v:LI_}(h:WA e)(hr:RE e)(hv:∀x∈v,XI x):∃r,Fj e v=C r/\Nt e v=C r/\XI r.1:=by
 unfold Fj Nt Mb Qcv;rw[Qtp e _ h];obtain⟨b,hb,O⟩:=OR e v.length h;rw[hb,Qa,Qa];cases b with
 | false=>exact⟨(0,1),rfl,rfl,by unfold XI;decide⟩
 | true=>
  obtain⟨r,r1,r2,r3⟩:=Qpw _ v e (O rfl) hr hv (Yx _);rw[r1,r2];exact⟨r,rfl,rfl,r3⟩
def QcU {σ τ ρ π:Type}{b1:σ->O_ (σ⊕ρ)}{b2:τ->O_ (τ⊕π)}(n:Nat)(I:Nat->σ->τ->Prop)(O:ρ->π->Prop)
  (step:∀i s t,i<=n->I i s t->(i<n/\∃s' t',b1 s=C (.inl s')/\b2 t=C (.inl t')/\I (i+1) s' t')\/∃r q,b1 s=C (.inr r)/\b2 t=C (.inr q)/\O r q):∀s t,I 0 s t->∃r q,Qh b1 s=C r/\Qh b2 t=C q/\O r q:=by
 have key:∀k i s t,i+k=n->I i s t->∃r q,Qh b1 s=C r/\Qh b2 t=C q/\O r q:=by
  intro k
  induction k with
  | zero=>
   intro i s t hk hI;rcases step i s t (by omega) hI with⟨h,_⟩|⟨r,q,h1,h2,h3⟩
   ·omega
   exact⟨r,q,by rw[Yl,h1];rfl,by rw[Yl,h2];rfl,h3⟩
  | succ k ih=>
   intro i s t hk hI;rcases step i s t (by omega) hI with⟨_,s',t',h1,h2,h3⟩|⟨r,q,h1,h2,h3⟩
   ·obtain⟨r,q,e1,e2,e3⟩:=ih (i+1) s' t' (by omega) h3;exact⟨r,q,by rw[Yl,h1];exact e1,by rw[Yl,h2];exact e2,e3⟩
   exact⟨r,q,by rw[Yl,h1];rfl,by rw[Yl,h2];rfl,h3⟩
 exact λs t h=>key n 0 s t (by omega) h
def Qiq {a b:ByteArray}:Ko a b=true↔a=b:=by
 unfold Ko;rw[beq_iff_eq,ByteArray.toList_eq,ByteArray.toList_eq];exact⟨λh=>ByteArray.ext (Array.toList_inj.1 h),λh=>by rw[h]⟩
def Qrh (a b:ByteArray):Ko a b=decide (a=b):=by
 by_cases h:a=b
 ·rw[Qt h];exact Qiq.2 h
 rw[Qz h,<-HN,Qiq];exact h
def Qpy (s:ByteArray):Ns s=DY s:=by
 have e0:decide ((s.size:Int)<1)=Ko s (⟨#[]⟩:ByteArray):=by
  rw[Qrh];apply decide_eq_decide.2;constructor
  ·intro h;obtain⟨a⟩:=s;have:a=#[]:=QsC (by have h:((a.size:Nat):Int)<1:=h;omega);rw[this]
  intro h;subst h;decide
 have g1:Vf s=HW s:=by
  unfold Vf HW;rw[e0];rfl
 have l4:∀i,My s i=ED s i:=λi=>by
  unfold My ED QdE;cases h:sidx s i with
  | none=>rfl
  | some c=>
   simp only[Qa];congr 1;unfold RQ Oy UK QaA QdF RS;simp only[Qa];generalize (bif (decide (97<=c))then((decide (c<=122))||((decide (65<=c))&&(decide (c<=90))))else((decide (65<=c))&&(decide (c<=90))))=q;cases q with
   | true=>rfl
   | false=>
    by_cases O:c<48
    ·rw[Qt O,Qz (by omega:¬48<=c)];rfl
    rw[Qz O,Qt (by omega:48<=c)];by_cases h2:57<c
    ·rw[Qt h2,Qz (by omega:¬c<=57)];rfl
    rw[Qz h2,Qt (by omega:c<=57)];rfl
 unfold Ns DY QdG RV;rw[g1,show(λst=>My s st)=λst=>ED s st from funext l4];rfl
def Qo5 {α:Type}(f:α->Bool):∀(l:L_ α) (k:Nat) (t:Bool),DE (λ(_:Nat) (t:Bool) x=>(.inl (t&&f x):Bool⊕Bool)) (λt=>t) k t l=(t&&l.all f)
 | [],_,t=>by simp[DE]
 | x::l,k,t=>by rw[DE,Sum.elim_inl,Qo5 f l];simp[Bool.and_assoc]
def Had (m:L_ (ByteArray×Bool))(l:L_ ByteArray):Prop:=∀k,(Qr m k).getD false=l.any λe=>Ko e k
def Had.add {m:L_ (ByteArray×Bool)}{l:L_ ByteArray}(h:Had m l)(x:ByteArray):Had (XL SO m x true) (l++[x]):=λk=>by
 rw[Kb,List.any_append,<-h k];by_cases e:k=x
 ·subst e;rw[if_pos rfl];have:Ko k k=true:=Qiq.2 rfl;simp[this]
 rw[if_neg e];have:Ko x k=false:=by rw[Qrh];exact Qz λh=>e h.symm
 simp[this]
def Qtq {l:L_ ByteArray}(h:QP UW l):∃b,AT l=C b/\Rx l=C b:=by
 have nm:∀x∈l,∃b,DY x=C b:=λx hx=>(Fa x (h.2 x hx)).tot;obtain⟨r,q,e1,e2,e3⟩:=QcU (b1:=λst:Int×L_ (ByteArray×Bool)=>Dp l st.1 st.2) (b2:=λst:Int=>Bq l st) l.length (λi s t=>s.1=(i:Int)/\t=(i:Int)/\Had s.2 (l.take i)) (λr q=>r=q) (λi s t hi hI=>by
  obtain⟨a,m⟩:=s;obtain⟨h1,h2,h3⟩:=hI;replace h1:a=(i:Int):=h1;subst h1 h2;replace h3:Had m (l.take i):=h3;show(i<l.length/\∃s' t',Dp l i m=_/\Bq l i=_/\_)\/∃r q,Dp l i m=_/\Bq l i=_/\_;unfold Dp Bq Pd Pe;by_cases O:i<l.length
  ·have hx:l[i]? = C l[i]:=Qp O;obtain⟨b,hb⟩:=nm _ (Xn O);have il:=CZ (body:=λst:Bool×Int=>EJ i l st.1 st.2) (l:=l.take i) (λk (t:Bool)=>(t,(k:Int))) (λ_ t e=>.inl (t&&!Ko e l[i])) (λt=>t) (λk t x hk hkx=>by
    rw[KX]at hk;have hkx:l[k]? = C x:=by rw[KA,if_pos (by omega)]at hkx;exact hkx
    show EJ i l t (k:Int)=_;unfold EJ Qcm Qcn;rw[Qt (by omega),Ql,Qs,hkx,Qs,hx,Qj O h.1 |> λ_=>Qj (show k<l.length by omega) h.1];cases t<;>rfl) (λt=>by
    show EJ i l t ((l.take i).length:Int)=_;unfold EJ;rw[KX,Qz (by omega)];rfl) b (s0:=(b,0)) rfl
   rw[Qo5]at il;rw[Qt (show(i:Int)<(l.length:Int) by omega),Ql,Ql,Qs,hx,Qa,Qa,Qpy,hb,Qa,Qa,il,Qa,Qj O h.1];unfold Qco;rw[h3 l[i],Qj O h.1];have ea:(l.take i).all (λe=>!Ko e l[i])=!((l.take i).any λe=>Ko e l[i]):=by rw[List.not_any_eq_all_not]
   rw[ea];cases b with
   | false=>right;exact⟨_,_,rfl,rfl,rfl⟩
   | true=>
    cases hq:(l.take i).any λe=>Ko e l[i]with
    | true=>right;exact⟨_,_,rfl,rfl,rfl⟩
    | false=>
     left;refine⟨O,_,_,rfl,rfl,rfl,rfl,?_⟩;rw[UF,hx];exact h3.add _
  right;rw[Qz (show ¬(i:Int)<(l.length:Int) by omega)];exact⟨_,_,rfl,rfl,rfl⟩) (0,[]) 0 ⟨rfl,rfl,λk=>rfl⟩
 subst e3;unfold AT Rx;rw[e1,e2];rcases r with r | r
 ·exact⟨false,rfl,rfl⟩
 exact⟨true,rfl,rfl⟩
structure Qir (c:QD) (s:Int):Prop where
 b:1<=s/\s<=1024
 i:c.Kind=1->c.Lo<=c.Hi/\s=c.Hi-c.Lo+1
def IC (c:QD):Prop:=XI c.Lo/\XI c.Hi
def Qxj {lo hi:Int}(hl:XI lo)(hh:XI hi):Cd lo hi=C (if hi<lo then 0 else if hi-lo<1024 then hi-lo+1 else 1025):=by
 unfold Cd;by_cases h:hi<lo
 ·rw[Qt h,if_pos h];rfl
 rw[Qz h,if_neg h,Qi];have e:IntKind.u64.wrap (IntKind.u64.wrap hi-IntKind.u64.wrap lo)=hi-lo:=by
  rw[Qbp,Qbp,Qbp];unfold XI at *;omega
 rw[e];unfold min2;by_cases O:hi-lo<1024
 ·rw[if_pos O];by_cases h3:1024<hi-lo
  ·omega
  rw[if_neg h3,Xh (n:=hi-lo) (by omega),Xh (by omega)]
 rw[if_neg O];split
 ·rfl
 have:hi-lo=1024:=by omega
 rw[this];rfl
def Ny (n:Int):Bool:=decide (n<1)||decide (1024<n)
def Qsv {n:Int}(h:Ny n=false):1<=n/\n<=1024:=by
 unfold Ny at h;simp only[JT,QS]at h;omega
def QyV {c:QD}{out:LI_}(hc:IC c)(hN:QP UW c.Names)(ho:out.length=i):∃n n',Ce c out=C n/\(∀ok,Su c out (i:Int) ok=JS ok out i n')/\((n'=n/\(Ny n=false->Qir c n))\/(Ny n=true/\Ny n'=true)):=by
 unfold Ce Su;have z:Ny 0=true:=rfl;by_cases k1:c.Kind=1
 ·rw[show(c.Kind==1)=true by simpa using k1];simp only[Ql];rw[Qxj hc.1 hc.2,Qa];obtain⟨c1,c2⟩:=hc;unfold XI at c1 c2;by_cases a1:c.Hi<c.Lo
  ·rw[if_pos a1,Qz (by omega:¬c.Lo<=c.Hi),SY];exact⟨0,0,rfl,λ_=>rfl,.inr ⟨z,z⟩⟩
  rw[if_neg a1,Qt (by omega:c.Lo<=c.Hi),UD];by_cases a2:0<=c.Lo\/c.Hi<c.Lo+1024
  ·have O:(decide (0<=c.Lo)||decide (c.Hi<Qe (c.Lo+1024)))=true:=by
    by_cases a3:0<=c.Lo
    ·rw[Qt a3,Bool.true_or]
    rw[Xh (by omega),Qt (by omega:c.Hi<c.Lo+1024),Bool.or_true]
   rw[O];simp only[Ql];have e1:Qe (c.Hi-c.Lo)=c.Hi-c.Lo:=Xh (by omega);rw[e1];unfold min2;by_cases a4:c.Hi-c.Lo<1024
   ·rw[if_pos a4,if_neg (by omega:¬1024<c.Hi-c.Lo),Xh (by omega)];exact⟨_,_,rfl,λ_=>rfl,.inl ⟨rfl,λhb=>⟨Qsv hb,λ_=>⟨by omega,rfl⟩⟩⟩⟩
   rw[if_neg a4];refine⟨_,_,rfl,λ_=>rfl,.inr ⟨rfl,?_⟩⟩;have:(if (1024:Int)<c.Hi-c.Lo then 1024 else c.Hi-c.Lo)=1024:=by split<;>omega
   rw[this];rfl
  rw[Qz (by omega:¬0<=c.Lo),SZ,Xh (by omega),Qz (by omega:¬c.Hi<c.Lo+1024),if_neg (by omega)];exact⟨_,_,rfl,λ_=>rfl,.inr ⟨rfl,z⟩⟩
 rw[show(c.Kind==1)=false by simpa using k1];simp only[Qi];have nk:∀n,Ny n=false->Qir c n:=λn hb=>⟨Qsv hb,λh=>absurd h k1⟩;by_cases k2:c.Kind=2
 ·rw[show(c.Kind==2)=true by simpa using k2];simp only[Ql];obtain⟨b,b1,b2⟩:=Qtq hN;rw[b1,b2];cases b with
  | true=>exact⟨_,_,rfl,λ_=>rfl,.inl ⟨rfl,nk _⟩⟩
  | false=>exact⟨0,0,rfl,λ_=>rfl,.inr ⟨z,z⟩⟩
 rw[show(c.Kind==2)=false by simpa using k2];simp only[Qi];by_cases k3:c.Kind=3
 ·rw[show(c.Kind==3)=true by simpa using k3];simp only[Ql];have O:((decide (0<=min2 c.First c.Then))&&(decide (max2 c.First c.Then<(out.length:Int))))=((decide (0<=c.First))&&((decide (c.First<(i:Int)))&&((decide (0<=c.Then))&&(decide (c.Then<(i:Int)))))):=by
   apply NC.2;simp only[QJ,Qx,OM,ON,ho];omega
  rw[O];cases hq:((decide (0<=c.First))&&((decide (c.First<(i:Int)))&&((decide (0<=c.Then))&&(decide (c.Then<(i:Int))))))with
  | false=>exact⟨0,0,rfl,λ_=>rfl,.inr ⟨z,z⟩⟩
  | true=>
   simp only[QJ,Qx]at hq;simp only[Ql];rw[PT hq.1 (by omega),PT hq.2.2.1 (by omega)];exact⟨_,_,rfl,λ_=>rfl,.inl ⟨rfl,nk _⟩⟩
 rw[show(c.Kind==3)=false by simpa using k3];exact⟨0,0,rfl,λ_=>rfl,.inr ⟨z,z⟩⟩
def Qtr (h:QP Jg l)(hc:∀c∈l,IC c):∃x b,EE l=C (x,b)/\Ry l=C x/\(b=false->x=[])/\(b=true->x.length=l.length/\∀(j:Nat) c s,l[j]? = C c->x[j]? = C s->Qir c s):=by
 unfold EE Ry;by_cases h32:32<l.length
 ·rw[Qt (show(32:Int)<(l.length:Int) by omega)];exact⟨[],false,rfl,rfl,λ_=>rfl,λh=>by cases h⟩
 rw[Qz (show ¬(32:Int)<(l.length:Int) by omega),Qi,Qi];have hm:(2048:Nat)<=maxLen:=by decide
 obtain⟨r,q,e1,e2,e3⟩:=QcU (b1:=λst:Int×L_ (ByteArray×Bool)×LI_=>Dq l st.1 st.2.1 st.2.2) (b2:=λst:Int×LI_=>Br l st.1 st.2) l.length
  (λi s t=>s.1=(i:Int)/\t=((i:Int),s.2.2)/\Had s.2.1 ((l.take i).map QD.Name)/\s.2.2.length=i/\∀(j:Nat) c z,l[j]? = C c->s.2.2[j]? = C z->Qir c z)
  (λr q=>r=q/\∀x,r=.inr x->x.length=l.length/\∀(j:Nat) c z,l[j]? = C c->x[j]? = C z->Qir c z) (λi s t hi hI=>by
  obtain⟨a,m,out⟩:=s;obtain⟨h1,h2,h3,h4,h5⟩:=hI;replace h1:a=(i:Int):=h1;subst h1 h2;replace h3:Had m ((l.take i).map QD.Name):=h3;replace h4:out.length=i:=h4;replace h5:∀(j:Nat) c z,l[j]? = C c->out[j]? = C z->Qir c z:=h5;show(i<l.length/\∃s' t',Dq l i m out=_/\Br l i out=_/\_)\/∃r q,Dq l i m out=_/\Br l i out=_/\_;unfold Dq Br Ph Pi;by_cases O:i<l.length
  ·have hx:l[i]? = C l[i]:=Qp O;have hmem:=Xn O;obtain⟨b,hb,_⟩:=Fa l[i].Name (h.2 _ hmem).1;have il:=CZ (body:=λst:Bool×Int=>EK i l l[i] st.1 st.2) (l:=l.take i) (λk (t:Bool)=>(t,(k:Int))) (λ_ t e=>.inl (t&&!Ko e.Name l[i].Name)) (λt=>t) (λk t x hk hkx=>by
    rw[KX]at hk;have hkx:l[k]? = C x:=by rw[KA,if_pos (by omega)]at hkx;exact hkx
    show EK i l l[i] t (k:Int)=_;unfold EK Qcp Qcq;rw[Qt (by omega),Ql,Qs,hkx,Qj (show k<l.length by omega) h.1];cases t<;>rfl) (λt=>by
    show EK i l l[i] t ((l.take i).length:Int)=_;unfold EK;rw[KX,Qz (by omega)];rfl) b (s0:=(b,0)) rfl
   rw[Qo5]at il;rw[Qt (show(i:Int)<(l.length:Int) by omega),Ql,Ql,Qs,hx,Qa,Qa,Qpy,hb];have ea:(l.take i).all (λe=>!Ko e.Name l[i].Name)=!(((l.take i).map QD.Name).any λe=>Ko e l[i].Name):=by rw[List.any_map,List.not_any_eq_all_not];rfl
   generalize hq:((l.take i).map QD.Name).any (λe=>Ko e l[i].Name)=had;obtain⟨n,n',s1,s2,s3⟩:=QyV (i:=i) (hc _ hmem) (h.2 _ hmem).2.2.2.2.1 h4;rw[s1];simp only[Qa];rw[il];simp only[Qa];rw[h3 l[i].Name,ea,hq,s2];unfold JS;have hbs:∀n,((decide (n<1))||(decide (1024<n)))=Ny n:=λ_=>rfl;rw[hbs];have ebad:((bif !b then C true else bif had then C true else bif decide (n<1)then C true else C (decide (1024<n))):O_ Bool)=C (!b||(had||Ny n)):=by
    unfold Ny;cases b<;>cases had<;>cases decide (n<1)<;>rfl
   rw[ebad,Qa];have stop:∀n n':Int,Ny n'=true\/(b&&!had)=false->(!b||(had||Ny n))=true->∃(r:Unit⊕LI_) (q:Unit⊕LI_),((bif (!b||(had||Ny n))then C (.inr (.inl ()))else(chk (decide (out.length+[n].length<=4294967296))).bind λ_=>C (.inl (Qe ((i:Int)+1),XL SO m l[i].Name true,out++[n]))):O_ ((Int×L_ (ByteArray×Bool)×LI_)⊕(Unit⊕LI_)))=C (.inr r)/\((bif (!(b&&!had)||Ny n')then C (.inr (.inl ()))else(chk (decide (out.length+[n'].length<=4294967296))).bind λ_=>C (.inl (Qe ((i:Int)+1),out++[n']))):O_ ((Int×LI_)⊕(Unit⊕LI_)))=C (.inr q)/\r=q/\∀x,r=.inr x->x.length=l.length/\∀(j:Nat) c z,l[j]? = C c->x[j]? = C z->Qir c z:=λn n' h1 h2=>by
    refine⟨.inl (),.inl (),by rw[h2];rfl,?_,rfl,λx hx=>by cases hx⟩;rcases h1 with h1 | h1<;>rw[h1]<;>simp
   by_cases hg:b=true/\had=false/\Ny n=false
   ·obtain⟨g1,g2,g3⟩:=hg;rcases s3 with⟨s4,s5⟩|⟨s4,_⟩
    ·subst s4 g1 g2;rw[g3];simp only[JD,PY,Zs,Ta,Qi];left;rw[YR (by simp;omega),Qa,Qa];refine⟨O,_,_,rfl,rfl,Qj O h.1,by rw[Qj O h.1],?_,by simp;omega,λj c z hj hz=>?_⟩
     ·rw[UF,hx,List.map_append];exact h3.add _
     replace hz:(out++[n'])[j]? = C z:=hz;by_cases hjl:j<out.length
     ·rw[Jo hjl]at hz;exact h5 j c z hj hz
     rw[Kn (by omega)]at hz;have:j=i:=by
      have:=(QX.1 hz).1;simp at this;omega
     subst this;rw[hx]at hj;cases hj;rw[h4,Tf]at hz;cases hz;exact s5 g3
    rw[g3]at s4;cases s4
   right;refine stop n n' ?_ ?_
   ·rcases s3 with⟨s4,_⟩|⟨_,s4⟩
    ·subst s4;cases b<;>cases had<;>cases hb2:Ny n'<;>simp_all
    exact .inl s4
   cases b<;>cases had<;>cases hb2:Ny n<;>simp_all
  right;rw[Qz (show ¬(i:Int)<(l.length:Int) by omega)];exact⟨_,_,rfl,rfl,rfl,λx hx=>by cases hx;exact⟨by show out.length=_;omega,h5⟩⟩) (0,[],[]) (0,[]) ⟨rfl,rfl,λk=>rfl,rfl,λj c z _ h=>by simp at h⟩
 obtain⟨e3,e4⟩:=e3;subst e3;rw[e1,e2];rcases r with r | r
 ·exact⟨[],false,rfl,rfl,λ_=>rfl,λh=>by cases h⟩
 exact⟨r,true,rfl,rfl,(λh=>by cases h),λ_=>e4 r rfl⟩
def Qo6 (h:QP Jg l)(hc:∀c∈l,IC c)(k:Int):
  (Ux l k=C 0/\∃x,DO l k=C (false,x))\/
  ∃c x s,l[k.toNat]? = C c/\0<=k/\k.toNat<l.length/\x[k.toNat]? = C s/\Qir c s/\Ux l k=C s/\DO l k=C (true,Jd.mk l x k):=by
 obtain⟨x,b,h1,h2,h3,h4⟩:=Qtr h hc;unfold Ux DO;rw[h1,h2,Qa,Qa];cases b with
 | false=>
  rw[h3 rfl];refine .inl ⟨?_,_,rfl⟩;have:((decide (k<0))||(decide ((([]:LI_).length:Int)<=k)))=true:=by simp;omega
  rw[this];rfl
 | true=>
  obtain⟨h5,h6⟩:=h4 rfl;rw[h5];cases hq:((decide (k<0))||(decide ((l.length:Int)<=k)))with
  | true=>exact .inl ⟨rfl,_,rfl⟩
  | false=>
   simp only[JT,QS]at hq;have e1:l[k.toNat]? = C (l[k.toNat]'(by omega)):=Qp (by omega);have O:x[k.toNat]? = C (x[k.toNat]'(by omega)):=Qp (by omega);exact .inr ⟨_,x,_,e1,by omega,by omega,O,h6 _ _ _ e1 O,by rw[Qi,YI (by omega),O];rfl,rfl⟩
def QuT (h:QP Jg l)(hc:∀c∈l,IC c)(k:Int):Ux l k=YK l k:=by
 unfold YK;rcases Qo6 h hc k with⟨O,x,e2⟩|⟨c,x,s,h1,h2,h3,h4,h5,O,e2⟩
 ·rw[O,e2];rfl
 rw[O,e2,Qa];show C s=(idx x k).bind _;rw[YI h2,h4];rfl
def Qri {x:LI_}{k s:Int}(O:0<=k)(hs:x[k.toNat]? = C s)(m:Int):KC (Jd.mk l x k) m=C (decide (0<=m)&&decide (m<s)):=by
 unfold KC Eu VH;by_cases h:0<=m
 ·rw[Qt h,Ql,UD];show((idx x k).bind _).bind _=_;rw[YI O,hs];rfl
 rw[Qz h];rfl
def QuU {x:LI_}{k:Int}{c:QD}(h:0<=k)(O:l[k.toNat]? = C c):JZ (Jd.mk l x k)=C c:=by
 unfold JZ;show(idx l k).bind _=_;rw[YI h,O];rfl
def Qr3 (h:QP Jg l)(hc:∀c∈l,IC c)(k m:Int):∃r,DC l k m=C r/\Oz l k m=C r/\XI r.1:=by
 have z:XI 0:=by unfold XI;omega
 unfold DC Oz QaO QaP Cx Cy;rcases Qo6 h hc k with⟨e1,x,e2⟩|⟨c,x,s,h1,h2,h3,h4,h5,e1,e2⟩
 ·rw[e1,e2,Qa,Qa];refine⟨(0,false),rfl,?_,z⟩;by_cases O:m<0
  ·rw[Qt O];rfl
  rw[Qz O,Qi,Qa,Qt (by omega:0<=m)];rfl
 rw[e1,e2,Qa,Qa];simp only[JD,Qi];rw[Qri h2 h4,Qa,Qa];have e3:(bif decide (m<0)then C true else C (decide (s<=m)):O_ Bool)=C (!(decide (0<=m)&&decide (m<s))):=by
  by_cases O:m<0
  ·rw[Qt O,Qz (by omega:¬0<=m)];rfl
  rw[Qz O,Qt (by omega:0<=m)];by_cases hs:s<=m
  ·rw[Qt hs,Qz (by omega:¬m<s)];rfl
  rw[Qz hs,Qt (by omega:m<s)];rfl
 rw[e3,Qa,YI h2,h1];cases hq:(!(decide (0<=m)&&decide (m<s)))with
 | true=>exact⟨(0,false),rfl,rfl,z⟩
 | false=>
  simp only[Fy,QJ,Qx]at hq;have hb:=h5.b;rw[QuU h2 h1,Qa,Qa,Qi];cases (c.Kind==1)with
  | true=>exact⟨_,rfl,rfl,Qqw _⟩
  | false=>exact⟨_,rfl,rfl,by unfold XI;omega⟩
def QlS {s first n:Int}(hs:s<=1024)(hf:XI first)(hl:first+s-1<=9223372036854775807):Ec s n first=C (bif (decide (0<=n-first)&&decide (n-first<s))then(n-first,true)else(0,false)):=by
 unfold Ec;unfold XI at hf;have hm:(2048:Nat)<=maxLen:=by decide
 obtain⟨r,hr,h1⟩:=JC (body:=λst:Int=>Dx s first n st) s.toNat (λi st=>st=(i:Int)/\∀j:Nat,j<i->first+j≠n) (λr=>r=bif (decide (0<=n-first)&&decide (n-first<s))then .inl (n-first)else .inr ()) (λi st hi h=>by
  obtain⟨rfl,h⟩:=h;show(∃s',Dx s first n i=_/\_)\/∃r,Dx s first n i=_/\_
  unfold Dx;rw[Qt (by omega),Ql,Xh (n:=first+i) (by omega)]
  by_cases e:first+i=n
  ·right;rw[show(first+(i:Int)==n)=true by simpa using e,Ql]
   refine⟨_,rfl,?_⟩;rw[Qt (by omega),Qt (by omega),show n-first=(i:Int) by omega];rfl
  ·left;rw[show(first+(i:Int)==n)=false by simpa using e,Qi]
   refine⟨_,rfl,Xh (by omega),λj hj=>?_⟩;by_cases O:j=i
   ·subst O;exact e
   exact h j (by omega)) (λst h=>by
  obtain⟨rfl,h⟩:=h;show ∃r,Dx s first n (s.toNat:Int)=_/\_
  unfold Dx;rw[Qz (by omega),Qi];refine⟨_,rfl,?_⟩;by_cases c:0<=n-first/\n-first<s
  ·have:=h (n-first).toNat (by omega)
   omega
  have:(decide (0<=n-first)&&decide (n-first<s))=false:=by
   apply Bool.eq_false_iff.2;simp only[ne_eq,QJ,Qx];exact c
  rw[this];rfl) 0 ⟨rfl,λj hj=>by omega⟩
 rw[hr,h1,Qa];cases (decide (0<=n-first)&&decide (n-first<s))<;>rfl
def Qr4 (h:QP Jg l)(hc:∀c∈l,IC c)(k n:Int)(hn:XI n):∃r,DD l k n=C r/\OB l k n=C r:=by
 unfold DD OB QaT QaU;rcases Qo6 h hc k with⟨e1,x,e2⟩|⟨c,x,s,h1,h2,h3,h4,h5,e1,e2⟩
 ·rw[e1,e2,Qa,Qa];refine⟨(0,false),rfl,?_⟩;show Ec 0 n 0=_;rw[QlS (by omega) (by unfold XI;omega) (by omega)];have:(decide (0<=n-0)&&decide (n-0<0))=false:=by
   apply Bool.eq_false_iff.2;simp only[ne_eq,QJ,Qx];omega
  rw[this];rfl
 rw[e1,e2,Qa,Qa];simp only[JD,Qi];have hb:=h5.b;have O:=Xt h1;obtain⟨c1,c2⟩:=hc c O;rw[QuU h2 h1,Qa,Qt (by omega:0<s),Ql,YI h2,h1];simp only[Qa];unfold Kx;by_cases k1:c.Kind=1
 ·rw[show(c.Kind==1)=true by simpa using k1];simp only[Ql];obtain⟨g1,g2⟩:=h5.i k1;unfold XI at c1 c2 hn;rw[QlS hb.2 c1 (by omega)];by_cases q:n<c.Lo\/c.Hi<n
  ·have:((decide (n<c.Lo))||(decide (c.Hi<n)))=true:=by simpa using q
   rw[this,Ql];have:(decide (0<=n-c.Lo)&&decide (n-c.Lo<s))=false:=by
    apply Bool.eq_false_iff.2;simp only[ne_eq,QJ,Qx];omega
   rw[this];exact⟨_,rfl,rfl⟩
  have:((decide (n<c.Lo))||(decide (c.Hi<n)))=false:=by simpa using q
  rw[this,Qi,Xh (by omega),Qri h2 h4,Qa,Qt (by omega:0<=n-c.Lo),Qt (by omega:n-c.Lo<s)];exact⟨_,rfl,rfl⟩
 rw[show(c.Kind==1)=false by simpa using k1];simp only[Qi];rw[QlS hb.2 (by unfold XI;omega) (by omega),Qri h2 h4,Qa,show n-0=n by omega];cases (decide (0<=n)&&decide (n<s))with
 | true=>exact⟨_,rfl,rfl⟩
 | false=>exact⟨_,rfl,rfl⟩
end Go.Proofs
