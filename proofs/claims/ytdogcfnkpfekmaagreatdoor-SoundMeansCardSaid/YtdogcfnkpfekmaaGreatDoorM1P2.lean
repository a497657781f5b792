/- A part of the proof. -/
import Derived.Test.YtdogcfnkpfekmaaGreatDoorM1P1
import Derived.Test.YtdogcfnkpfekmaaGreatDoorM1T2
import Derived.KernelRfl
import Derived.Test.YtdogcfnkpfekmaaGreatDoorM1P1
import Derived.Test.YtdogcfnkpfekmaaGreatDoorM1P1
set_option linter.all false
noncomputable section
namespace Go.Proofs
open Go Go.RowKit Go.Vm
def Ir (m:L_ QBg)(h:m.length<=4294967296)(hb:∀b∈m,b.length<=4294967296):AV m=some m:=by
 unfold AV JA
 rw[GE (by simp;omega)]
 simp only[Qd,Vs]
 obtain⟨r,h1,h2⟩:=(Qg.up (body:=λst=>IK m st.1 st.2) m.length (λst=>st.1) (λst=>st.2=m) (Q:=λq=>q=m) (s0:=(0,m)) rfl rfl (λi st hi hn hJ=>by
  obtain⟨x,l⟩:=st
  replace hi:x=(i:Int):=hi
  replace hJ:l=m:=hJ
  subst hJ
  show Qg (IK l x l) _
  unfold IK
  refine T1 (λhc=>?_) (λ_=>T2 (Qm rfl))
  simp only[QI]at hc
  have D:i<l.length:=by omega
  rw[hi,QT,Qx D,Qd]
  unfold YQ
  rw[GE (by have:=hb _ (XV D);simp;omega)]
  simp only[Qd,Vs]
  exact T2 (QK ⟨D,Qv D (by unfold maxLen;omega),by simp⟩)))
 rw[h1,h2];rfl
def Qnm (n:Qf)(a b:L_ QBg)(c d:Nat)(h:Xn n)(ha:JU n c a)(hb:JU n d b)(hcd:c+d<=1000000):Qg (Em a b) λr=>r.2=0->JU n (c+d) r.1:=by
 have hpl:=h.pl
 have ha1:=ha.1
 have hb1:=hb.1
 have D:min2 (a.length:Int) (b.length:Int)=(n.Places.length:Int):=by unfold min2;split<;>omega
 unfold Em
 rw[D]
 refine T0 (T5 (by simp only[QJ,QI];omega)) λ_ _=>?_
 refine T0 (Qg.up n.Places.length (λst=>st.1) (λst=>st.2.length=n.Places.length/\∀b∈st.2,Rt b/\b.length<=c+d) (Q:=λq:Int⊕L_ QBg=>(∀x,q=.inl x->x≠0)/\∀m,q=.inr m->JU n (c+d) m) rfl ⟨by simp,λb hb=>?_⟩ (λi st hi hn hJ=>?_)) (λq hq=>?_)
 ·have:=QaJ hb
  subst this
  exact⟨Rt.nil,by simp⟩
 ·obtain⟨x,m⟩:=st
  replace hi:x=(i:Int):=hi
  obtain⟨hJ1,hJ2⟩:m.length=n.Places.length/\∀b∈m,Rt b/\b.length<=c+d:=hJ
  show Qg (Um a b x m) _
  unfold Um
  rw[D]
  refine T1 (λhc=>?_) (λhc=>T2 (Qm ⟨λx e=>(by cases e),λm' e=>(by cases e;exact⟨hJ1,hJ2⟩)⟩))
  simp only[QI,QaK]at hc
  refine T0 (T4 (by omega) (by omega)) λu hu=>?_
  refine T0 (T4 (by omega) (by omega)) λv hv=>?_
  have hu2:=ha.2 u hu
  have hv2:=hb.2 v hv
  have key:∃s,JO u v=some s/\(s.2=0->Rt s.1/\s.1.length<=c+d):=by
   rcases RN u v (by omega)with⟨_,e⟩|⟨_,_,_,e⟩|⟨_,_,_,r,e,h1,_,h2⟩
   ·exact⟨_,e,λh=>by cases h⟩
   ·exact⟨_,e,λh=>by cases h⟩
   exact⟨_,e,λ_=>⟨h1,by show r.length<=_;omega⟩⟩
  obtain⟨s,es,hs⟩:=key
  rw[es,Qd]
  refine T0 (T4 (by omega) (by omega)) λ_ _=>?_
  refine T1 (λhc5=>T2 (Qm ⟨λx e=>(by cases e;simpa using hc5),λm' e=>(by cases e)⟩)) λhc5=>?_
  have hs:=hs (by simpa using hc5)
  refine T2 (QK ⟨by omega,by subst hi;exact Qv (by omega) (by unfold maxLen;omega:n.Places.length<=maxLen),by simpa using hJ1,λb hb'=>?_⟩)
  rcases QaD hb' with rfl | hb'
  ·exact hs
  exact hJ2 b hb'
 rcases q with q | q
 ·exact T2 λh=>absurd h (hq.1 q rfl)
 exact T2 λ_=>hq.2 q rfl
def Qmb (n:Qf)(a b:L_ QBg)(c d:Nat)(h:Xn n)(ha:JU n c a)(hb:JU n d b)(hcd:c+d<=1000000):Qg (Gl a b) λr=>r.2=0->JU n (c+d) r.1:=by
 have hpl:=h.pl
 have ha1:=ha.1
 have hb1:=hb.1
 have D:min2 (a.length:Int) (b.length:Int)=(n.Places.length:Int):=by unfold min2;split<;>omega
 unfold Gl
 rw[D]
 refine T0 (T5 (by simp only[QJ,QI];omega)) λ_ _=>?_
 refine T0 (Qg.up n.Places.length (λst=>st.1) (λst=>st.2.length=n.Places.length/\∀b∈st.2,Rt b/\b.length<=c+d) (Q:=λq:Int⊕L_ QBg=>(∀x,q=.inl x->x≠0)/\∀m,q=.inr m->JU n (c+d) m) rfl ⟨by simp,λb hb=>?_⟩ (λi st hi hn hJ=>?_)) (λq hq=>?_)
 ·have:=QaJ hb
  subst this
  exact⟨Rt.nil,by simp⟩
 ·obtain⟨x,m⟩:=st
  replace hi:x=(i:Int):=hi
  obtain⟨hJ1,hJ2⟩:m.length=n.Places.length/\∀b∈m,Rt b/\b.length<=c+d:=hJ
  show Qg (Gd a b x m) _
  unfold Gd
  rw[D]
  refine T1 (λhc=>?_) (λhc=>T2 (Qm ⟨λx e=>(by cases e),λm' e=>(by cases e;exact⟨hJ1,hJ2⟩)⟩))
  simp only[QI,QaK]at hc
  refine T0 (T4 (by omega) (by omega)) λu hu=>?_
  refine T0 (T4 (by omega) (by omega)) λv hv=>?_
  have hu2:=ha.2 u hu
  have hv2:=hb.2 v hv
  have key:∃s,Jw u v=some s/\(s.2=0->Rt s.1/\s.1.length<=c+d):=by
   rcases Iq u v (by omega)with⟨_,e⟩|⟨_,_,_,e⟩|⟨_,_,r,e,h1,_,h2⟩
   ·exact⟨_,e,λh=>by cases h⟩
   ·exact⟨_,e,λh=>by cases h⟩
   exact⟨_,e,λ_=>⟨h1,by show r.length<=_;omega⟩⟩
  obtain⟨s,es,hs⟩:=key
  rw[es,Qd]
  refine T0 (T4 (by omega) (by omega)) λ_ _=>?_
  refine T1 (λhc5=>T2 (Qm ⟨λx e=>(by cases e;simpa using hc5),λm' e=>(by cases e)⟩)) λhc5=>?_
  have hs:=hs (by simpa using hc5)
  refine T2 (QK ⟨by omega,by subst hi;exact Qv (by omega) (by unfold maxLen;omega:n.Places.length<=maxLen),by simpa using hJ1,λb hb'=>?_⟩)
  rcases QaD hb' with rfl | hb'
  ·exact hs
  exact hJ2 b hb'
 rcases q with q | q
 ·exact T2 λh=>absurd h (hq.1 q rfl)
 exact T2 λ_=>hq.2 q rfl
def Qmc (n:Qf)(m:L_ QBg)(o:Qk)(c:Nat)(h:Xn n)(hm:JU n c m)(D:c<=900000)(ho:Wc n o):Qg (Ba n m o) λr=>r.2=0->JU n (c+20) r.1:=by
 unfold Ba
 refine T0 (Qka n m o h (hm.len h (by omega)) ho) λx _=>?_
 refine T1 (λD=>T2 λh=>absurd h (by simpa using D)) λ_=>?_
 refine T0 (Qkb n o h ho) λy hy=>?_
 refine T1 (λD=>T2 λh=>absurd h (by simpa using D)) λhc2=>?_
 exact T0 (Qnm n m y.1 c 20 h hm (hy (by simpa using hc2)).1 (by omega)) λz hz=>T2 hz
def Qo5 (n:Qf)(m:L_ QBg)(o:Qk)(c:Nat)(h:Xn n)(hm:JU n c m)(hc:c<=900000)(ho:Wc n o):Qg (Bc n m o) λr=>r.2=0->JU n (c+20) r.1:=by
 have hpl:=h.pl
 have hm1:=hm.1
 unfold Bc
 refine T0 (Qkc n o h ho) λy hy=>?_
 refine T1 (λhc=>T2 λh=>absurd h (by simpa using hc)) λhc2=>?_
 obtain⟨⟨hy,_⟩,h1,h2⟩:=hy (by simpa using hc2)
 rw[Ir m (by omega) (λb hb=>by have:=(hm.2 b hb).2;omega),Qd]
 refine T0 (T4 h1 h2) λe he=>?_
 have hcl:=(h.tk e he).2.2.2
 refine T0 (Qg.up e.Cancel.length (λst=>st.1) (λst=>JU n c st.2) (Q:=λq=>JU n c q) rfl hm (λi st hi hn hJ=>?_)) (λq hq=>?_)
 ·obtain⟨x,l⟩:=st
  replace hi:x=(i:Int):=hi
  replace hJ:JU n c l:=hJ
  show Qg (BU e x l) _
  unfold BU
  refine T1 (λhc=>?_) (λ_=>T2 (Qm hJ))
  simp only[QI]at hc
  refine T0 (T4 (by omega) (by omega)) λk _=>?_
  have next:∀l,JU n c l->Qg (Gm x l) λo=>(∀s',o=.inl s'->i<e.Cancel.length/\s'.1=((i+1:Nat):Int)/\JU n c s'.2)/\∀r:L_ QBg,o=.inr r->JU n c r:=λl hl=>by
   unfold Gm
   exact T2 (QK (ix:=λst:Int×L_ QBg=>st.1) (J:=λst:Int×L_ QBg=>JU n c st.2) ⟨by omega,by subst hi;exact Qv (by omega) (by unfold maxLen;omega:e.Cancel.length<=maxLen),hl⟩)
  refine T1 (λD=>?_) λ_=>next l hJ
  simp only[QJ,QI]at D
  refine T0 (T4 D.1 D.2) λ_ _=>?_
  refine next _ ⟨by simpa using hJ.1,λb hb=>?_⟩
  rcases QaD hb with rfl | hb
  ·exact⟨Rt.nil,by simp⟩
  exact hJ.2 b hb
 show Qg (BV y q) _
 unfold BV
 exact T0 (Qmb n q y.1 c 20 h hq hy (by omega)) λz hz=>T2 hz
def QkV (n:Qf)(m:L_ QBg)(o:Qk)(c:Nat)(h:Xn n)(hm:JU n c m)(hc:c<=800000)(ho:Wc n o):Qg (XU n m o) λr=>r.2=0->JU n (c+40) r.1:=by
 unfold XU
 refine T0 (Qmc n m o c h hm (by omega) ho) λx hx=>?_
 refine T1 (λhc=>T2 λh=>absurd h (by simpa using hc)) λD=>?_
 exact T0 (Qo5 n x.1 o (c+20) h (hx (by simpa using D)) (by omega) ho) λz hz=>T2 hz
def OP (n:Qf):L_ QBg->L_ Qk->O_ QMk
 | m,[]=>some m
 | m,o::l=>(XU n m o).bind λx=>bif x.2==0 then OP n x.1 l else none
def QkW {n:Qf}{m x:L_ QBg}{o:Qk}{l:L_ Qk}(h:OP n m (o::l)=some x):∃y,XU n m o=some (y,0)/\OP n y l=some x:=by
 rw[OP]at h
 obtain⟨r,D,h⟩:=Qz h
 obtain⟨a,b⟩:=r
 rcases XS h with⟨c,h⟩|⟨_,h⟩
 ·simp only[beq_iff_eq]at c
  subst c
  exact⟨a,D,h⟩
 cases h
def Qo6 {n:Qf}(h:Xn n){l:L_ Qk}{c:Nat}{m x:L_ QBg}(hm:JU n c m)(hc:c<=1000000)(hl:l.length<=4294967296)(e:OP n m l=some x):Ot n m l=some (x,(l.length:Int)):=by
 have hpl:=h.pl
 have hm1:=hm.1
 unfold Ot
 rw[Ir m (by omega) (λb hb=>by have:=(hm.2 b hb).2;omega),Qd]
 obtain⟨r,h1,h2⟩:=Ci (body:=λst=>Aj l n st.1 st.2) l.length (λi s=>s.2=(i:Int)/\OP n s.1 (l.drop i)=some x) (λr=>r=.inr x)
  (λi s hi D=>by
   obtain⟨a,j⟩:=s
   obtain⟨rfl,D⟩:j=(i:Int)/\OP n a (l.drop i)=some x:=D
   rw[Mr hi]at D
   obtain⟨y,g1,g2⟩:=QkW D
   refine .inl ⟨(y,((i+1:Nat):Int)),?_,rfl,g2⟩
   show Aj l n a i=_
   unfold Aj
   rw[Yu (by omega:(i:Int)<l.length),QY,QT,Qx hi,Qd,g1,Qd]
   show some (Sum.inl (y,Qi ((i:Int)+1)))=_
   rw[Qv hi (by unfold maxLen;omega)])
  (λs D=>by
   obtain⟨a,j⟩:=s
   obtain⟨rfl,D⟩:j=(l.length:Int)/\OP n a (l.drop l.length)=some x:=D
   rw[List.drop_length]at D
   cases D
   refine⟨_,?_,rfl⟩
   show Aj l n _ l.length=_
   unfold Aj
   rw[JM (by omega)];rfl) (m,0) ⟨rfl,by rw[List.drop_zero];exact e⟩
 rw[h1,h2];rfl
def QkX (b:QBg)(h:b.length<=maxLen):Yt b b=some true:=by
 unfold Yt
 rw[show((b.length:Int) != (b.length:Int))=false by simp,Xh]
 obtain⟨r,D,h2⟩:=(Qg.up (body:=λst=>YB b b st) b.length (λst=>st) (λ_=>True) (Q:=λq:Unit⊕Unit=>q=.inr ()) (s0:=(0:Int)) rfl trivial (λi st hi hn hJ=>by
  show Qg (YB b b st) _
  unfold YB
  refine T1 (λhc=>?_) (λ_=>T2 (Qm rfl))
  simp only[QI]at hc
  rw[hi,QT,Qx (by omega),Qd,Qd]
  rw[show(!(((b[i]'(by omega)).1==(b[i]'(by omega)).1)&&((b[i]'(by omega)).2==(b[i]'(by omega)).2)))=false by simp,Xh]
  exact T2 (QK ⟨by omega,Qv (by omega) h,trivial⟩)))
 rw[D,h2];rfl
def Qix (b:QBg)(D:Rt b)(h:b.length<=maxLen):OK b b=some true:=by
 unfold OK RM
 rw[Cn b h,DH.2 D]
 simp only[Qd,QY]
 rw[QkX b h];rfl
def QhC {n:Qf}(h:Xn n){c:Nat}{m:L_ QBg}(hm:JU n c m)(hc:c<=1000000):Ud m m=some true:=by
 have hpl:=h.pl
 have hm1:=hm.1
 unfold Ud XH
 rw[show((m.length:Int) != (m.length:Int))=false by simp,Xh]
 obtain⟨r,h1,h2⟩:=(Qg.up (body:=λst=>Xg m m st) m.length (λst=>st) (λ_=>True) (Q:=λq:Unit⊕Unit=>q=.inr ()) (s0:=(0:Int)) rfl trivial (λi st hi hn hJ=>by
  show Qg (Xg m m st) _
  unfold Xg
  refine T1 (λhc=>?_) (λ_=>T2 (Qm rfl))
  simp only[QI]at hc
  have D:i<m.length:=by omega
  have hb:=hm.2 _ (XV D)
  rw[hi,QT,Qx D,Qd,Qd,Qix _ hb.1 (by unfold maxLen;omega),Qd]
  exact T2 (QK ⟨D,Qv D (by unfold maxLen;omega),trivial⟩)))
 rw[h1,h2];rfl
abbrev Bag := QBg
def QkY (h:Bag->Bag->O_ (Bag×Int))(a b r:L_ Bag):Prop:=∀(j:Nat) x y,a[j]? = some x->b[j]? = some y->∃z,r[j]? = some z/\h x y=some (z,0)
def Can (h:Bag->Bag->O_ (Bag×Int))(a b:L_ Bag):Prop:=∀(j:Nat) x y,a[j]? = some x->b[j]? = some y->∃z,h x y=some (z,0)
def Nq {α:Type}{l:L_ α}{i:Nat}(h:i<l.length):l[i]? = some l[i]:=Qx h
def Qo7 {a b r:Bag}(h:a.length+b.length<=4294967296)(e:Jw a b=some (r,0)):Rt a/\Rt b/\Rt r/\∀k,Xc r k=Xc a k+Xc b k:=by
 rcases Iq a b h with⟨_,e'⟩|⟨_,_,_,e'⟩|⟨D,h2,r',e',h3,h4,_⟩
 ·rw[e]at e';cases e'
 ·rw[e]at e';cases e'
 rw[e]at e';cases e';exact⟨D,h2,h3,h4⟩
def Qoj {a b r:Bag}(h:a.length+b.length<=4294967296)(e:JO a b=some (r,0)):Rt a/\Rt b/\Rt r/\(∀k,Xc b k<=Xc a k)/\∀k,Xc r k=Xc a k-Xc b k:=by
 rcases RN a b h with⟨_,e'⟩|⟨_,_,_,e'⟩|⟨D,h2,h5,r',e',h3,h4,_⟩
 ·rw[e]at e';cases e'
 ·rw[e]at e';cases e'
 rw[e]at e';cases e';exact⟨D,h2,h3,h5,h4⟩
def QiJ {n:Qf}{c:Nat}{m:L_ Bag}(h:JU n c m){j:Nat}(D:j<n.Places.length):∃b,m[j]? = some b/\Rt b/\b.length<=c:=by
 have:j<m.length:=by have:=h.1;omega
 exact⟨m[j],Nq this,h.2 _ (XV this)⟩
def QjU (n:Qf)(a b:L_ Bag)(c d:Nat)(h:Xn n)(ha:JU n c a)(hb:JU n d b)(hcd:c+d<=1000000):Qg (Em a b) λr=>(r.2=0->r.1.length=n.Places.length/\QkY JO a b r.1)/\(Can JO a b->r.2=0):=by
 have hpl:=h.pl
 have ha1:=ha.1
 have hb1:=hb.1
 have hmin:min2 (a.length:Int) (b.length:Int)=(n.Places.length:Int):=by unfold min2;split<;>omega
 unfold Em
 rw[hmin]
 refine T0 (T5 (by simp only[QJ,QI];omega)) λ_ _=>?_
 refine T0 (Qg.up n.Places.length (λst=>st.1) (λst=>st.2.length=n.Places.length/\∀(j:Nat) x y,(j:Int)<st.1->a[j]? = some x->b[j]? = some y->∃z,st.2[j]? = some z/\JO x y=some (z,0)) (Q:=λq:Int⊕L_ Bag=>(∀x,q=.inl x->x≠0/\¬Can JO a b)/\∀m,q=.inr m->m.length=n.Places.length/\QkY JO a b m) rfl ⟨by simp,λj x y hj=>by omega⟩ (λi st hi hn hJ=>?_)) (λq hq=>?_)
 ·obtain⟨x,m⟩:=st
  replace hi:x=(i:Int):=hi
  obtain⟨hJ1,hJ2⟩:m.length=n.Places.length/\∀(j:Nat) u v,(j:Int)<x->a[j]? = some u->b[j]? = some v->∃z,m[j]? = some z/\JO u v=some (z,0):=hJ
  show Qg (Um a b x m) _
  unfold Um
  rw[hmin]
  refine T1 (λhc=>?_) (λhc=>T2 (Qm ⟨λx e=>(by cases e),λm' e=>(by cases e;exact⟨hJ1,λj u v hu hv=>hJ2 j u v (by
   simp only[Xm,QaK]at hc
   have:=(Xa.1 hu).1
   omega) hu hv⟩)⟩))
  simp only[QI,QaK]at hc
  have i1:i<a.length:=by omega
  have i2:i<b.length:=by omega
  rw[hi,QT,Nq i1,Qd,QT,Nq i2,Qd]
  have hu2:=ha.2 _ (XV i1)
  have hv2:=hb.2 _ (XV i2)
  have key:∃s,JO a[i] b[i]=some s:=by
   rcases RN a[i] b[i] (by omega)with⟨_,e⟩|⟨_,_,_,e⟩|⟨_,_,_,r,e,h1,_,h2⟩
   ·exact⟨_,e⟩
   ·exact⟨_,e⟩
   exact⟨_,e⟩
  obtain⟨s,es⟩:=key
  rw[es,Qd]
  refine T0 (T4 (by omega) (by omega)) λ_ _=>?_
  refine T1 (λD=>T2 (Qm ⟨λx e=>(by cases e;exact⟨by simpa using D,λhcan=>by
   obtain⟨z,hz⟩:=hcan i _ _ (Nq i1) (Nq i2)
   rw[es]at hz
   cases hz
   simp at D⟩),λm' e=>(by cases e)⟩)) λD=>?_
  simp only[KI]at D
  refine T2 (QK ⟨by omega,Qv (by omega) (by unfold maxLen;omega:n.Places.length<=maxLen),by simpa using hJ1,λj u v hj hu hv=>?_⟩)
  have hj:(j:Int)<Qi ((i:Int)+1):=hj
  rw[Qv (show i<n.Places.length by omega) (by unfold maxLen;omega)]at hj
  show ∃z,(m.set (i:Int).toNat s.1)[j]? = some z/\_
  by_cases cj:j=i
  ·subst cj
   rw[Nq i1]at hu;rw[Nq i2]at hv
   cases hu;cases hv
   refine⟨s.1,by rw[show((j:Int)).toNat=j from XP j];exact PG (by omega),?_⟩
   rw[es,<-D]
  obtain⟨z,h1,h2⟩:=hJ2 j u v (by omega) hu hv
  exact⟨z,by rw[Ix (by simp;omega)];exact h1,h2⟩
 rcases q with q | q
 ·have:=hq.1 q rfl
  exact T2 ⟨λh=>absurd h this.1,λh=>absurd h this.2⟩
 exact T2 ⟨λ_=>hq.2 q rfl,λ_=>rfl⟩
def Qjs (n:Qf)(a b:L_ Bag)(c d:Nat)(h:Xn n)(ha:JU n c a)(hb:JU n d b)(hcd:c+d<=1000000):Qg (Gl a b) λr=>(r.2=0->r.1.length=n.Places.length/\QkY Jw a b r.1)/\(Can Jw a b->r.2=0):=by
 have hpl:=h.pl
 have ha1:=ha.1
 have hb1:=hb.1
 have hmin:min2 (a.length:Int) (b.length:Int)=(n.Places.length:Int):=by unfold min2;split<;>omega
 unfold Gl
 rw[hmin]
 refine T0 (T5 (by simp only[QJ,QI];omega)) λ_ _=>?_
 refine T0 (Qg.up n.Places.length (λst=>st.1) (λst=>st.2.length=n.Places.length/\∀(j:Nat) x y,(j:Int)<st.1->a[j]? = some x->b[j]? = some y->∃z,st.2[j]? = some z/\Jw x y=some (z,0)) (Q:=λq:Int⊕L_ Bag=>(∀x,q=.inl x->x≠0/\¬Can Jw a b)/\∀m,q=.inr m->m.length=n.Places.length/\QkY Jw a b m) rfl ⟨by simp,λj x y hj=>by omega⟩ (λi st hi hn hJ=>?_)) (λq hq=>?_)
 ·obtain⟨x,m⟩:=st
  replace hi:x=(i:Int):=hi
  obtain⟨hJ1,hJ2⟩:m.length=n.Places.length/\∀(j:Nat) u v,(j:Int)<x->a[j]? = some u->b[j]? = some v->∃z,m[j]? = some z/\Jw u v=some (z,0):=hJ
  show Qg (Gd a b x m) _
  unfold Gd
  rw[hmin]
  refine T1 (λhc=>?_) (λhc=>T2 (Qm ⟨λx e=>(by cases e),λm' e=>(by cases e;exact⟨hJ1,λj u v hu hv=>hJ2 j u v (by
   simp only[Xm,QaK]at hc
   have:=(Xa.1 hu).1
   omega) hu hv⟩)⟩))
  simp only[QI,QaK]at hc
  have i1:i<a.length:=by omega
  have i2:i<b.length:=by omega
  rw[hi,QT,Nq i1,Qd,QT,Nq i2,Qd]
  have hu2:=ha.2 _ (XV i1)
  have hv2:=hb.2 _ (XV i2)
  have key:∃s,Jw a[i] b[i]=some s:=by
   rcases Iq a[i] b[i] (by omega)with⟨_,e⟩|⟨_,_,_,e⟩|⟨_,_,r,e,h1,_,h2⟩
   ·exact⟨_,e⟩
   ·exact⟨_,e⟩
   exact⟨_,e⟩
  obtain⟨s,es⟩:=key
  rw[es,Qd]
  refine T0 (T4 (by omega) (by omega)) λ_ _=>?_
  refine T1 (λD=>T2 (Qm ⟨λx e=>(by cases e;exact⟨by simpa using D,λhcan=>by
   obtain⟨z,hz⟩:=hcan i _ _ (Nq i1) (Nq i2)
   rw[es]at hz
   cases hz
   simp at D⟩),λm' e=>(by cases e)⟩)) λD=>?_
  simp only[KI]at D
  refine T2 (QK ⟨by omega,Qv (by omega) (by unfold maxLen;omega:n.Places.length<=maxLen),by simpa using hJ1,λj u v hj hu hv=>?_⟩)
  have hj:(j:Int)<Qi ((i:Int)+1):=hj
  rw[Qv (show i<n.Places.length by omega) (by unfold maxLen;omega)]at hj
  show ∃z,(m.set (i:Int).toNat s.1)[j]? = some z/\_
  by_cases cj:j=i
  ·subst cj
   rw[Nq i1]at hu;rw[Nq i2]at hv
   cases hu;cases hv
   refine⟨s.1,by rw[show((j:Int)).toNat=j from XP j];exact PG (by omega),?_⟩
   rw[es,<-D]
  obtain⟨z,h1,h2⟩:=hJ2 j u v (by omega) hu hv
  exact⟨z,by rw[Ix (by simp;omega)];exact h1,h2⟩
 rcases q with q | q
 ·have:=hq.1 q rfl
  exact T2 ⟨λh=>absurd h this.1,λh=>absurd h this.2⟩
 exact T2 ⟨λ_=>hq.2 q rfl,λ_=>rfl⟩
def QgK {n:Qf}{m t:L_ Bag}{o:Qk}(h:Ba n m o=some (t,0)):KS n m o=some 0/\∃D,BT n o=some (D,0)/\Em m D=some (t,0):=by
 unfold Ba at h
 obtain⟨x,hx,h⟩:=Qz h
 rcases XS h with⟨c,h⟩|⟨c,h⟩
 ·simp only[Option.some.injEq,Prod.mk.injEq]at h
  rw[h.2]at c;cases c
 simp only[KI]at c
 subst c
 obtain⟨y,hy,h⟩:=Qz h
 obtain⟨y1,y2⟩:=y
 rcases XS h with⟨c,h⟩|⟨c,h⟩
 ·simp only[Option.some.injEq,Prod.mk.injEq]at h
  simp only[h.2]at c;cases c
 simp only[KI]at c
 subst c
 obtain⟨z,hz,h⟩:=Qz h
 obtain⟨z1,z2⟩:=z
 simp only[Option.some.injEq,Prod.mk.injEq]at h
 obtain⟨rfl,rfl⟩:=h
 exact⟨hx,y1,hy,hz⟩
def Qjt {n:Qf}{m x:L_ Bag}{o:Qk}(h:XU n m o=some (x,0)):∃t,Ba n m o=some (t,0)/\Bc n t o=some (x,0):=by
 unfold XU at h
 obtain⟨y,D,h⟩:=Qz h
 obtain⟨y1,y2⟩:=y
 rcases XS h with⟨c,h⟩|⟨c,h⟩
 ·simp only[Option.some.injEq,Prod.mk.injEq]at h
  simp only[h.2]at c;cases c
 simp only[KI]at c
 subst c
 obtain⟨z,hz,h⟩:=Qz h
 obtain⟨z1,z2⟩:=z
 simp only[Option.some.injEq,Prod.mk.injEq]at h
 obtain⟨rfl,rfl⟩:=h
 exact⟨y1,D,hz⟩
def RO : Bag->Int
 | []=>0
 | p::l=>p.2+RO l
def Qmd {l m:Bag}(h:l.Perm m):RO l=RO m:=by
 induction h with
 | nil=>rfl
 | cons p _ ih=>simp only[RO,ih]
 | swap p q l=>simp only[RO];omega
 | trans _ _ D ih2=>rw[D,ih2]
def Qju (b:Bag)(hr:Rt b)(h:b.length<=maxLen):Ua b=some (Qi (RO b)):=by
 unfold Ua
 rw[Zh b h,DH.2 hr]
 show BL b=_
 unfold BL
 have D:∀(l:Bag) (s:Int),Jv (λst (p:Int×Int)=>Kh st p.1 p.2) (Qi s) l=some (.inl (Qi (s+RO l))):=by
  intro l
  induction l with
  | nil=>intro s;simp[Jv,RO]
  | cons p l ih=>
   intro s
   simp only[Jv]
   rw[show Kh (Qi s) p.1 p.2=some (.inl (Qi (s+p.2)))from by unfold Kh;rw[QdB]]
   simp only[Qd,Sum.elim_inl]
   rw[ih,RO,Int.add_assoc]
 have h0:Fk (λst (p:Int×Int)=>Kh st p.1 p.2) (0:Int) b=some (.inl (Qi (RO b))):=by
  have e0:(0:Int)=Qi 0:=by decide
  rw[e0]
  refine CD.2 ⟨λl' hp=>?_,by rw[D];simp⟩
  rw[D,D,Qmd hp]
 rw[h0];rfl
def tS (m:L_ Bag):Nat->Int
 | 0=>0
 | i+1=>tS m i+RO (m.getD i [])
def QbP {n:Qf}{c:Nat}{m:L_ Bag}(h:Xn n)(hm:JU n c m)(hc:c<=1000000):HT m=some (Qi (tS m m.length)):=by
 have hpl:=h.pl
 have hm1:=hm.1
 unfold HT
 obtain⟨r,h1,h2⟩:=(Qg.up (body:=λst=>Hh m st.1 st.2) m.length (λst=>st.2) (λst=>st.1=Qi (tS m st.2.toNat)) (Q:=λq=>q=Qi (tS m m.length)) (s0:=((0:Int),(0:Int))) rfl (by show(0:Int)=Qi 0;decide) (λi st hi hn hJ=>by
  obtain⟨a,x⟩:=st
  replace hi:x=(i:Int):=hi
  replace hJ:a=Qi (tS m x.toNat):=hJ
  subst hi
  show Qg (Hh m a i) _
  unfold Hh
  refine T1 (λhc=>?_) (λhc=>T2 (Qm ?_))
  ·simp only[QI]at hc
   have D:i<m.length:=by omega
   have hb:=hm.2 _ (XV D)
   rw[QT,Nq D,Qd,Qju _ hb.1 (by have:=hb.2;unfold maxLen;omega),Qd]
   have hw:Qi ((i:Int)+1)=((i+1:Nat):Int):=Qv D (by unfold maxLen;omega)
   refine T2 (QK ⟨D,hw,?_⟩)
   show Qi (a+Qi (RO m[i]))=Qi (tS m (Qi ((i:Int)+1)).toNat)
   rw[hw,hJ,QdB,Int.add_comm,QdB,XP,XP,tS,Qpq,Nq D,Int.add_comm];rfl
  simp only[Xm]at hc
  rw[hJ,show(i:Int).toNat=m.length by omega]))
 rw[h1,h2];rfl
def Qnn (n:Qf)(m:L_ Bag)(o:Qk)(c:Nat)(h:Xn n)(hm:JU n c m)(hl:HE n m)(hc:c<=900000)(ho:Wc n o):Qg (Bc n m o) λr=>r.2=0->HE n r.1:=by
 have hpl:=h.pl
 have hm1:=hm.1
 unfold Bc
 refine T0 (Qkc n o h ho) λy hy=>?_
 refine T1 (λhc=>T2 λh=>absurd h (by simpa using hc)) λhc2=>?_
 obtain⟨⟨hy,hyl⟩,h1,h2⟩:=hy (by simpa using hc2)
 rw[Ir m (by omega) (λb D=>by have:=(hm.2 b D).2;omega),Qd]
 refine T0 (T4 h1 h2) λe he=>?_
 have hcl:=(h.tk e he).2.2.2
 refine T0 (Qg.up e.Cancel.length (λst=>st.1) (λst=>JU n c st.2/\HE n st.2) (Q:=λq=>JU n c q/\HE n q) rfl ⟨hm,hl⟩ (λi st hi hn hJ=>?_)) (λq hq=>?_)
 ·obtain⟨x,l⟩:=st
  replace hi:x=(i:Int):=hi
  replace hJ:JU n c l/\HE n l:=hJ
  show Qg (BU e x l) _
  unfold BU
  refine T1 (λhc=>?_) (λ_=>T2 (Qm hJ))
  simp only[QI]at hc
  refine T0 (T4 (by omega) (by omega)) λk _=>?_
  have next:∀l,JU n c l/\HE n l->Qg (Gm x l) λo=>(∀s',o=.inl s'->i<e.Cancel.length/\s'.1=((i+1:Nat):Int)/\JU n c s'.2/\HE n s'.2)/\∀r:L_ QBg,o=.inr r->JU n c r/\HE n r:=λl hl=>by
   unfold Gm
   exact T2 (QK (ix:=λst:Int×L_ QBg=>st.1) (J:=λst:Int×L_ QBg=>JU n c st.2/\HE n st.2) ⟨by omega,by subst hi;exact Qv (by omega) (by unfold maxLen;omega:e.Cancel.length<=maxLen),hl⟩)
  refine T1 (λhc3=>?_) λ_=>next l hJ
  simp only[QJ,QI]at hc3
  refine T0 (T4 hc3.1 hc3.2) λ_ _=>?_
  refine next _ ⟨⟨by simpa using hJ.1.1,λb D=>?_⟩,λj b p D hp k' hk=>?_⟩
  ·rcases QaD D with rfl | D
   ·exact⟨Rt.nil,by simp⟩
   exact hJ.1.2 b D
  by_cases cj:k.toNat=j
  ·subst cj
   rw[PG (by omega)]at D
   cases D
   simp[Xc,Qs]at hk
  rw[Ix cj]at D
  exact hJ.2 j b p D hp k' hk
 show Qg (BV y q) _
 unfold BV
 refine T0 (Qjs n q y.1 c 20 h hq.1 hy (by omega)) λz hz=>T2 λhz0=>?_
 obtain⟨zl,ze⟩:=hz.1 hz0
 intro j b p D hp k hk
 have hj:j<n.Places.length:=(Xa.1 hp).1
 obtain⟨u,hu,hu1,hu2⟩:=QiJ hq.1 hj
 obtain⟨v,hv,hv1,hv2⟩:=QiJ hy hj
 obtain⟨s,hs1,hs2⟩:=ze j u v hu hv
 have hs1:z.1[j]? = some s:=hs1
 have D:z.1[j]? = some b:=D
 rw[D]at hs1;cases hs1
 have q:=(Qo7 (by omega) hs2).2.2.2 k
 by_cases c0:0<Xc u k
 ·exact hq.2 j u p hu hp k c0
 exact hyl j v p hv hp k (by omega)
def Qok {n:Qf}{m x:L_ Bag}{o:Qk}(h:Xn n)(hD:XU n m o=some (x,0)):∃e,idx n.Tasks o.Task=some e/\e∈n.Tasks:=by
 obtain⟨t,hT,_⟩:=Qjt hD
 obtain⟨_,need,D,_⟩:=QgK hT
 unfold BT at D
 obtain⟨v,hv,D⟩:=Qz D
 obtain⟨v1,v2⟩:=v
 rcases XS D with⟨c,D⟩|⟨c,D⟩
 ·simp only[Option.some.injEq,Prod.mk.injEq]at D
  simp only[D.2]at c;cases c
 simp only[KI]at c
 have:=Al (QiI n o.Task o.Vars h) hv c
 obtain⟨e,he,hm⟩:=T4 this.1 this.2
 exact⟨e,he,hm⟩
def Yq (n:Qf)(t:QH):LI_:=t.Vars.map λv=>(YS n.Colours v.Colour).getD 0
def FE (b:Xo)(r:LI_):Bool:=decide (Yo b r=some 0)
def Ev (n:Qf)(m:L_ QBg)(h:Int)(D outs:L_ LI_)(p:LI_):L_ Qk:=match JE n m h p with
 | some (c,b)=>if c=0/\XO b=some 0 then D.flatMap λe=>if XK b e=some 0 then(outs.filter (FE b)).map λo=>Qk.mk h p e o else []else []
 | none=>[]
def ne0 (g:Int):(g != 0)=!decide (some g=some (0:Int)):=by by_cases h:g=0<;>simp[h]
def Qme (t:QH)(n:Qf)(l:LI_)(h:Xr n)(hl:l.length=t.Vars.length)(hv:t.Vars.length<=16)(hd:∀d∈l,0<=d/\d<=1024):
  Qg (QE (λst=>DD t n st.1 st.2) ((Qi ((l.length:Int)-1)),l)) λq=>(-1<=q.1/\q.1<l.length/\q.2=l.take (q.1+1).toNat++List.replicate (l.length-(q.1+1).toNat) 0)/\(∀(j:Nat) x s,q.1<(j:Int)->l[j]? = some x->(Yq n t)[j]? = some s->¬x+1<s)/\∀x s,0<=q.1->l[q.1.toNat]? = some x->(Yq n t)[q.1.toNat]? = some s->x+1<s/\x<1024:=by
 have hw:Qi ((l.length:Int)-1)=(l.length:Int)-1:=Yf (by omega)
 refine Qg.up l.length (λst=>(l.length:Int)-1-st.1) (λst=>st.2=l.take (st.1+1).toNat++List.replicate (l.length-(st.1+1).toNat) 0/\∀(j:Nat) x s,st.1<(j:Int)->l[j]? = some x->(Yq n t)[j]? = some s->¬x+1<s) (by rw[hw];omega) ⟨by
  rw[hw]
  show l=_
  rw[show((l.length:Int)-1+1).toNat=l.length by omega,Hc,Nat.sub_self];simp,λj x s hj hx=>by
  replace hj:Qi ((l.length:Int)-1)<(j:Int):=hj
  have:=(Xa.1 hx).1
  omega⟩ (λi st hi hn hJ=>?_)
 obtain⟨a,d⟩:=st
 replace hi:(l.length:Int)-1-a=i:=hi
 obtain⟨hJ,hJ2⟩:d=l.take (a+1).toNat++List.replicate (l.length-(a+1).toNat) 0/\∀(j:Nat) x s,a<(j:Int)->l[j]? = some x->(Yq n t)[j]? = some s->¬x+1<s:=hJ
 have hdl:d.length=l.length:=by rw[hJ];simp;omega
 show Qg (DD t n a d) _
 unfold DD
 refine T0 (P:=λx=>(x=true->0<=a/\∀e s,l[a.toNat]? = some e->(Yq n t)[a.toNat]? = some s->¬e+1<s)/\(x=false->∀e s,0<=a->l[a.toNat]? = some e->(Yq n t)[a.toNat]? = some s->e+1<s/\e<1024)) ?_ λx hx=>?_
 ·unfold Oe
  refine T1 (λD=>?_) λD=>T2 ⟨λh=>(by cases h),λ_ e s he=>?_⟩
  ·simp only[QI]at D
   have hlt:a.toNat<l.length:=by omega
   have hlv:a.toNat<t.Vars.length:=by omega
   have ed:idx d a=some l[a.toNat]:=by
    rw[Gq D,hJ,Jx (by simp;omega),KD,if_pos (by omega),Qx hlt]
   have ev:idx t.Vars a=some t.Vars[a.toNat]:=by rw[Gq D,Qx hlv]
   rw[ed,Qd,ev,Qd]
   refine T0 (Wz _ _ h.1).self λz hz=>?_
   obtain⟨hze,hz⟩:=hz
   have hsz:(Yq n t)[a.toNat]? = some z:=by
    unfold Yq
    rw[XY,Qx hlv,JD,hze];rfl
   have h2:=hd _ (XV hlt)
   rw[Yf (by omega)]
   refine T2 ⟨λht=>⟨D,λe s he hs=>?_⟩,λhf e s _ he hs=>?_⟩
   ·rw[Qx hlt]at he
    cases he
    rw[hsz]at hs;cases hs
    simp only[QI]at ht
    omega
   rw[Qx hlt]at he
   cases he
   rw[hsz]at hs;cases hs
   simp only[Xm]at hf
   omega
  simp only[Xm]at D;omega
 unfold EI
 refine T1 (λD=>?_) λD=>?_
 ·obtain⟨ha,ha2⟩:=hx.1 D
  refine T0 (T4 ha (by omega)) λ_ _=>?_
  have hw2:Qi (a-1)=a-1:=Yf (by omega)
  refine T2 (QK ⟨by omega,?_,?_,λj x s hj hx hs=>?_⟩)
  ·show(l.length:Int)-1-Qi (a-1)=_
   rw[hw2];omega
  ·show d.set a.toNat 0=l.take (Qi (a-1)+1).toNat++List.replicate (l.length-(Qi (a-1)+1).toNat) 0
   rw[hw2,hJ,show(a+1).toNat=a.toNat+1 by omega,Qjr (by omega),show(a-1+1).toNat=a.toNat by omega]
   rw[show l.length-a.toNat=(l.length-(a.toNat+1))+1 by omega,List.replicate_succ]
  replace hj:Qi (a-1)<(j:Int):=hj
  rw[hw2]at hj
  by_cases c:a<(j:Int)
  ·exact hJ2 j x s c hx hs
  have:a.toNat=j:=by omega
  subst this
  exact ha2 x s hx hs
 exact T2 (Qm ⟨⟨by omega,by omega,hJ⟩,hJ2,hx.2 D⟩)
def QjV (n:Qf)(m:L_ QBg)(b:Xo)(l:L_ LI_)(h:Xn n)(hb:BOk n m b)(hl:OO l):Qg (KE l b) λr=>(r=-1/\∀row∈l,FE b row=true)\/∃i:Nat,r=(i:Int)/\i<l.length/\(∀row∈l.take i,FE b row=true)/\∀row,l[i]? = some row->FE b row=false:=by
 have hl1:=hl.1
 unfold KE
 refine T0 (Qg.up l.length (λst=>st) (λst=>∀row∈l.take st.toNat,FE b row=true) (Q:=λq:Int⊕Unit=>(∀x,q=.inl x->∃i:Nat,x=(i:Int)/\i<l.length/\(∀row∈l.take i,FE b row=true)/\∀row,l[i]? = some row->FE b row=false)/\(q=.inr ()->∀row∈l,FE b row=true)) rfl (λrow h=>by cases h) (λi st hi hn hJ=>?_)) (λq hq=>?_)
 ·replace hi:st=(i:Int):=hi
  subst hi
  replace hJ:∀row∈l.take (i:Int).toNat,FE b row=true:=hJ
  rw[XP]at hJ
  show Qg (WP l b i) _
  unfold WP BR
  refine T1 (λhc=>?_) (λhc=>T2 (Qm ⟨λx h=>(by cases h),λ_=>?_⟩))
  ·simp only[QI]at hc
   have D:i<l.length:=by omega
   rw[QT,Qx D,Qd]
   have:=hl.2 _ (XV D)
   refine T0 (P:=λc:Bool=>c=!FE b l[i]) ?_ λc hcc=>?_
   ·refine T0 (QhB n m b l[i] h hb (by omega)).self λg hg=>T2 ?_
    unfold FE
    rw[hg.1];exact ne0 g
   subst hcc
   refine T1 (λhc2=>T2 (Qm ⟨λx e=>(by cases e;exact⟨i,rfl,D,hJ,λrow hr=>by rw[Qx D]at hr;cases hr;simpa using hc2⟩),λe=>by cases e⟩)) λhc2=>?_
   have hw:Qi ((i:Int)+1)=((i+1:Nat):Int):=Qv D (by unfold maxLen;omega:l.length<=maxLen)
   refine T2 (QK ⟨D,hw,?_⟩)
   show ∀row∈l.take (Qi ((i:Int)+1)).toNat,FE b row=true
   rw[hw,XP,DV,Qx D]
   intro row hr
   rcases YI.1 hr with hr | hr
   ·exact hJ row hr
   simp at hr;subst hr;simpa using hc2
  simp only[Xm]at hc
  rwa[Kl (by omega)]at hJ
 rcases q with q | q
 ·exact T2 (.inr (hq.1 q rfl))
 exact T2 (.inl ⟨rfl,hq.2 rfl⟩)
def QjW (n:Qf)(m:L_ QBg)(b:Xo)(l:L_ LI_)(h:Xn n)(hb:BOk n m b)(hl:OO l):Qg (Kq l b) λr=>r=l.filter (FE b):=by
 have hl1:=hl.1
 unfold Kq
 refine T0 (QjV n m b l h hb hl) λx hx=>?_
 rcases hx with⟨rfl,hx⟩|⟨D,rfl,hi0,hx1,hx2⟩
 ·exact T1 (λ_=>T2 (List.filter_eq_self.2 hx).symm) λhc=>by simp at hc
 refine T1 (λhc=>by simp at hc) λ_=>?_
 have hw:Qi ((D:Int)+1)=(D:Int)+1:=Yf (by omega)
 have hbad:=hx2 _ (Qx hi0)
 refine T0 (Qg.up (l.length-(D+1)) (λst=>st.2.1-((D:Int)+1)) (λst=>0<=st.1/\st.1<st.2.1/\st.2.2.length=l.length/\st.2.2.take st.1.toNat=(l.take st.2.1.toNat).filter (FE b)/\st.2.2.drop st.2.1.toNat=l.drop st.2.1.toNat) (Q:=λq:Int×L_ LI_=>0<=q.1/\q.1<=(l.length:Int)/\q.2.length=l.length/\q.2.take q.1.toNat=l.filter (FE b)) (by show Qi ((D:Int)+1)-((D:Int)+1)=0;omega) ⟨by show(0:Int)<=D;omega,by show(D:Int)<Qi ((D:Int)+1);omega,rfl,?_,rfl⟩ (λi st hi hn hJ=>?_)) (λq hq=>?_)
 ·show l.take (D:Int).toNat=(l.take (Qi ((D:Int)+1)).toNat).filter (FE b)
  rw[hw,XP,show((D:Int)+1).toNat=D+1 by omega,DV,Qx hi0,NF,List.filter_eq_self.2 hx1]
  show l.take D=l.take D++List.filter (FE b) [l[D]]
  rw[Am,hbad]
  exact(Vr _).symm
 ·obtain⟨a,j,l2⟩:=st
  replace hi:j-((D:Int)+1)=i:=hi
  obtain⟨j1,j2,j3,j4,j5⟩:0<=a/\a<j/\l2.length=l.length/\l2.take a.toNat=(l.take j.toNat).filter (FE b)/\l2.drop j.toNat=l.drop j.toNat:=hJ
  show Qg (JH b a j l2) _
  unfold JH BR
  refine T1 (λhc=>?_) (λhc=>T2 (Qm ⟨j1,?_,j3,?_⟩))
  ·simp only[QI]at hc
   have hj:j.toNat<l2.length:=by omega
   have hj':j.toNat<l.length:=by omega
   have ej:l2[j.toNat]=l[j.toNat]:=by
    have:=congrArg List.head? j5
    rw[Mr hj,Mr hj']at this
    exact Option.some.inj this
   have ej5:l2.drop (j.toNat+1)=l.drop (j.toNat+1):=by
    have:=congrArg List.tail j5
    simpa using this
   rw[Qc1 (by omega) (by omega),Qd]
   have:=hl.2 _ (XV hj')
   have hw2:Qi (j+1)=j+1:=Yf (by omega)
   have hw3:Qi (a+1)=a+1:=Yf (by omega)
   have tk:l.take (j+1).toNat=l.take j.toNat++[l[j.toNat]]:=by
    rw[show(j+1).toNat=j.toNat+1 by omega,DV,Qx hj'];rfl
   refine T0 (P:=λc:Bool=>c=!FE b l[j.toNat]) ?_ λc hcc=>?_
   ·rw[ej]
    refine T0 (QhB n m b l[j.toNat] h hb (by omega)).self λg hg=>T2 ?_
    unfold FE
    rw[hg.1];exact ne0 g
   subst hcc
   refine T1 (λhc2=>?_) λhc2=>?_
   ·have hc2:FE b l[j.toNat]=true:=by simpa using hc2
    refine T0 (T4 (by omega) (by omega)) λ_ _=>?_
    refine T2 (QK ⟨by omega,by show Qi (j+1)-((D:Int)+1)=_;omega,by show 0<=Qi (a+1);omega,by show Qi (a+1)<Qi (j+1);omega,by simpa using j3,?_,?_⟩)
    ·show(l2.set a.toNat l2[j.toNat]).take (Qi (a+1)).toNat=(l.take (Qi (j+1)).toNat).filter (FE b)
     rw[hw2,hw3,tk,NF,<-j4,show(a+1).toNat=a.toNat+1 by omega,DV,PG (by omega),List.take_set_of_le (Jp _),ej]
     simp[hc2]
    show(l2.set a.toNat l2[j.toNat]).drop (Qi (j+1)).toNat=l.drop (Qi (j+1)).toNat
    rw[hw2,show(j+1).toNat=j.toNat+1 by omega,List.drop_set_of_lt (by omega),ej5]
   have hc2:FE b l[j.toNat]=false:=by simpa using hc2
   refine T2 (QK ⟨by omega,by show Qi (j+1)-((D:Int)+1)=_;omega,j1,by show a<Qi (j+1);omega,j3,?_,?_⟩)
   ·show l2.take a.toNat=(l.take (Qi (j+1)).toNat).filter (FE b)
    rw[hw2,tk,NF,<-j4]
    simp[hc2]
   show l2.drop (Qi (j+1)).toNat=l.drop (Qi (j+1)).toNat
   rw[hw2,show(j+1).toNat=j.toNat+1 by omega,ej5]
  ·simp only[Xm]at hc
   show a<=_
   omega
  simp only[Xm]at hc
  show l2.take a.toNat=_
  rw[j4,Kl (by omega)]
 obtain⟨q1,q2⟩:=q
 obtain⟨h1,h2,h3,h4⟩:0<=q1/\q1<=l.length/\q2.length=l.length/\q2.take q1.toNat=l.filter (FE b):=hq
 show Qg (JI q1 q2) _
 unfold JI
 refine T0 (T5 (by simp only[QJ,QI];omega)) λ_ _=>?_
 refine T0 (T5 (by simp only[QJ,QI,Kc,WJ,QaK];omega)) λ_ _=>?_
 refine T2 ?_
 rw[Qds (by simp;omega),List.take_take,Nat.min_self,h4]
def QkZ (n:Qf)(m:L_ QBg)(task most:Int)(l5 l8:L_ Qk)(D outs:L_ LI_)(p:LI_)(h:Xn n)(hm:Xe (Xe λ_=>True) m)(hmost:most<=4294967296\/l8.length+(Ev n m task D outs p).length<=4294967296)
  (hi:OO D) (ho:OO outs) (hp:p.length<=16) (ha:(l8.length:Int)<most):
  Qg (Ec n m task most l5 D outs l8 p) λr=>r=Wf most.toNat l8 (Ev n m task D outs p):=by
 have hil:=hi.1
 have hol:=ho.1
 unfold Ec
 refine T0 (Qj8 n m task p h).self λx hx=>?_
 obtain⟨c,b⟩:=x
 obtain⟨hxe,hx⟩:=hx
 refine T0 (P:=λy=>(y=true->Ev n m task D outs p=[])/\(y=false->BOk n m b/\c=0/\XO b=some 0)) ?_ λy hy=>?_
 ·unfold HY
  refine T1 (λhc=>T2 ⟨λ_=>?_,λh=>by cases h⟩) λhc=>?_
  ·unfold Ev
   rw[hxe]
   simp only
   rw[if_neg λe=>by simp[e.1]at hc]
  have hc:c=0:=by simpa using hc
  have hb:=hx hc
  refine T0 (QhZ n m b h hb).self λg hg=>T2 ⟨λhg2=>?_,λhg2=>⟨hb,hc,?_⟩⟩
  ·unfold Ev
   rw[hxe]
   simp only
   rw[if_neg λe=>by rw[hg.1]at e;simp at e;simp[e.2]at hg2]
  rw[hg.1];simpa using hg2
 unfold DC
 refine T1 (λhc=>T2 ?_) λhc=>?_
 ·rw[hy.1 hc,Qav (by omega)]
 obtain⟨hb,hc0,hgd⟩:=hy.2 hc
 refine T0 (P:=λz=>z=outs) (by unfold Dh;exact T0 (T5 (by simp;omega)) λ_ _=>T2 rfl) λx19 h19=>?_
 rw[h19]
 refine T0 (QjW n m b outs h hb ho) λx20 h20=>?_
 have h20l:x20.length<=16:=by rw[h20];exact Ym (IA _ _) ho.1
 have h20e:∀r∈x20,r.length<=16:=λr hr=>by rw[h20]at hr;exact ho.2 r (Ex.1 hr).1
 have hR:Ev n m task D outs p=D.flatMap λe=>if XK b e=some 0 then x20.map (λo=>Qk.mk task p e o)else []:=by
  unfold Ev
  rw[hxe]
  simp only
  rw[if_pos ⟨hc0,hgd⟩,h20]
 rw[hR]at hmost ⊢
 generalize hg:(λe=>if XK b e=some 0 then x20.map (λo=>Qk.mk task p e o)else [])=g at hmost ⊢
 refine T0 (Qg.up D.length (λst=>st.1) (λst=>(st.2.length:Int)<most/\Wf most.toNat st.2 ((D.drop st.1.toNat).flatMap g)=Wf most.toNat l8 (D.flatMap g)/\st.2.length+((D.drop st.1.toNat).flatMap g).length=l8.length+(D.flatMap g).length) (Q:=λq=>q=Wf most.toNat l8 (D.flatMap g)) rfl ⟨ha,rfl,rfl⟩ (λi st hi2 hn hJ=>?_)) (λq hq=>?_)
 ·obtain⟨j,l⟩:=st
  replace hi2:j=(i:Int):=hi2
  subst hi2
  obtain⟨hJ1,hJ2,hJ3⟩:(l.length:Int)<most/\Wf most.toNat l ((D.drop (i:Int).toNat).flatMap g)=Wf most.toNat l8 (D.flatMap g)/\l.length+((D.drop (i:Int).toNat).flatMap g).length=l8.length+(D.flatMap g).length:=hJ
  rw[XP]at hJ2 hJ3
  show Qg (DB D (c,b) x20 p task most i l) _
  unfold DB
  refine T1 (λhc=>?_) (λhc=>T2 (Qm ?_))
  ·simp only[QI]at hc
   have hlt:i<D.length:=by omega
   have hel:=hi.2 _ (XV hlt)
   rw[QT,Qx hlt,Qd]
   rw[Mr hlt,Ms,Qj3]at hJ2
   rw[Mr hlt,Ms,Kc]at hJ3
   have next:∀l',(l'.length:Int)<most->Wf most.toNat l' ((D.drop (i+1)).flatMap g)=Wf most.toNat l8 (D.flatMap g)->l'.length+((D.drop (i+1)).flatMap g).length=l8.length+(D.flatMap g).length->Qg (KR i l') λo=>(∀s',o=.inl s'->i<D.length/\s'.1=((i+1:Nat):Int)/\(s'.2.length:Int)<most/\Wf most.toNat s'.2 ((D.drop s'.1.toNat).flatMap g)=Wf most.toNat l8 (D.flatMap g)/\s'.2.length+((D.drop s'.1.toNat).flatMap g).length=l8.length+(D.flatMap g).length)/\∀r:L_ Qk⊕L_ Qk,o=.inr r->r=Wf most.toNat l8 (D.flatMap g):=λl' hl1 hl2 hl3=>by
    have hw:Qi ((i:Int)+1)=((i+1:Nat):Int):=Qv hlt (by unfold maxLen;omega:D.length<=maxLen)
    unfold KR
    exact T2 (QK (ix:=λst:Int×L_ Qk=>st.1) (J:=λst:Int×L_ Qk=>(st.2.length:Int)<most/\Wf most.toNat st.2 ((D.drop st.1.toNat).flatMap g)=Wf most.toNat l8 (D.flatMap g)/\st.2.length+((D.drop st.1.toNat).flatMap g).length=l8.length+(D.flatMap g).length) ⟨hlt,hw,hl1,by
     show Wf most.toNat l' ((D.drop (Qi ((i:Int)+1)).toNat).flatMap g)=_/\l'.length+((D.drop (Qi ((i:Int)+1)).toNat).flatMap g).length=_
     rw[hw,XP];exact⟨hl2,hl3⟩⟩)
   refine T0 (Qj9 n m b D[i] h hb hm (by omega)).self λz hz=>?_
   refine T1 (λhc2=>?_) λhc2=>?_
   ·have:g D[i]=[]:=by
     rw[<-hg];simp only
     rw[if_neg λe=>by rw[hz.1]at e;simp at e;simp[e]at hc2]
    rw[this,Qav (by omega)]at hJ2
    rw[this]at hJ3
    exact next l hJ1 hJ2 (by simpa using hJ3)
   have hge:g D[i]=x20.map (λo=>Qk.mk task p D[i] o):=by
    rw[<-hg];simp only
    rw[if_pos (by rw[hz.1];simpa using hc2)]
   rw[hge]at hJ2 hJ3
   rw[Gs]at hJ3
   refine T0 (Qg.up x20.length (λst=>st.1) (λst=>(st.2.length:Int)<most/\Wf most.toNat st.2 ((x20.drop st.1.toNat).map λo=>Qk.mk task p D[i] o)=Wf most.toNat l (x20.map λo=>Qk.mk task p D[i] o)/\(st.2.length:Int)=l.length+st.1) (Q:=λq=>q=Wf most.toNat l (x20.map λo=>Qk.mk task p D[i] o)) rfl ⟨hJ1,rfl,by simp⟩ (λi2 st hi3 hn2 hK=>?_)) (λq hq=>?_)
   ·obtain⟨j2,l2⟩:=st
    replace hi3:j2=(i2:Int):=hi3
    subst hi3
    obtain⟨hK1,hK2,hK3⟩:(l2.length:Int)<most/\Wf most.toNat l2 ((x20.drop (i2:Int).toNat).map λo=>Qk.mk task p D[i] o)=Wf most.toNat l (x20.map λo=>Qk.mk task p D[i] o)/\(l2.length:Int)=l.length+(i2:Int):=hK
    rw[XP]at hK2
    show Qg (DA x20 p D[i] task most i2 l2) _
    unfold DA
    refine T1 (λhc=>?_) (λhc=>T2 (Qm ?_))
    ·simp only[QI]at hc
     have hlt2:i2<x20.length:=by omega
     have hel2:=h20e _ (XV hlt2)
     rw[QT,Qx hlt2,Qd]
     rw[Mr hlt2,Gt,Qng]at hK2
     rw[Ru p (by omega),Qd,Ru D[i] (by omega),Qd,Ru x20[i2] (by omega),Qd]
     refine T0 (T5 (by simp;omega)) λ_ _=>?_
     refine T1 (λhc2=>T2 (Qm ?_)) λhc2=>?_
     ·simp only[beq_iff_eq,Kc,CA]at hc2
      rw[Qnf (by simp;omega)]at hK2
      exact hK2
     simp only[beq_eq_false_iff_ne,Kc,CA]at hc2
     have hw:Qi ((i2:Int)+1)=((i2+1:Nat):Int):=Qv hlt2 (by unfold maxLen;omega:x20.length<=maxLen)
     refine T2 (QK ⟨hlt2,hw,by show((l2++[_]).length:Int)<most;simp;omega,?_,by show((l2++[_]).length:Int)=l.length+Qi ((i2:Int)+1);rw[hw];simp;omega⟩)
     show Wf most.toNat (l2++[_]) ((x20.drop (Qi ((i2:Int)+1)).toNat).map _)=_
     rw[hw,XP];exact hK2
    simp only[Xm]at hc
    rw[QfB (by omega),List.map_nil,Qav (by omega)]at hK2
    exact hK2
   rw[<-hq]at hJ2
   rcases q with q | q
   ·exact T2 (Qm hJ2)
   exact next q (by have:=Ql4 hq.symm;omega) hJ2 (by
    have e:=congrArg List.length (Qj4 hq.symm)
    rw[Kc,Gs]at e
    omega)
  simp only[Xm]at hc
  rw[QfB (by omega),List.flatMap_nil,Qav (by omega)]at hJ2
  exact hJ2
 rcases q with q | q
 ·exact T2 hq
 exact T2 hq
def Qiy (n:Qf)(m:L_ QBg)(D most:Int)(l5:L_ Qk)(ins outs:L_ LI_)(t:QH)(h:Xn n)(hm:Xe (Xe λ_=>True) m)(hmost:most<=4294967296\/((binds (Yq n t)).flatMap (Ev n m D ins outs)).length<=4294967296)(h1:1<=most)
  (hi:OO ins) (ho:OO outs) (ht:t∈n.Tasks):Qg (Bq n m D most l5 ins outs [] t n) λr=>∀a,r=.inl a\/r=.inr a->a=((binds (Yq n t)).flatMap (Ev n m D ins outs)).take most.toNat:=by
 have hv:=(h.tk t ht).1
 have hsz:(Yq n t).length=t.Vars.length:=by simp[Yq]
 generalize hrl:Ev n m D ins outs=rl at hmost ⊢
 have fin:∀q:L_ Qk⊕L_ Qk,q.swap=Wf most.toNat [] ((binds (Yq n t)).flatMap rl)->∀a,q=.inl a\/q=.inr a->a=((binds (Yq n t)).flatMap rl).take most.toNat:=λq hq a ha=>by
  rw[<-Qnh (by omega:0<most.toNat),<-hq]
  rcases ha with rfl | rfl<;>rfl
 unfold Bq
 refine T0 (T5 (by simp only[QJ,QI];omega)) λ_ _=>?_
 refine T0 (Qma (λst=>(DI (Yq n t) st.1).length) (λst=>st.1.length=t.Vars.length/\(∀d∈st.1,0<=d/\d<=1024)/\(st.2.length:Int)<most/\Wf most.toNat st.2 ((st.1::DI (Yq n t) st.1).flatMap rl)=Wf most.toNat [] ((binds (Yq n t)).flatMap rl)/\st.2.length+((st.1::DI (Yq n t) st.1).flatMap rl).length=((binds (Yq n t)).flatMap rl).length) (Q:=λq:L_ Qk⊕L_ Qk=>q.swap=Wf most.toNat [] ((binds (Yq n t)).flatMap rl))
  ⟨by simp,λd hd=>by have:=QaJ hd;omega,by simp;omega,?_⟩ (λst hJ=>?_)) (λq hq=>?_)
 ·show Wf most.toNat [] ((List.replicate (t.Vars.length:Int).toNat 0::DI (Yq n t) (List.replicate (t.Vars.length:Int).toNat 0)).flatMap rl)=_/\0+((List.replicate (t.Vars.length:Int).toNat 0::DI (Yq n t) (List.replicate (t.Vars.length:Int).toNat 0)).flatMap rl).length=_
  rw[QeA (Yq n t),Il,hsz,XP,Ff]
  exact⟨rfl,rfl⟩
 ·obtain⟨d,l⟩:=st
  obtain⟨j1,j2,j3,j4,j5⟩:d.length=t.Vars.length/\(∀d'∈d,0<=d'/\d'<=1024)/\(l.length:Int)<most/\Wf most.toNat l ((d::DI (Yq n t) d).flatMap rl)=Wf most.toNat [] ((binds (Yq n t)).flatMap rl)/\l.length+((d::DI (Yq n t) d).flatMap rl).length=((binds (Yq n t)).flatMap rl).length:=hJ
  rw[Ms,Kc]at j5
  show Qg (EL n m D most l5 ins outs t n d l) _
  unfold EL
  rw[Ru d (by omega),Qd]
  refine T0 (QkZ n m D most l5 l ins outs d h hm (by rw[hrl];omega) hi ho (by omega) j3) λr hr=>?_
  rw[hrl]at hr
  rw[Ms,Qj3,<-hr]at j4
  rcases r with r | r
  ·exact T2 ⟨λs' e=>(by cases e),λq e=>(by cases e;exact j4)⟩
  have hacc:=Ql4 hr.symm
  have hlen:=congrArg List.length (Qj4 hr.symm)
  rw[Kc]at hlen
  replace j4:Wf most.toNat r ((DI (Yq n t) d).flatMap rl)=Wf most.toNat [] ((binds (Yq n t)).flatMap rl):=j4
  show Qg (EK t n d r) _
  unfold EK
  refine T0 (Qme t n d h.k j1 hv j2) λq hq=>?_
  obtain⟨a,d2⟩:=q
  obtain⟨⟨q1,q2,q3⟩,q4,q5⟩:(-1<=a/\a<d.length/\d2=d.take (a+1).toNat++List.replicate (d.length-(a+1).toNat) 0)/\(∀(j:Nat) x s,a<(j:Int)->d[j]? = some x->(Yq n t)[j]? = some s->¬x+1<s)/\∀x s,0<=a->d[a.toNat]? = some x->(Yq n t)[a.toNat]? = some s->x+1<s/\x<1024:=hq
  have hnx:=QkR (Yq n t) d
  show Qg (EJ r a d2) _
  unfold EJ
  refine T1 (λhc=>T2 ⟨λs' e=>(by cases e),λq e=>(by
   cases e
   simp only[QI]at hc
   rw[QhX (Yq n t) d λj x s=>q4 j x s (by omega)]at hnx
   simp only at hnx
   rw[hnx,List.flatMap_nil,Qav hacc]at j4
   exact j4)⟩) λhc=>?_
  simp only[Xm]at hc
  have hlt:a.toNat<d.length:=by omega
  have hls:a.toNat<(Yq n t).length:=by omega
  have ed:idx d2 a=some d[a.toNat]:=by
   rw[Gq (by omega),q3,Jx (by simp;omega),KD,if_pos (by omega),Qx hlt]
  rw[ed,Qd,Qd]
  have h9:=q5 _ _ (by omega) (Qx hlt) (Qx hls)
  have h10:=j2 _ (XV hlt)
  rw[Yf (by omega)]
  have e3:d2.set a.toNat (d[a.toNat]+1)=d.take a.toNat++(d[a.toNat]+1)::List.replicate (d.length-(a.toNat+1)) 0:=by
   rw[q3,show(a+1).toNat=a.toNat+1 by omega,Qjr hlt]
  rw[e3]
  have hd3:∀x∈d.take a.toNat++(d[a.toNat]+1)::List.replicate (d.length-(a.toNat+1)) 0,0<=x/\x<=1024:=λx hx=>by
   rcases YI.1 hx with hx | hx
   ·exact j2 x (Bj hx)
   rcases Yl.1 hx with rfl | hx
   ·omega
   have:=QaJ hx;omega
  have hlen2:(d.take a.toNat++(d[a.toNat]+1)::List.replicate (d.length-(a.toNat+1)) 0).length=t.Vars.length:=by simp;omega
  rw[Qod a.toNat (Yq n t) d _ _ (by omega) (Qx hlt) (Qx hls) h9.1 λj y z hj=>q4 j y z (by omega)]at hnx
  simp only at hnx
  rw[hnx]at j4
  exact T2 ⟨λs' e=>(by
   cases e
   refine⟨?_,hlen2,hd3,by show(r.length:Int)<most;omega,j4,by show r.length+(List.flatMap rl (_::_)).length=_;rw[<-hnx];omega⟩
   show(DI (Yq n t) (d.take a.toNat++(d[a.toNat]+1)::List.replicate (d.length-(a.toNat+1)) 0)).length<(DI (Yq n t) d).length
   rw[hnx,DU];omega),λq e=>(by cases e)⟩
 rcases q with q | q
 ·exact T2 λa ha=>fin _ hq a (by rcases ha with ha | ha<;>cases ha;exact .inl rfl)
 exact T2 λa ha=>fin _ hq a (by rcases ha with ha | ha<;>cases ha;exact .inr rfl)
def Rv (D h:Int):L_ LI_:=(Wk D h).getD []
def Jb (n:Qf)(m:L_ QBg)(h:Int):L_ Qk:=match idx n.Tasks h with
 | some t=>(binds (Yq n t)).flatMap (Ev n m h (Rv t.Join t.Ins.length) (Rv t.Split t.Outs.length))
 | none=>[]
def Qk0 (n:Qf)(m:L_ QBg)(D most:Int)(h:Xn n)(hm:Xe (Xe λ_=>True) m)(hmost:most<=4294967296\/(Jb n m D).length<=4294967296):Ie n m D most=some ((Jb n m D).take most.toNat):=by
 have key:Qg (Ie n m D most) λr=>r=(Jb n m D).take most.toNat:=by
  unfold Ie
  refine T1 (λhc=>T2 ?_) λhc=>?_
  ·simp only[Wv,QI]at hc
   rcases hc with hc | hc | hc
   ·unfold Jb idx
    rw[if_neg (by omega)];simp
   ·unfold Jb idx
    rw[if_pos (by omega),QfC (by omega)];simp
   rw[show most.toNat=0 by omega,List.take_zero]
  simp only[KC,Xm]at hc
  refine T0 (T4 (by omega) (by omega)).self λe he=>?_
  refine T0 (Zi _ _).self λx hx=>?_
  refine T0 (Zi _ _).self λy hy=>?_
  refine T0 (P:=λz=>z=(n,e)) (T2 rfl) λz hz=>?_
  subst hz
  have hml:Jb n m D=(binds (Yq n e)).flatMap (Ev n m D x y):=by
   unfold Jb Rv
   rw[he.1]
   simp only
   rw[hx.1,hy.1];rfl
  refine T0 (Qiy n m D most [] x y e h hm (by rw[<-hml];exact hmost) (by omega) hx.2 hy.2 he.2) λr hr=>?_
  rw[hml]
  rcases r with r | r
  ·exact T2 (hr r (.inl rfl))
  exact T2 (hr r (.inr rfl))
 obtain⟨r,h1,h2⟩:=key
 rw[h1,h2]
def Kk (n:Qf)(m:L_ QBg):L_ Qk:=(List.range n.Tasks.length).flatMap λ(k:Nat)=>Jb n m (k:Int)
def Qno {α:Type}(f:Nat->L_ α)(N:Nat):∀k,k<=N->∃r,(List.range N).flatMap f=(List.range k).flatMap f++r:=by
 induction N with
 | zero=>intro k h;exact⟨[],by rw[show k=0 by omega];rfl⟩
 | succ N ih=>
  intro k h
  by_cases c:k=N+1
  ·subst c;exact⟨[],by simp⟩
  obtain⟨r,D⟩:=ih k (by omega)
  exact⟨r++f N,by rw[List.range_succ,Qdq,List.flatMap_singleton,D,WI]⟩
def Qjv (n:Qf)(m:L_ QBg)(most:Int)(h:Xn n)(hm:Xe (Xe λ_=>True) m)(h0:0<=most)(h1:most<=9223372036854775807)(hmost:most<=4294967296\/(Kk n m).length<=4294967296):IP n m most=some ((Kk n m).take most.toNat):=by
 have key:Qg (IP n m most) λr=>r=(Kk n m).take most.toNat:=by
  unfold IP
  refine T0 (Qg.up n.Tasks.length (λst=>st.1) (λst=>st.2=((List.range st.1.toNat).flatMap λ(k:Nat)=>Jb n m (k:Int)).take most.toNat) (Q:=λq=>q=(Kk n m).take most.toNat) rfl (by simp) (λi st hi hn D=>?_)) (λq hq=>T2 hq)
  obtain⟨x,l⟩:=st
  replace hi:x=(i:Int):=hi
  subst hi
  replace D:l=((List.range (i:Int).toNat).flatMap λ(k:Nat)=>Jb n m (k:Int)).take most.toNat:=D
  rw[XP]at D
  show Qg (RH n m most i l) _
  unfold RH
  refine T1 (λhc=>?_) (λhc=>T2 (Qm ?_))
  ·simp only[QI]at hc
   have hll:l.length<=most.toNat:=by rw[D];exact List.length_take_le _ _
   have hw:Qi (most-(l.length:Int))=most-(l.length:Int):=Yf (by omega)
   obtain⟨rest,hrest⟩:=Qno (λ(k:Nat)=>Jb n m (k:Int)) n.Tasks.length (i+1) (by omega)
   have hle:((List.range i).flatMap λ(k:Nat)=>Jb n m (k:Int)).length+(Jb n m (i:Int)).length<=(Kk n m).length:=by
    unfold Kk
    rw[hrest,List.range_succ,Qdq,List.flatMap_singleton];simp
   have hl2:l.length<=((List.range i).flatMap λ(k:Nat)=>Jb n m (k:Int)).length:=by rw[D];exact List.length_take_le' _ _
   rw[hw,Qk0 n m i _ h hm (by omega),Qd]
   have e:l++(Jb n m (i:Int)).take (most-(l.length:Int)).toNat=((List.range (i+1)).flatMap λ(k:Nat)=>Jb n m (k:Int)).take most.toNat:=by
    rw[List.range_succ,Qdq,List.flatMap_singleton,List.take_append,<-D]
    congr 1
    by_cases c:((List.range i).flatMap λ(k:Nat)=>Jb n m (k:Int)).length<=most.toNat
    ·have:l.length=((List.range i).flatMap λ(k:Nat)=>Jb n m (k:Int)).length:=by rw[D,WJ];omega
     congr 1;omega
    have:l.length=most.toNat:=by rw[D,WJ];omega
    rw[show(most-(l.length:Int)).toNat=0 by omega,show most.toNat-((List.range i).flatMap λ(k:Nat)=>Jb n m (k:Int)).length=0 by omega]
   rw[e]
   refine T0 (T5 (by
    have:=List.length_take_le (most-(l.length:Int)).toNat (Jb n m (i:Int))
    have:=List.length_take_le' (most-(l.length:Int)).toNat (Jb n m (i:Int))
    simp only[QI];omega)) λ_ _=>?_
   have hw2:Qi ((i:Int)+1)=((i+1:Nat):Int):=Qv (by omega:i<n.Tasks.length) h.k.2.2.1.1
   refine T2 (QK ⟨by omega,hw2,?_⟩)
   show _=((List.range (Qi ((i:Int)+1)).toNat).flatMap λ(k:Nat)=>Jb n m (k:Int)).take most.toNat
   rw[hw2,XP]
  simp only[Xm]at hc
  rw[D,show i=n.Tasks.length by omega];rfl
 obtain⟨r,h1,h2⟩:=key
 rw[h1,h2]
def Qmf {n:Qf}{m:L_ QBg}{D:Int}{ins outs:L_ LI_}{p:LI_}{o:Qk}:
  o∈Ev n m D ins outs p↔o.Task=D/\o.Vars=p/\o.Ins∈ins/\o.Outs∈outs/\∃b,JE n m D p=some (0,b)/\XO b=some 0/\XK b o.Ins=some 0/\Yo b o.Outs=some 0:=by
 unfold Ev
 cases hb:JE n m D p with
 | none=>simp
 | some x=>
  obtain⟨c,b⟩:=x
  simp only
  by_cases hc:c=0/\XO b=some 0
  ·rw[if_pos hc]
   obtain⟨rfl,hg⟩:=hc
   simp only[List.mem_flatMap]
   constructor
   ·rintro ⟨e,he,h⟩
    by_cases ht:XK b e=some 0
    ·rw[if_pos ht]at h
     obtain⟨r,hr,rfl⟩:=Yh.1 h
     obtain⟨h1,h2⟩:=Ex.1 hr
     exact⟨rfl,rfl,he,h1,b,rfl,hg,ht,Xw h2⟩
    rw[if_neg ht]at h;cases h
   rintro ⟨h1,h2,h3,h4,b',h5,h6,h7,h8⟩
   cases h5
   refine⟨o.Ins,h3,?_⟩
   rw[if_pos h7]
   refine Yh.2 ⟨o.Outs,Ex.2 ⟨h4,Yu h8⟩,?_⟩
   cases o
   simp only at h1 h2
   subst h1;subst h2;rfl
  rw[if_neg hc]
  constructor
  ·intro h;cases h
  rintro ⟨_,_,_,_,b',h5,h6,_⟩
  cases h5
  exact absurd ⟨rfl,h6⟩ hc
def Nz {n:Qf}{m:L_ QBg}{h:Int}{o:Qk}:
  o∈Jb n m h↔o.Task=h/\∃e,idx n.Tasks h=some e/\inB (Yq n e) o.Vars/\o.Ins∈Rv e.Join e.Ins.length/\o.Outs∈Rv e.Split e.Outs.length/\∃b,JE n m h o.Vars=some (0,b)/\XO b=some 0/\XK b o.Ins=some 0/\Yo b o.Outs=some 0:=by
 unfold Jb
 cases he:idx n.Tasks h with
 | none=>simp
 | some e=>
  simp only[List.mem_flatMap,Ql3,Qmf,Option.some.injEq,exists_eq_left']
  constructor
  ·rintro ⟨p,D,h2,rfl,h3,h4,h5⟩
   exact⟨h2,D,h3,h4,h5⟩
  rintro ⟨D,h2,h3,h4,h5⟩
  exact⟨o.Vars,h2,D,rfl,h3,h4,h5⟩
def Qol {n:Qf}{m:L_ QBg}{o:Qk}:o∈Kk n m↔o∈Jb n m o.Task:=by
 unfold Kk
 simp only[List.mem_flatMap,Gu]
 constructor
 ·rintro ⟨k,hk,h⟩
  have:=(Nz.1 h).1
  rwa[this]
 intro h
 obtain⟨_,e,D,_⟩:=Nz.1 h
 have h0:0<=o.Task:=by
  unfold idx at D
  split at D
  ·assumption
  cases D
 rw[Gq h0]at D
 have:=(Xa.1 D).1
 exact⟨o.Task.toNat,this,by rwa[show((o.Task.toNat:Nat):Int)=o.Task by omega]⟩
def Qk1 (a b:LI_)(ha:a.length<=maxLen):Jn a b=some (decide (a=b)):=by
 have key:Qg (Jn a b) λr=>r=decide (a=b):=by
  unfold Jn
  refine T1 (λhc=>T2 ?_) λhc=>?_
  ·rw[JM λe=>by subst e;simp at hc]
  simp only[KI]at hc
  have hc:a.length=b.length:=by omega
  refine T0 (Qg.up a.length (λst=>st) (λst=>a.take st.toNat=b.take st.toNat) (Q:=λq:Unit⊕Unit=>(q=.inl ()->a≠b)/\(q=.inr ()->a=b)) rfl rfl (λi st hi hn hJ=>?_)) (λq hq=>?_)
  ·replace hi:st=(i:Int):=hi
   subst hi
   replace hJ:a.take (i:Int).toNat=b.take (i:Int).toNat:=hJ
   rw[XP]at hJ
   show Qg (Kr a b i) _
   unfold Kr
   refine T1 (λD=>?_) (λD=>T2 (Qm ⟨λe=>(by cases e),λ_=>?_⟩))
   ·simp only[QI]at D
    have i1:i<a.length:=by omega
    have i2:i<b.length:=by omega
    rw[QT,Qx i1,Qd,QT,Qx i2,Qd]
    refine T1 (λh=>T2 (Qm ⟨λ_ e=>?_,λe=>by cases e⟩)) λh=>?_
    ·subst e;simp at h
    have hw:Qi ((i:Int)+1)=((i+1:Nat):Int):=Qv i1 ha
    refine T2 (QK ⟨i1,hw,?_⟩)
    show a.take (Qi ((i:Int)+1)).toNat=b.take (Qi ((i:Int)+1)).toNat
    rw[hw,XP,DV,DV,hJ,Qx i1,Qx i2]
    simp only[KI]at h
    rw[h]
   simp only[Xm]at D
   rwa[Kl (by omega),Kl (by omega)]at hJ
  rcases q with q | q
  ·exact T2 (JM (hq.1 rfl)).symm
  exact T2 (Yu (hq.2 rfl)).symm
 obtain⟨r,h1,h2⟩:=key
 rw[h1,h2]
def Qdg (D h:Int):Wk D h=some (Rv D h)/\OO (Rv D h):=by
 obtain⟨r,h1,h2⟩:=Zi D h
 unfold Rv
 rw[h1]
 exact⟨rfl,h2⟩
def PU (D h:Int)(row:LI_):DP D h row=some (decide (row∈Rv D h)):=by
 have key:Qg (DP D h row) λr=>r=decide (row∈Rv D h):=by
  unfold DP KG KF
  obtain⟨e,hx⟩:=Qdg D h
  rw[e,Qd]
  generalize Rv D h=x at hx
  have hl:=hx.1
  have key:Qg ((QE (λst=>Ys x row st) 0)) λq:Int⊕Unit=>(∀k,q=.inl k->0<=k/\row∈x)/\(q=.inr ()->row ∉ x):=by
   refine Qg.up x.length (λst=>st) (λst=>row ∉ x.take st.toNat) rfl (by simp) (λi st hi hn hJ=>?_)
   replace hi:st=(i:Int):=hi
   subst hi
   replace hJ:row ∉ x.take (i:Int).toNat:=hJ
   rw[XP]at hJ
   show Qg (Ys x row i) _
   unfold Ys Hj
   refine T1 (λhc=>?_) (λhc=>T2 (Qm ⟨λk e=>(by cases e),λ_=>?_⟩))
   ·simp only[QI]at hc
    have i1:i<x.length:=by omega
    have:=hx.2 _ (XV i1)
    rw[QT,Qx i1,Qd,Qk1 _ _ (by unfold maxLen;omega)]
    simp only[Qd]
    refine T1 (λhc2=>T2 (Qm ⟨λk e=>(by cases e;exact⟨by omega,by rw[<-Xw hc2];exact XV i1⟩),λe=>by cases e⟩)) λhc2=>?_
    have hw:Qi ((i:Int)+1)=((i+1:Nat):Int):=Qv i1 (by unfold maxLen;omega:x.length<=maxLen)
    refine T2 (QK ⟨i1,hw,?_⟩)
    show row ∉ x.take (Qi ((i:Int)+1)).toNat
    rw[hw,XP,DV,Qx i1]
    simp only[Option.toList_some,YI,Ao,not_or]
    exact⟨hJ,λe=>of_decide_eq_false hc2 e.symm⟩
   simp only[Xm]at hc
   rwa[Kl (by omega)]at hJ
  obtain⟨q,hq1,hq2⟩:=key
  rw[hq1]
  rcases q with q | q
  ·have:=hq2.1 q rfl
   refine T2 ?_
   rw[Yu this.2]
   exact Yu this.1
  refine T2 ?_
  rw[JM (hq2.2 rfl)];rfl
 obtain⟨r,h1,h2⟩:=key
 rw[h1,h2]
def Qmg (l:L_ QL)(k m:Int)(hl:Xe Kj l):Qg (Ea l k m) λr=>r.2=true->0<=m/\∃z,YS l k=some z/\m<z:=by
 unfold Ea YS
 refine T0 (FC l k hl).self λx hx=>?_
 obtain⟨hxe,hx⟩:=hx
 refine T0 (P:=λr=>r=false->x.1=true/\0<=m/\∃h:0<=k/\k<(x.2.sizes.length:Int),m<x.2.sizes[k.toNat]'(by omega)) ?_ λr hr=>?_
 ·unfold HU
  refine T1 (λ_=>T2 λh=>by cases h) λD=>?_
  have D:x.1=true:=by simpa using D
  have h:=hx.2 D
  have hk:k.toNat<x.2.sizes.length:=by omega
  have ei:idx x.2.sizes k=some x.2.sizes[k.toNat]:=Qc1 h.1.1 h.1.2
  refine T0 (P:=λy=>y=true->0<=m/\m<x.2.sizes[k.toNat]) ?_ λy hy=>T2 λhf=>?_
  ·unfold WO
   refine T0 (P:=λy=>y=true->0<=m/\m<x.2.sizes[k.toNat]) ?_ λy hy=>T2 hy
   unfold UD
   refine T1 (λhc2=>?_) λ_=>T2 λh=>by cases h
   rw[h.2.1,ei,Qd]
   exact T2 λh=>⟨by simpa using hc2,by simpa using h⟩
  have:=hy (by simpa using hf)
  exact⟨D,this.1,h.1,this.2⟩
 unfold HV
 refine T1 (λ_=>T2 λh=>by cases h) λD=>?_
 obtain⟨h1,h2,h3,h4⟩:=hr D
 have h:=hx.2 h1
 have fin:0<=m/\∃z,((Ub l k).bind λx5=>bif (!x5.1)then some 0 else(idx x5.2.sizes k).bind λe7=>some e7)=some z/\m<z:=⟨h2,x.2.sizes[k.toNat]'(by omega),by
  rw[hxe,Qd,h1]
  simp only[GV,Xh]
  rw[Qc1 h3.1 h3.2];rfl,h4⟩
 refine T0 (Co x.2 (by omega)) λ_ _=>?_
 refine T1 (λ_=>?_) λ_=>T2 λ_=>fin
 exact T0 (Co x.2 (by omega)) λ_ _=>T2 λ_=>fin
def Qo8 {l d:LI_}(h:d.length=l.length)(D:∀(j:Nat) x s,d[j]? = some x->l[j]? = some s->0<=x/\x<s):inB l d:=by
 induction l generalizing d with
 | nil=>cases d with
  | nil=>trivial
  | cons x d=>simp at h
 | cons s r ih=>cases d with
  | nil=>simp at h
  | cons x d=>
   have:=D 0 x s rfl rfl
   exact⟨this.1,.inr this.2,ih (by simpa using h) λj y z h1 h2=>D (j+1) y z (by simpa using h1) (by simpa using h2)⟩
def Qo9 (n:Qf)(task:Int)(D:LI_)(h:Xn n):Qg (EF n task D) λr=>r.2=0->∃e,idx n.Tasks task=some e/\e∈n.Tasks/\inB (Yq n e) D/\∀s∈Yq n e,0<s:=by
 unfold EF
 refine T1 (λ_=>T2 λh=>by cases h) λhc=>?_
 simp only[KC,Xm]at hc
 refine T0 (T4 (by omega) (by omega)).self λe he=>?_
 have hv:=(h.tk e he.2).1
 have ke:=h.k.2.2.1.2 e he.2
 refine T1 (λ_=>T2 λh=>by cases h) λhl=>?_
 simp only[KI]at hl
 have hl:D.length=e.Vars.length:=by omega
 refine T0 (T5 (by simp only[QJ,QI];omega)) λ_ _=>?_
 refine T0 (Qg.up e.Vars.length (λst=>st.1) (λst=>st.2.length=e.Vars.length/\∀(j:Nat) x s,(j:Int)<st.1->D[j]? = some x->(Yq n e)[j]? = some s->0<=x/\x<s) (Q:=λq:Unit⊕LI_=>∀out,q=.inr out->inB (Yq n e) D/\∀s∈Yq n e,0<s) rfl ⟨by simp,λj x s hj=>by simp at hj;omega⟩ (λi st hi hn hJ=>?_)) (λq hq=>?_)
 ·obtain⟨x,l⟩:=st
  replace hi:x=(i:Int):=hi
  subst hi
  obtain⟨hJ,hJ2⟩:l.length=e.Vars.length/\∀(j:Nat) x s,(j:Int)<(i:Int)->D[j]? = some x->(Yq n e)[j]? = some s->0<=x/\x<s:=hJ
  show Qg (Fl e D n i l) _
  unfold Fl
  refine T1 (λhc=>?_) (λhc=>T2 (Qm λout _=>?_))
  ·simp only[QI]at hc
   have i1:i<e.Vars.length:=by omega
   have i2:i<D.length:=by omega
   rw[QT,Qx i1,Qd,QT,Qx i2,Qd]
   refine T0 (Qmg _ _ _ h.k.1) λc hc3=>?_
   refine T1 (λ_=>T2 (Qm λout e=>by cases e)) λhc4=>?_
   obtain⟨h1,z,h2,h3⟩:=hc3 (by simpa using hc4)
   refine T0 (T4 (by omega) (by omega)) λd _=>?_
   have hw:Qi ((i:Int)+1)=((i+1:Nat):Int):=Qv i1 (by unfold maxLen;omega:e.Vars.length<=maxLen)
   refine T2 (QK ⟨i1,hw,by simpa using hJ,λj x s hj hx hs=>?_⟩)
   replace hj:(j:Int)<Qi ((i:Int)+1):=hj
   rw[hw]at hj
   by_cases cj:j=i
   ·subst cj
    rw[Qx i2]at hx
    cases hx
    unfold Yq at hs
    rw[XY,Qx i1,JD,h2]at hs
    cases hs
    exact⟨h1,h3⟩
   exact hJ2 j x s (by omega) hx hs
  simp only[Xm]at hc
  have hb:∀(j:Nat) x s,D[j]? = some x->(Yq n e)[j]? = some s->0<=x/\x<s:=λj x s hx hs=>hJ2 j x s (by have:=(Xa.1 hx).1;omega) hx hs
  refine⟨Qo8 (by simp[Yq,hl]) hb,λs hs=>?_⟩
  obtain⟨j,hj,rfl⟩:=Hb.1 hs
  have hj2:j<D.length:=by simp[Yq]at hj;omega
  have:=hb j _ _ (Qx hj2) (Qx hj)
  omega
 rcases q with q | q
 ·exact T2 λh=>by cases h
 exact T2 λ_=>⟨e,he.1,he.2,hq q rfl⟩
def SI {n:Qf}{m:L_ QBg}{D:Int}{vars:LI_}{b:Xo}(h:Xn n)(e:JE n m D vars=some (0,b)):idx n.Tasks D=some b.task/\b.task∈n.Tasks/\b.net=n/\b.m=m/\(inB (Yq n b.task) vars/\∀s∈Yq n b.task,0<s)/\EF n D vars=some (b.env,0):=by
 unfold JE at e
 obtain⟨x,hx,e⟩:=Qz e
 obtain⟨x1,x2⟩:=x
 rcases XS e with⟨c,e⟩|⟨c,e⟩
 ·simp only[Option.some.injEq,Prod.mk.injEq]at e
  simp only[e.1]at c;cases c
 simp only[KI]at c
 subst c
 obtain⟨t,ht,h1,h2⟩:=Al (Qo9 n D vars h) hx rfl
 rw[ht,Qd]at e
 simp only[Option.some.injEq,Prod.mk.injEq,true_and]at e
 subst e
 exact⟨ht,h1,rfl,rfl,h2,hx⟩
def Qmh {n:Qf}{m:L_ QBg}{o:Qk}(h:Xn n)(hm:Xe (Xe λ_=>True) m)(ho:Wc n o):KS n m o=some 0↔o∈Jb n m o.Task:=by
 rw[Nz]
 constructor
 ·intro e
  unfold KS at e
  obtain⟨x,hx,e⟩:=Qz e
  obtain⟨c,b⟩:=x
  have k3:∀g,Wy (c,b) o g=some 0->g=0/\o.Ins∈Rv b.task.Join b.task.Ins.length/\o.Outs∈Rv b.task.Split b.task.Outs.length/\XK b o.Ins=some 0/\Yo b o.Outs=some 0:=λg e=>by
   unfold Wy at e
   rcases XS e with⟨c2,e⟩|⟨c2,e⟩
   ·simp only[Option.some.injEq]at e;rw[e]at c2;cases c2
   simp only[KI]at c2
   obtain⟨y,D,e⟩:=Qz e
   unfold Hk at D
   rw[PU,Qd]at D
   unfold Hl at e
   rcases XS e with⟨_,e⟩|⟨c3,e⟩
   ·cases e
   subst c3
   rcases XS D with⟨_,D⟩|⟨c4,D⟩
   ·cases D
   rw[PU,Qd]at D
   simp only[Bi,QI]at c4
   simp only[Option.some.injEq,Bi,QI]at D
   obtain⟨z,hz,e⟩:=Qz e
   rcases XS e with⟨c5,e⟩|⟨c5,e⟩
   ·simp only[Option.some.injEq]at e;rw[e]at c5;cases c5
   simp only[KI]at c5
   subst c5
   obtain⟨w,hw,e⟩:=Qz e
   simp only[Option.some.injEq]at e
   subst e
   exact⟨c2,c4,D,hz,hw⟩
  have fin:c=0->XO b=some 0->(o.Ins∈Rv b.task.Join b.task.Ins.length/\o.Outs∈Rv b.task.Split b.task.Outs.length/\XK b o.Ins=some 0/\Yo b o.Outs=some 0)->o.Task=o.Task/\∃e,idx n.Tasks o.Task=some e/\inB (Yq n e) o.Vars/\o.Ins∈Rv e.Join e.Ins.length/\o.Outs∈Rv e.Split e.Outs.length/\∃b,JE n m o.Task o.Vars=some (0,b)/\XO b=some 0/\XK b o.Ins=some 0/\Yo b o.Outs=some 0:=λhc hg q=>by
   subst hc
   obtain⟨h1,_,_,_,h2,_⟩:=SI h hx
   exact⟨rfl,b.task,h1,h2.1,q.1,q.2.1,b,hx,hg,q.2.2.1,q.2.2.2⟩
  rcases XS e with⟨c1,e⟩|⟨c1,e⟩
  ·simp only[beq_iff_eq]at c1
   obtain⟨g,hg,e⟩:=Qz e
   obtain⟨rfl,q⟩:=k3 g e
   exact fin c1 hg q
  have e1:=(k3 _ e).1
  simp only[beq_eq_false_iff_ne]at c1
  exact absurd e1 c1
 rintro ⟨_,e,he,h1,h2,h3,b,hb,hg,ht,hv⟩
 obtain⟨k1,k2,_⟩:=SI h hb
 rw[he]at k1;cases k1
 unfold KS
 rw[hb,Qd]
 simp only[show((0:Int)==0)=true from rfl,QY,hg,Qd]
 unfold Wy
 simp only[show((0:Int) != 0)=false from rfl,Xh]
 unfold Hk
 rw[PU,Qd,Yu h2]
 simp only[GV,Xh]
 rw[PU,Qd,Yu h3,Qd]
 unfold Hl
 simp only[GV,Xh,ht,Qd,show((0:Int) != 0)=false from rfl,hv]
def Qnp {n:Qf}{m:L_ QBg}{D:Int}{o:Qk}(h:Xn n)(hm:Xe (Xe λ_=>True) m)(ho:o∈Jb n m D):Wc n o:=by
 obtain⟨_,e,he,h1,h2,h3,_⟩:=Nz.1 ho
 have hem:e∈n.Tasks:=by
  unfold idx at he
  split at he
  ·exact XE he
  cases he
 have hv:=(h.tk e hem).1
 have hl:=Qof h1
 have h4:=(Qdg e.Join e.Ins.length).2.2 _ h2
 have h5:=(Qdg e.Split e.Outs.length).2.2 _ h3
 have:(Yq n e).length=e.Vars.length:=by simp[Yq]
 exact⟨by omega,by omega,by omega⟩
def Vb {n:Qf}{m:L_ QBg}{o:Qk}(h:Xn n)(D:Xe (Xe λ_=>True) m)(ho:o∈Kk n m):Wc n o:=Qnp h D (Qol.1 ho)
def UM : LI_->Nat
 | []=>1
 | s::r=>(1+(s-1).toNat)*UM r
def Vc {α β:Type}{f:α->L_ β}{c:Nat}:∀{l:L_ α},(∀x∈l,(f x).length<=c)->(l.flatMap f).length<=l.length*c:=by
 intro l
 induction l with
 | nil=>intro _;simp
 | cons x l ih=>
  intro h
  have h1:=ih λy D=>h y (XZ _ D)
  have h2:=h x XR
  rw[Ms,Kc,DU,Nat.succ_mul]
  omega
def Qom (x:Int)(k:Nat):(upL x k).length=k:=by
 induction k generalizing x with
 | zero=>rfl
 | succ k h=>simp[upL,h]
def Qmi (l:LI_):(binds l).length<=UM l:=by
 induction l with
 | nil=>exact Jp _
 | cons s r h=>
  rw[binds,UM]
  have:=Vc (f:=λx=>(binds r).map (x::·)) (c:=UM r) (l:=0::upL 1 (s-1).toNat) λx _=>by simpa using h
  rw[DU,Qom]at this
  rwa[Nat.add_comm 1]
def Qmj (l:LI_)(s:Int):UM (l++[s])=UM l*(1+(s-1).toNat):=by
 induction l with
 | nil=>simp[UM]
 | cons x l h=>simp only[List.cons_append,UM,h,Nat.mul_assoc]
def Qmk (l:LI_):0<UM l:=by
 induction l with
 | nil=>decide
 | cons s r h=>exact Nat.mul_pos (by omega) h
def Qml (n:Qf)(m:L_ QBg)(h:Int){D outs:L_ LI_}(p:LI_)(hi:D.length<=16)(ho:outs.length<=16):(Ev n m h D outs p).length<=256:=by
 unfold Ev
 cases JE n m h p with
 | none=>simp
 | some x=>
  obtain⟨c,b⟩:=x
  simp only
  split
  ·refine Ym (Vc (c:=16) λe _=>?_) (YZ 16 hi)
   split
   ·rw[Gs];exact Ym (IA _ _) ho
   simp
  simp
def Bd (n:Qf):Prop:=∀t∈n.Tasks,(0:Int)∈Yq n t\/UM (Yq n t)<=1024
def Qmm {n:Qf}(m:L_ QBg)(D:Int)(h:Xn n)(hb:Bd n):(Jb n m D).length<=262144:=by
 by_cases e0:Jb n m D=[]
 ·rw[e0];simp
 obtain⟨o,ho⟩:=List.exists_mem_of_ne_nil _ e0
 obtain⟨_,e,he,_,_,_,b,hbd,_⟩:=Nz.1 ho
 obtain⟨k1,k2,_,_,k3,_⟩:=SI h hbd
 rw[he]at k1;cases k1
 unfold Jb
 rw[he]
 simp only
 refine Ym (Vc (c:=256) λp _=>Qml n m D p (Qdg _ _).2.1 (Qdg _ _).2.1) ?_
 have h1:=Qmi (Yq n b.task)
 rcases hb _ k2 with h2 | h2
 ·have:=k3.2 0 h2;omega
 omega
def Qkd {n:Qf}(m:L_ QBg)(h:Xn n)(D:Bd n):(Kk n m).length<=4194304:=by
 unfold Kk
 refine Ym (Vc (c:=262144) λk _=>Qmm m _ h D) ?_
 have:=h.tl
 rw[Sk];omega
def Qk2 (n:Qf)(k:Int)(t:QH)(b:Int)(h:Xn n)(ht:idx n.Tasks k=some t)(htm:t∈n.Tasks)(hb:WL n k=some b)(hle:b<=1024):(0:Int)∈Yq n t\/UM (Yq n t)<=1024:=by
 have hv:=(h.tk t htm).1
 have hsz:(Yq n t).length=t.Vars.length:=by simp[Yq]
 have ha:Jo n.Tasks k=some true:=by
  unfold Jo
  unfold idx at ht
  split at ht
  ·have:=(Xa.1 ht).1
   rw[Yu (by omega),Yu (by omega)];rfl
  cases ht
 have key:Qg (WL n k) λb=>b<=1024->(0:Int)∈Yq n t\/UM (Yq n t)<=1024:=by
  unfold WL
  rw[ha,Qd]
  simp only[GV,Xh]
  rw[ht,Qd]
  refine T0 (Qg.up t.Vars.length (λst=>st.2) (λst=>st.1=min ((UM ((Yq n t).take st.2.toNat):Nat):Int) 1025) (Q:=λq:Unit⊕Int=>(q=.inl ()->(0:Int)∈Yq n t)/\∀o,q=.inr o->o=min ((UM (Yq n t):Nat):Int) 1025) rfl (by show(1:Int)=min ((1:Nat):Int) 1025;omega) (λi st hi hn hJ=>?_)) (λq hq=>?_)
  ·obtain⟨out,x⟩:=st
   replace hi:x=(i:Int):=hi
   subst hi
   replace hJ:out=min ((UM ((Yq n t).take (i:Int).toNat):Nat):Int) 1025:=hJ
   rw[XP]at hJ
   show Qg (Ut t n out i) _
   unfold Ut
   refine T1 (λhc=>?_) (λhc=>T2 (Qm ⟨λe=>(by cases e),λo e=>?_⟩))
   ·simp only[QI]at hc
    have i1:i<t.Vars.length:=by omega
    rw[QT,Qx i1,Qd]
    refine T0 (Wz _ _ h.k.1).self λz hz=>?_
    obtain⟨hze,hz⟩:=hz
    have hs:(Yq n t)[i]? = some z:=by
     unfold Yq
     rw[XY,Qx i1,JD,hze];rfl
    refine T1 (λD=>T2 (Qm ⟨λ_=>?_,λo e=>by cases e⟩)) λD=>?_
    ·simp only[beq_iff_eq]at D
     subst D
     exact XE hs
    simp only[beq_eq_false_iff_ne]at D
    have hw:Qi ((i:Int)+1)=((i+1:Nat):Int):=Qv i1 (by unfold maxLen;omega:t.Vars.length<=maxLen)
    refine T2 (QK ⟨i1,hw,?_⟩)
    show min2 (Qi (out*z)) 1025=min ((UM ((Yq n t).take (Qi ((i:Int)+1)).toNat):Nat):Int) 1025
    rw[hw,XP,DV,hs]
    show _=min ((UM ((Yq n t).take i++[z]):Nat):Int) 1025
    rw[Qmj]
    have hp:=Qmk ((Yq n t).take i)
    generalize UM ((Yq n t).take i)=P at hJ hp ⊢
    obtain⟨Z,rfl⟩:∃Z:Nat,z=(Z:Int):=⟨z.toNat,by omega⟩
    rw[show 1+((Z:Int)-1).toNat=Z by omega]
    have hZ:0<Z:=by omega
    have h1:(P:Int)*(Z:Int)=((P*Z:Nat):Int):=by simp
    by_cases c:P<=1025
    ·have:out=(P:Int):=by rw[hJ];omega
     rw[this,h1]
     have h2:P*Z<=1025*1024:=Nat.mul_le_mul c (by omega)
     rw[Yf (by omega)]
     unfold min2;split<;>omega
    have:out=1025:=by rw[hJ];omega
    have h2:P<=P*Z:=Nat.le_mul_of_pos_right P hZ
    rw[this,Yf (by omega)]
    unfold min2;split<;>omega
   cases e
   simp only[Xm]at hc
   rw[hJ,Kl (by omega)]
  rcases q with q | q
  ·exact T2 λ_=>.inl (hq.1 rfl)
  refine T2 λhl=>.inr ?_
  have:=hq.2 q rfl
  omega
 exact Al key hb hle
def Qk3 (n1:Qf)(k2:Int)(h:Ka n1 k2=some 0):∃b,WL n1 k2=some b/\b<=1024:=by
 unfold Ka at h
 obtain⟨x5,_,h⟩:=Qz h
 rcases XS h with⟨_,h⟩|⟨_,h⟩
 ·cases h
 obtain⟨x7,_,h⟩:=Qz h
 rcases XS h with⟨c,h⟩|⟨_,h⟩
 ·simp only[Option.some.injEq]at h;rw[h]at c;cases c
 obtain⟨e9,he9,h⟩:=Qz h
 obtain⟨e10,he10,h⟩:=Qz h
 obtain⟨_,_,h⟩:=Qz h
 obtain⟨_,_,h⟩:=Qz h
 obtain⟨_,_,h⟩:=Qz h
 obtain⟨_,_,h⟩:=Qz h
 obtain⟨x15,D,h⟩:=Qz h
 have bad:∀a b:Int,0<a->x15=(a,b)->False:=λa b ha e=>by
  subst e
  simp only at h
  rcases XS h with⟨c,h⟩|⟨_,h⟩
  ·simp only[beq_iff_eq]at c;omega
  simp only[Option.some.injEq]at h;omega
 unfold Gp at D
 obtain⟨x20,_,D⟩:=Qz D
 rcases XS D with⟨_,D⟩|⟨_,D⟩
 ·exact(bad _ _ (by decide) (Option.some.inj D).symm).elim
 obtain⟨x22,_,D⟩:=Qz D
 rcases XS D with⟨_,D⟩|⟨_,D⟩
 ·exact(bad _ _ (by decide) (Option.some.inj D).symm).elim
 obtain⟨x24,h24,D⟩:=Qz D
 rcases XS D with⟨_,D⟩|⟨c,D⟩
 ·exact(bad _ _ (by decide) (Option.some.inj D).symm).elim
 obtain⟨x26,h26,D⟩:=Qz D
 rcases XS D with⟨c2,D⟩|⟨_,D⟩
 ·have e:=(Option.some.inj D).symm
  subst e
  simp only at h
  rcases XS h with⟨_,h⟩|⟨c3,_⟩
  ·simp only[Option.some.injEq]at h
   unfold AN at h26
   obtain⟨y,_,h26⟩:=Qz h26
   simp only[Option.some.injEq]at h26
   rw[<-h26]at c2 h
   simp only at h
   subst h
   cases c2
  cases c3
 obtain⟨x28,h28,D⟩:=Qz D
 rcases XS D with⟨_,D⟩|⟨c4,D⟩
 ·exact(bad _ _ (by decide) (Option.some.inj D).symm).elim
 unfold Cc at h28
 obtain⟨b,hb,h28⟩:=Qz h28
 simp only[Option.some.injEq]at h28
 rw[<-h28]at c4
 exact⟨b,hb,by simpa using c4⟩
def Qpa (n1:Qf)(h:Xn n1){p:GY}(D:Uc n1=some (0,p)):Bd n1:=by
 unfold Uc at D
 obtain⟨x6,_,D⟩:=Qz D
 rcases XS D with⟨c,D⟩|⟨_,D⟩
 ·simp only[Option.some.injEq,Prod.mk.injEq]at D;rw[D.1]at c;cases c
 obtain⟨x8,_,D⟩:=Qz D
 rcases XS D with⟨c,D⟩|⟨_,D⟩
 ·simp only[Option.some.injEq,Prod.mk.injEq]at D;rw[D.1]at c;cases c
 obtain⟨x10,_,D⟩:=Qz D
 rcases XS D with⟨c,D⟩|⟨_,D⟩
 ·simp only[Option.some.injEq,Prod.mk.injEq]at D;rw[D.1]at c;cases c
 obtain⟨x12,h12,D⟩:=Qz D
 rcases XS D with⟨c,D⟩|⟨c,D⟩
 ·simp only[Option.some.injEq,Prod.mk.injEq]at D;rw[D.1]at c;cases c
 simp only[KI]at c
 obtain⟨r,hr,hr2⟩:=QeB n1.Tasks n1 h.k h.k.2.2.1
 rw[h12]at hr;cases hr
 intro t ht
 have htm:=ht
 obtain⟨j,hj,rfl⟩:=Hb.1 ht
 obtain⟨b,hb,hb2⟩:=Qk3 n1 j (hr2 c j hj)
 exact Qk2 n1 j _ b h (by rw[QT,Qx hj]) htm hb hb2
def Qon (n1:Qf)(m:L_ QBg)(h:Xn n1)(D:Cd n1 m=some true):Bd n1:=by
 unfold Cd at D
 obtain⟨x5,_,D⟩:=Qz D
 obtain⟨x6,_,D⟩:=Qz D
 rcases XS D with⟨_,D⟩|⟨_,D⟩
 ·cases D
 obtain⟨x11,h11,D⟩:=Qz D
 obtain⟨x12,h12,D⟩:=Qz D
 unfold OH at D
 rcases XS D with⟨_,D⟩|⟨c,_⟩
 ·cases D
 subst c
 unfold OF at h12
 rcases XS h12 with⟨_,h12⟩|⟨c,_⟩
 ·cases h12
 simp only[KI]at c
 obtain⟨a,b⟩:=x11
 simp only at c
 subst c
 exact Qpa n1 h h11
def Yg (n:Qf)(m:L_ Bag):Prop:=JU n 1024 m/\HE n m
def Yg.len {n:Qf}{m:L_ Bag}(D:Yg n m)(h:Xn n):Xe (Xe λ_=>True) m:=D.1.len h (by omega)
def Qnq {n:Qf}{m:L_ Bag}{c:Nat}(h:Xn n)(hm:JU n c m)(hl:HE n m):Yg n m:=by
 refine⟨⟨hm.1,λb hb=>?_⟩,hl⟩
 have hr:=(hm.2 b hb).1
 refine⟨hr,?_⟩
 obtain⟨j,hj,rfl⟩:=Hb.1 hb
 have hj2:j<n.Places.length:=by have:=hm.1;omega
 by_cases c0:(m[j]).length=0
 ·omega
 have D:(m[j]).length-1<(m[j]).length:=by omega
 have h1:=Qj7 hr.1 (a:=0) (λp hp=>(hr.2 p hp).1) ((m[j]).length-1) D
 have h2:=FJ hr.1.nd (XV D)
 have h3:=(hr.2 _ (XV D)).2.1
 obtain⟨z,hz,hk⟩:=hl j _ _ (Qx hj) (Qx hj2) _ (by rw[h2];omega)
 have:=Al (Wz _ _ h.k.1) hz
 omega
def QaE {n:Qf}{m x:L_ Bag}{o:Qk}(h:Xn n)(hg:Yg n m)(ho:Wc n o)(hD:XU n m o=some (x,0)):Yg n x:=by
 obtain⟨hm,hl⟩:=hg
 have hpl:=h.pl
 have hm1:=hm.1
 have hx:=Al (QkV n m o 1024 h hm (by omega) ho) hD rfl
 obtain⟨t,hT,hG⟩:=Qjt hD
 obtain⟨hCk,need,hN,hL⟩:=QgK hT
 obtain⟨hnd,hndl⟩:=Al (Qkb n o h ho) hN rfl
 have ht:=Al (Qmc n m o 1024 h hm (by omega) ho) hT rfl
 obtain⟨_,eL⟩:=(Al (QjU n m need 1024 20 h hm hnd (by omega)) hL).1 rfl
 have htl:HE n t:=λj b p hb hp k hk=>by
  have hj:=(Xa.1 hp).1
  obtain⟨a,ha,ha1,ha2⟩:=QiJ hm hj
  obtain⟨u,hu,hu1,hu2⟩:=QiJ hnd hj
  obtain⟨p',D,hp2⟩:=eL j a u ha hu
  have D:t[j]? = some p':=D
  rw[hb]at D;cases D
  have q:=Qoj (by omega) hp2
  have:=hu1.cnt k
  have:=q.2.2.2.2 k
  exact hl j a p ha hp k (by omega)
 exact Qnq h hx (Al (Qnn n t o (1024+20) h ht htl (by omega) ho) hG rfl)
def XI : Nat->Int->LI_
 | 0,_=>[]
 | k+1,x=>IntKind.u8.wrap (Jm .i64 x (Qi (8*(k:Int))))::XI k x
def JT (k:Nat)(x:Int):(XI k x).length=k:=by
 induction k with
 | zero=>rfl
 | succ k h=>simp[XI,h]
def QhD {α β:Type}{f:α->L_ β}{c:Nat}:∀{l:L_ α},(∀x∈l,(f x).length=c)->(l.flatMap f).length=l.length*c:=by
 intro l
 induction l with
 | nil=>intro _;simp
 | cons x l ih=>
  intro h
  have h1:=ih λy D=>h y (XZ _ D)
  have h2:=h x XR
  rw[Ms,Kc,DU,Nat.succ_mul]
  omega
def Qnr (e:Int)(h:Nat)(D:LI_)(hs:h<=8)(hl:D.length+h<=4294967296):QE (λst=>Uj e st.1 st.2) ((Qi ((h:Int)-1)),D)=some (D++XI h e):=by
 obtain⟨r,h1,h2⟩:=(Qg.up (body:=λst:Int×LI_=>Uj e st.1 st.2) h (λst=>(h:Int)-1-st.1) (λst=>-1<=st.1/\st.2.length+(st.1+1).toNat=D.length+h/\st.2++XI (st.1+1).toNat e=D++XI h e) (Q:=λq:LI_=>q=D++XI h e) (s0:=((Qi ((h:Int)-1)),D))
  (by show(h:Int)-1-Qi ((h:Int)-1)=0;rw[Yf (by omega)];omega) (by
   show -1<=Qi ((h:Int)-1)/\D.length+(Qi ((h:Int)-1)+1).toNat=_/\D++XI (Qi ((h:Int)-1)+1).toNat e=_
   rw[Yf (by omega),show((h:Int)-1+1).toNat=h by omega]
   exact⟨by omega,rfl,rfl⟩) (λi st hi hn hJ=>by
   obtain⟨k,l⟩:=st
   replace hi:(h:Int)-1-k=(i:Int):=hi
   obtain⟨j0,j1,j2⟩:-1<=k/\l.length+(k+1).toNat=D.length+h/\l++XI (k+1).toNat e=D++XI h e:=hJ
   show Qg (Uj e k l) _
   unfold Uj
   refine T1 (λhc=>?_) (λhc=>T2 (Qm ?_))
   ·simp only[QI]at hc
    have hw:Qi (8*k)=8*k:=Yf (by omega)
    have hw2:Qi (k-1)=k-1:=Yf (by omega)
    have e1:(k+1).toNat=k.toNat+1:=by omega
    refine T0 (T5 (by rw[hw];simp only[QI];omega)) λ_ _=>?_
    refine T0 (T5 (by simp;omega)) λ_ _=>?_
    refine T2 (QK ⟨by omega,by show(h:Int)-1-Qi (k-1)=_;rw[hw2];omega,?_⟩)
    show -1<=Qi (k-1)/\(l++[_]).length+(Qi (k-1)+1).toNat=_/\(l++[_])++XI (Qi (k-1)+1).toNat e=_
    rw[hw2,show(k-1+1).toNat=k.toNat by omega]
    rw[e1,XI,show((k.toNat:Nat):Int)=k by omega]at j2
    refine⟨by omega,by simp;omega,?_⟩
    rw[WI];exact j2
   simp only[Xm]at hc
   rw[show(k+1).toNat=0 by omega,XI,Vr]at j2
   exact j2))
 rw[h1,h2]
def Qjw (D:LI_)(h:Nat)(l:LI_)(hs:h<=8)(hl:D.length+8*l.length<=4294967296):Ac D h l=some (D++l.flatMap (XI h)):=by
 unfold Ac
 obtain⟨r,h1,h2⟩:=(Qg.up (body:=λst:Int×LI_=>CF l h st.1 st.2) l.length (λst=>st.1) (λst=>st.2=D++(l.take st.1.toNat).flatMap (XI h)) (Q:=λq:LI_=>q=D++l.flatMap (XI h)) (s0:=((0:Int),D)) rfl (by simp) (λi st hi hn hJ=>by
  obtain⟨x,a⟩:=st
  replace hi:x=(i:Int):=hi
  subst hi
  replace hJ:a=D++(l.take (i:Int).toNat).flatMap (XI h):=hJ
  rw[XP]at hJ
  show Qg (CF l h i a) _
  unfold CF
  refine T1 (λhc=>?_) (λhc=>T2 (Qm ?_))
  ·simp only[QI]at hc
   have i1:i<l.length:=by omega
   have hlen:a.length=D.length+i*h:=by
    rw[hJ,Kc,QhD (c:=h) λx _=>JT h x,WJ,Fe (by omega)]
   have hm:i*h<=i*8:=Nat.mul_le_mul_left i hs
   rw[QT,Qx i1,Qd,Qnr _ h a hs (by omega),Qd]
   unfold Tf
   have hw:Qi ((i:Int)+1)=((i+1:Nat):Int):=Qv i1 (by unfold maxLen;omega:l.length<=maxLen)
   refine T2 (QK ⟨i1,hw,?_⟩)
   show a++XI h l[i]=D++(l.take (Qi ((i:Int)+1)).toNat).flatMap (XI h)
   rw[hw,XP,DV,Qx i1,hJ,Qdq,WI]
   simp
  simp only[Xm]at hc
  rw[hJ,Kl (by omega)]))
 rw[h1,h2];rfl
def Qoo (h:Nat)(l:LI_):RE h l=Ac [] h l:=rfl
def OQ (b:Bag):LI_:=XI 2 b.length++b.flatMap λp=>XI 4 p.1++XI 4 p.2
def QdD (m:L_ Bag):LI_:=XI 1 m.length++m.flatMap OQ
def Qfu (b:Bag):(OQ b).length=2+8*b.length:=by
 unfold OQ
 rw[Kc,JT,QhD (c:=8) λx _=>by simp[JT]]
 omega
def Qmn {n:Qf}{m:L_ Bag}(h:Xn n)(hg:Yg n m)(hml:m.length<=64):Ad m=some (QdD m,0):=by
 unfold Ad
 rw[JM (by omega),Xh,show(1:Int)=((1:Nat):Int)from rfl,Qoo,Qjw [] 1 _ (by omega) (by simp),Qd]
 have hb:∀b∈m,Rt b/\b.length<=1024:=hg.1.2
 have hmem:∀b∈m,∀p∈b,p.1<=1024:=λb hb' p hp=>by
  obtain⟨j,hj,rfl⟩:=Hb.1 hb'
  have hj2:j<n.Places.length:=by have:=hg.1.1;omega
  have hr:=(hb _ hb').1
  have h2:=FJ hr.1.nd hp
  have h3:=(hr.2 _ hp).2.1
  obtain⟨z,hz,hk⟩:=hg.2 j _ _ (Qx hj) (Qx hj2) p.1 (by rw[h2];omega)
  have:=Al (Wz _ _ h.k.1) hz
  omega
 have lens:∀i,i<=m.length->((m.take i).flatMap OQ).length<=i*8194:=λi hi=>by
  have:=Vc (f:=OQ) (c:=8194) (l:=m.take i) λb hb'=>by
   have:=(hb b (Bj hb')).2
   rw[Qfu];omega
  rw[WJ,Fe hi]at this
  exact this
 obtain⟨r,h1,h2⟩:=(Qg.up (body:=λst:Int×LI_=>CH m st.1 st.2) m.length (λst=>st.1) (λst=>st.2=XI 1 m.length++(m.take st.1.toNat).flatMap OQ) (Q:=λq:Unit⊕LI_=>q=.inr (QdD m)) (s0:=((0:Int),[]++[(m.length:Int)].flatMap (XI 1))) rfl (by simp) (λi st hi hn hJ=>by
  obtain⟨x,a⟩:=st
  replace hi:x=(i:Int):=hi
  subst hi
  replace hJ:a=XI 1 m.length++(m.take (i:Int).toNat).flatMap OQ:=hJ
  rw[XP]at hJ
  show Qg (CH m i a) _
  unfold CH
  refine T1 (λhc=>?_) (λhc=>T2 (Qm ?_))
  ·simp only[QI]at hc
   have i1:i<m.length:=by omega
   have hbm:=XV i1
   have hr:=(hb _ hbm).1
   have hrl:=(hb _ hbm).2
   have hal:a.length<=1+i*8194:=by
    have:=lens i (by omega)
    rw[hJ,Kc,JT];omega
   rw[QT,Qx i1,Qd]
   have g1:MR m[i]=some false:=by
    unfold MR
    rw[Cn _ (by unfold maxLen;omega),Qd,DH.2 hr]
    simp only[GV,Xh]
    rw[JM (by omega),Xh]
    by_cases c0:(m[i]).length=0
    ·rw[JM (by omega)];rfl
    have D:(m[i]).length-1<(m[i]).length:=by omega
    rw[Yu (by omega),QY,Yf (by omega),show((m[i]).length:Int)-1=(((m[i]).length-1:Nat):Int) by omega,QT,Qx D,Qd]
    have:=hmem _ hbm _ (XV D)
    rw[JM (by omega)]
   rw[g1,Qd]
   unfold Ti
   rw[Xh,show(2:Int)=((2:Nat):Int)from rfl,Qjw a 2 _ (by omega) (by simp;omega),Qd]
   have inner:Qg (QE (λst=>CG m[i] st.1 st.2) ((0:Int),a++[((m[i]).length:Int)].flatMap (XI 2))) λq:LI_=>q=a++OQ m[i]:=by
    refine Qg.up (m[i]).length (λst=>st.1) (λst=>st.2=a++(XI 2 (m[i]).length++((m[i]).take st.1.toNat).flatMap λp=>XI 4 p.1++XI 4 p.2)) rfl (by simp) (λk st hk hn2 hK=>?_)
    obtain⟨x,c⟩:=st
    replace hk:x=(k:Int):=hk
    subst hk
    replace hK:c=a++(XI 2 (m[i]).length++((m[i]).take (k:Int).toNat).flatMap λp=>XI 4 p.1++XI 4 p.2):=hK
    rw[XP]at hK
    show Qg (CG m[i] k c) _
    unfold CG
    refine T1 (λhc2=>?_) (λhc2=>T2 (Qm ?_))
    ·simp only[QI]at hc2
     have k1:k<(m[i]).length:=by omega
     have hcl:c.length=a.length+2+k*8:=by
      rw[hK,Kc,Kc,JT,QhD (c:=8) λx _=>by simp[JT],WJ,Fe (by omega)];omega
     rw[QT,Qx k1,Qd,show(4:Int)=((4:Nat):Int)from rfl,Qjw c 4 _ (by omega) (by simp;omega),Qd]
     have hw:Qi ((k:Int)+1)=((k+1:Nat):Int):=Qv k1 (by unfold maxLen;omega:(m[i]).length<=maxLen)
     refine T2 (QK ⟨k1,hw,?_⟩)
     show c++[(m[i])[k].1,(m[i])[k].2].flatMap (XI 4)=a++(XI 2 (m[i]).length++((m[i]).take (Qi ((k:Int)+1)).toNat).flatMap λp=>XI 4 p.1++XI 4 p.2)
     rw[hw,XP,DV,Qx k1,hK,Qdq]
     simp
    simp only[Xm]at hc2
    rw[hK,Kl (by omega)];rfl
   obtain⟨q,hq1,rfl⟩:=inner
   rw[hq1,Qd]
   unfold Th
   have hw:Qi ((i:Int)+1)=((i+1:Nat):Int):=Qv i1 (by unfold maxLen;omega:m.length<=maxLen)
   refine T2 (QK ⟨i1,hw,?_⟩)
   show a++OQ m[i]=XI 1 m.length++(m.take (Qi ((i:Int)+1)).toNat).flatMap OQ
   rw[hw,XP,DV,Qx i1,hJ,Qdq,WI]
   simp
  simp only[Xm]at hc
  rw[hJ,Kl (by omega)];rfl))
 rw[h1,h2];rfl
def XQ (m:L_ Bag):ByteArray:=He (if m.length<=64 then QdD m else [])
def QgL {n:Qf}{m:L_ Bag}(h:Xn n)(D:Yg n m):BS m=some (XQ m):=by
 unfold BS XQ
 by_cases c:m.length<=64
 ·rw[Qmn h D c,if_pos c];rfl
 rw[if_neg c]
 unfold Ad
 rw[Yu (by omega)];rfl
def BB (n:Qf)(w:Int)(x:L_ Bag)(o:Qk):O_ (L_ Bag):=if o.Task=w then none else match XU n x o with
 | some (y,c)=>if c=0 then some y else none
 | none=>none
def PV (n:Qf)(w:Int)(x:L_ Bag):L_ (L_ Bag):=(Kk n x).filterMap (BB n w x)
def Qmo {n:Qf}{w:Int}{x y:L_ Bag}{o:Qk}(h:BB n w x o=some y):o.Task≠w/\XU n x o=some (y,0):=by
 unfold BB at h
 split at h
 ·cases h
 rename_i c
 refine⟨c,?_⟩
 cases e:XU n x o with
 | none=>rw[e]at h;cases h
 | some r=>
  obtain⟨a,b⟩:=r
  rw[e]at h
  simp only at h
  split at h
  ·rename_i D;cases h;rw[D]
  cases h
def Qmp {n:Qf}{w:Int}{x:L_ Bag}(h:Xn n)(D:Yg n x):∀y∈PV n w x,Yg n y:=λy hy=>by
 obtain⟨o,ho,he⟩:=List.mem_filterMap.1 hy
 exact QaE h D (Vb h (D.len h) ho) (Qmo he).2
def FM (mm:L_ (ByteArray×Bool))(l:L_ (L_ Bag)):Prop:=∀k,(Qs mm k).getD false=l.any λy=>decide (XQ y=k)
def FM.add {mm:L_ (ByteArray×Bool)}{l:L_ (L_ Bag)}(h:FM mm l)(x:L_ Bag):FM (XG OT mm (XQ x) true) (l++[x]):=λk=>by
 rw[Wa,List.any_append]
 by_cases c:k=XQ x
 ·subst c
  rw[if_pos rfl]
  simp
 rw[if_neg c,h k]
 have:decide (XQ x=k)=false:=JM λe=>c e.symm
 simp[this]
def XM (h:Int):Nat:=(min2 (max2 0 h) 4096).toNat
def Qke (h:Int):(XM h:Int)=min2 (max2 0 h) 4096/\XM h<=4096:=by
 unfold XM min2 max2
 split<;>split<;>omega
def Iu (n:Qf)(w h:Int)(m:L_ Bag):L_ (L_ Bag)×Bool:=if XM h=0 then([],false)else Ck XQ (PV n w) (XM h) (XM h+1) [m] 0
def Qk4 {n:Qf}{m:L_ Bag}(w D:Int)(h:Xn n)(hb:Bd n)(hg:Yg n m):IQ n m w D=some (Iu n w D m):=by
 have hm:=Qke D
 have hpl:=h.pl
 unfold IQ Iu
 by_cases c0:XM D=0
 ·rw[if_pos c0,show(min2 (max2 0 D) 4096==0)=true by rw[<-hm.1,c0];rfl];rfl
 rw[if_neg c0,show(min2 (max2 0 D) 4096==0)=false by simp;omega]
 simp only[Xh]
 have hm1:=hg.1.1
 rw[QgL h hg,Qd,Ir m (by omega) (λb hb=>by have:=(hg.1.2 b hb).2;omega),Qd]
 generalize hR:Ck XQ (PV n w) (XM D) (XM D+1) [m] 0=R
 have main:Qg (QE (λst=>Bt n w D st.1 st.2.1 st.2.2) ((0:Int),(XG OT ([]:QSB) (XQ m) true),[m])) λq:L_ (L_ Bag)⊕L_ (L_ Bag)=>(∀l,q=.inl l->R=(l,false))/\∀l,q=.inr l->R=(l,true):=by
  refine Qg.up (XM D) (λst=>st.1) (λst=>FM st.2.1 st.2.2/\(∀x∈st.2.2,Yg n x)/\st.2.2.length<=XM D/\Ck XQ (PV n w) (XM D) (XM D+1-st.1.toNat) st.2.2 st.1.toNat=R) rfl ⟨?_,?_,?_,hR⟩ (λi st hi hn hJ=>?_)
  ·exact FM.add (mm:=[]) (l:=[]) (λk=>rfl) m
  ·intro x hx;simp at hx;subst hx;exact hg
  ·show 1<=_;omega
  obtain⟨a,mm,l⟩:=st
  replace hi:a=(i:Int):=hi
  subst hi
  obtain⟨j1,j2,j3,j4⟩:FM mm l/\(∀x∈l,Yg n x)/\l.length<=XM D/\Ck XQ (PV n w) (XM D) (XM D+1-(i:Int).toNat) l (i:Int).toNat=R:=hJ
  rw[XP,show XM D+1-i=(XM D-i)+1 by omega,Ck]at j4
  show Qg (Bt n w D i mm l) _
  unfold Bt
  refine T1 (λhc=>?_) (λhc=>T2 (Qm ⟨λl' e=>(by cases e),λl' e=>?_⟩))
  ·simp only[QI]at hc
   have i1:i<l.length:=by omega
   have hx:=Qx i1
   have hgx:=j2 _ (XV i1)
   rw[QT,hx,Qd]
   rw[hx]at j4
   simp only at j4
   generalize l[i]=x at hx hgx j4 ⊢
   have hal:=Qkd x h hb
   rw[Qjv n x 9223372036854775807 h (hgx.len h) (by omega) (by omega) (.inr (by omega)),Qd]
   have hxl:=hgx.len h
   have e0:(Kk n x).take (9223372036854775807:Int).toNat=Kk n x:=Kl (by omega)
   rw[e0]
   have hok:=λo=>Vb (o:=o) h hxl
   have inner:Qg (QE (λst=>Bs (Kk n x) w i n D st.1 st.2.1 st.2.2) ((0:Int),mm,l)) λq:L_ (L_ Bag)⊕(L_ (ByteArray×Bool)×L_ (L_ Bag))=>
     (∀o,q=.inl o->Wb XQ (XM D) l (PV n w x)=.inl o)/\∀mm' o,q=.inr (mm',o)->Wb XQ (XM D) l (PV n w x)=.inr o/\FM mm' o/\(∀x∈o,Yg n x)/\o.length<=XM D:=by
    generalize hT:Wb XQ (XM D) l (PV n w x)=T
    have hT:Wb XQ (XM D) l ((Kk n x).filterMap (BB n w x))=T:=hT
    generalize Kk n x=X at hT hal hok ⊢
    refine Qg.up X.length (λst=>st.1) (λst=>FM st.2.1 st.2.2/\(∀x∈st.2.2,Yg n x)/\st.2.2.length<=XM D/\st.2.2[i]? = some x/\Wb XQ (XM D) st.2.2 ((X.drop st.1.toNat).filterMap (BB n w x))=T) rfl ⟨j1,j2,j3,hx,hT⟩ (λk st hk hn2 hK=>?_)
    obtain⟨a,mm,l⟩:=st
    replace hk:a=(k:Int):=hk
    subst hk
    obtain⟨k1,k2,k3,k4,k5⟩:FM mm l/\(∀x∈l,Yg n x)/\l.length<=XM D/\l[i]? = some x/\Wb XQ (XM D) l ((X.drop (k:Int).toNat).filterMap (BB n w x))=T:=hK
    rw[XP]at k5
    show Qg (Bs X w i n D k mm l) _
    unfold Bs
    refine T1 (λhc2=>?_) (λhc2=>T2 (Qm ⟨λo e=>(by cases e),λmm' o e=>?_⟩))
    ·simp only[QI]at hc2
     have i2:k<X.length:=by omega
     have hw:Qi ((k:Int)+1)=((k+1:Nat):Int):=Qv i2 (by unfold maxLen;omega:X.length<=maxLen)
     have next:∀mm' l',FM mm' l'->(∀x∈l',Yg n x)->l'.length<=XM D->l'[i]? = some x->Wb XQ (XM D) l' ((X.drop (k+1)).filterMap (BB n w x))=T->
       Qg (DK k mm' l') λo=>(∀s',o=.inl s'->k<X.length/\s'.1=((k+1:Nat):Int)/\FM s'.2.1 s'.2.2/\(∀x∈s'.2.2,Yg n x)/\s'.2.2.length<=XM D/\s'.2.2[i]? = some x/\Wb XQ (XM D) s'.2.2 ((X.drop s'.1.toNat).filterMap (BB n w x))=T)/\
        ∀r:L_ (L_ Bag)⊕(L_ (ByteArray×Bool)×L_ (L_ Bag)),o=.inr r->(∀o,r=.inl o->T=.inl o)/\∀mm' o,r=.inr (mm',o)->T=.inr o/\FM mm' o/\(∀x∈o,Yg n x)/\o.length<=XM D:=λmm' l' f1 f2 f3 f4 f5=>by
      unfold DK
      refine T2 (QK (ix:=λst:Int×L_ (ByteArray×Bool)×L_ (L_ Bag)=>st.1) (J:=λst:Int×L_ (ByteArray×Bool)×L_ (L_ Bag)=>FM st.2.1 st.2.2/\(∀x∈st.2.2,Yg n x)/\st.2.2.length<=XM D/\st.2.2[i]? = some x/\Wb XQ (XM D) st.2.2 ((X.drop st.1.toNat).filterMap (BB n w x))=T) ⟨i2,hw,f1,f2,f3,f4,?_⟩)
      show Wb XQ (XM D) l' ((X.drop (Qi ((k:Int)+1)).toNat).filterMap (BB n w x))=T
      rw[hw,XP];exact f5
     rw[QT,Qx i2,Qd]
     rw[Mr i2,List.filterMap_cons]at k5
     have hox:=hok _ (XV i2)
     generalize X[k]=o at k5 hox ⊢
     refine T1 (λhc3=>?_) λhc3=>?_
     ·have:BB n w x o=none:=by unfold BB;rw[if_pos (by simpa using hc3)]
      rw[this]at k5
      exact next mm l k1 k2 k3 k4 k5
     simp only[beq_eq_false_iff_ne]at hc3
     rw[QT,k4,Qd]
     obtain⟨⟨y,c⟩,hD,_⟩:=QkV n x o 1024 h hgx.1 (by omega) hox
     rw[hD,Qd]
     by_cases cc:c=0
     ·subst cc
      have hgy:=QaE h hgx hox hD
      have:BB n w x o=some y:=by unfold BB;rw[if_neg hc3,hD];rfl
      rw[this]at k5
      simp only at k5
      rw[Wb]at k5
      unfold LE
      simp only[show((0:Int) != 0)=false from rfl,Xh]
      rw[QgL h hgy,Qd,k1 (XQ y),Qd]
      unfold LF
      refine T1 (λhh=>?_) λhh=>?_
      ·rw[if_pos (show Qhv XQ l y=true from hh)]at k5
       exact next mm l k1 k2 k3 k4 k5
      rw[if_neg (by rw[show Qhv XQ l y=false from hh];decide)]at k5
      refine T1 (λhf=>?_) λhf=>?_
      ·simp only[beq_iff_eq]at hf
       rw[if_pos (by omega)]at k5
       exact T2 (Qm ⟨λo e=>(by cases e;exact k5.symm),λmm' o e=>by cases e⟩)
      simp only[beq_eq_false_iff_ne]at hf
      rw[if_neg (by omega)]at k5
      simp only
      rw[QgL h hgy,Qd]
      refine T0 (T5 (by simp;omega)) λ_ _=>?_
      refine next _ _ (k1.add y) (λz hz=>?_) (by simp;omega) (by rw[Jx ((Xa.1 k4).1)];exact k4) k5
      rcases YI.1 hz with hz | hz
      ·exact k2 z hz
      simp at hz;subst hz;exact hgy
     have:BB n w x o=none:=by unfold BB;rw[if_neg hc3,hD];simp only;rw[if_neg cc]
     rw[this]at k5
     unfold LE
     simp only[show(c != 0)=true by simpa using cc,QY,Qd]
     unfold LF
     exact next mm l k1 k2 k3 k4 k5
    cases e
    simp only[Xm]at hc2
    rw[QfB (by omega),List.filterMap_nil,Wb]at k5
    exact⟨k5.symm,k1,k2,k3⟩
   obtain⟨q,hq1,hq2,hq3⟩:=inner
   rw[hq1,Qd]
   rcases q with q | ⟨mm',o⟩
   ·have:=hq2 q rfl
    rw[this]at j4
    show Qg (LG q) _
    unfold LG
    exact T2 (Qm ⟨λl' e=>(by cases e;exact j4.symm),λl' e=>by cases e⟩)
   obtain⟨f1,f2,f3,f4⟩:=hq3 mm' o rfl
   rw[f1]at j4
   simp only at j4
   show Qg (LH i mm' o) _
   unfold LH
   have hw:Qi ((i:Int)+1)=((i+1:Nat):Int):=Qv (by omega:i<XM D) (by unfold maxLen;omega)
   refine T2 (QK ⟨by omega,hw,f2,f3,f4,?_⟩)
   show Ck XQ (PV n w) (XM D) (XM D+1-(Qi ((i:Int)+1)).toNat) o (Qi ((i:Int)+1)).toNat=R
   rw[hw,XP,show XM D+1-(i+1)=XM D-i by omega]
   exact j4
  cases e
  simp only[Xm]at hc
  rw[QfC (by omega)]at j4
  exact j4.symm
 obtain⟨q,hq1,hq2,hq3⟩:=main
 rw[hq1,Qd]
 rcases q with q | q
 ·rw[hq2 q rfl];rfl
 rw[hq3 q rfl];rfl
def QaF {l:LI_}{j:Nat}(h:j<l.length):l.toArray[j]! = l[j]:=by
 rw[getElem!_pos l.toArray j (by simpa using h)];simp
def Qmq {l:LI_}{x:Int}(h:x∈Jz l):x∈l:=by
 unfold Jz Lib.compact Lib.compactUpTo at h
 obtain⟨j,D,rfl⟩:=Yh.1 h
 have:=Gu.1 (Ex.1 D).1
 rw[QaF this];exact XV this
def Qmr {l:LI_}(h:l.Pairwise (·<=·)):(Jz l).Pairwise (·<·):=by
 have hp:=QfE.1 h
 unfold Jz Lib.compact Lib.compactUpTo
 rw[NH,List.pairwise_filter,QfE]
 intro i j hi hj hij _ D
 rw[Sk]at hi hj
 rw[Sj]at D
 rw[Sj,Sj,QaF hi,QaF hj]
 unfold Lib.keeps at D
 have D:=Xw D
 rcases D with D | D
 ·omega
 have hj1:j-1<l.length:=by omega
 rw[QaF hj,QaF hj1]at D
 have h1:=hp (j-1) j hj1 hj (by omega)
 by_cases c:i=j-1
 ·subst c;omega
 have h2:=hp i (j-1) hi hj1 (by omega)
 omega
def Qns (l:LI_):(JG l).Pairwise (·<=·):=Zv l
def Qms {l:LI_}{x:Int}:x∈JG l↔x∈l:=by
 exact(NR l).mem_iff
def QhE (m:L_ Bag)(k:Int):Prop:=0<=k/\k<m.length/\m[k.toNat]? = some []
def Qk5 (n:Qf)(m:L_ Bag)(task:Int)(h:Xn n):Qg (Gk n m task) λe=>(∀k∈e,QhE m k)/\e.Pairwise (·<·):=by
 unfold Gk
 refine T1 (λ_=>T2 ⟨λk h=>(by cases h),List.Pairwise.nil⟩) λhc=>?_
 simp only[KC,Xm]at hc
 refine T0 (T4 (by omega) (by omega)) λe he=>?_
 have hil:=(h.tk e he).2.1
 refine T0 (Qg.up e.Ins.length (λst=>st.1) (λst=>(st.2.length:Int)<=st.1/\∀k∈st.2,QhE m k) (Q:=λq:LI_=>q.length<=16/\∀k∈q,QhE m k) rfl ⟨by simp,λk h=>by cases h⟩ (λi st hi hn hJ=>?_)) (λq hq=>?_)
 ·obtain⟨x,l⟩:=st
  replace hi:x=(i:Int):=hi
  subst hi
  obtain⟨j1,j2⟩:(l.length:Int)<=(i:Int)/\∀k∈l,QhE m k:=hJ
  show Qg (LC e m i l) _
  unfold LC
  refine T1 (λhc2=>?_) (λhc2=>T2 (Qm ⟨by omega,j2⟩))
  simp only[QI]at hc2
  have i1:i<e.Ins.length:=by omega
  have hw:Qi ((i:Int)+1)=((i+1:Nat):Int):=Qv i1 (by unfold maxLen;omega:e.Ins.length<=maxLen)
  rw[QT,Qx i1,Qd]
  refine T0 (P:=λy=>y=true->QhE m (e.Ins[i]).Place) ?_ λy hy=>?_
  ·unfold RZ
   refine T1 (λc1=>?_) λ_=>T2 λh=>by cases h
   refine T1 (λc2=>?_) λ_=>T2 λh=>by cases h
   simp only[QI]at c1 c2
   have D:(e.Ins[i]).Place.toNat<m.length:=by omega
   rw[Gq c1,Qx D,Qd]
   refine T2 λhz=>⟨c1,c2,?_⟩
   simp only[beq_iff_eq]at hz
   rw[Qx D,Iz.1 (show(m[(e.Ins[i]).Place.toNat]).length=0 by omega)]
  unfold Sa Br
  refine T1 (λc1=>?_) λ_=>?_
  ·refine T0 (T5 (by simp;omega)) λ_ _=>?_
   refine T2 (QK ⟨i1,hw,by show((l++[_]).length:Int)<=Qi _;rw[hw];simp;omega,λk D=>?_⟩)
   rcases YI.1 D with D | D
   ·exact j2 k D
   simp at D;subst D;exact hy c1
  exact T2 (QK ⟨i1,hw,by show(l.length:Int)<=Qi _;rw[hw];omega,j2⟩)
 obtain⟨q1,q2⟩:=hq
 show Qg (LD q) _
 unfold LD
 rw[Qjo _ (by omega),Qd]
 refine T0 (T5 (by simp[Cu])) λ_ _=>?_
 unfold KT
 rw[GE (by rw[Cu];omega),Qd,Qd]
 exact T2 ⟨λk D=>q2 k (Qms.1 (Qmq D)),Qmr (Qns q)⟩
def Rx (n:Qf)(m:L_ Bag)(h:Int):LI_:=(Gk n m h).getD []
def Qnt (n:Qf)(m:L_ Bag)(D:Int)(h:Xn n):Gk n m D=some (Rx n m D)/\(∀k∈Rx n m D,QhE m k)/\(Rx n m D).Pairwise (·<·):=by
 obtain⟨e,h1,h2⟩:=Qk5 n m D h
 unfold Rx
 rw[h1];exact⟨rfl,h2⟩
def PA (e:LI_)(x:L_ Bag):Bool:=e.any λk=>decide (0<(((x[k.toNat]?).getD []).length:Int))
def Qpb (e:LI_)(x:L_ Bag)(he:e.length<=maxLen)(hk:∀k∈e,0<=k/\k<x.length):JQ e x=some (PA e x):=by
 unfold JQ DT
 obtain⟨q,h1,h2⟩:=(Qg.up (body:=λst=>JP e x st) e.length (λst=>st) (λst=>PA (e.take st.toNat) x=false) (Q:=λq:Int⊕Unit=>(∀j,q=.inl j->0<=j/\PA e x=true)/\(q=.inr ()->PA e x=false)) (s0:=(0:Int)) rfl rfl (λi st hi hn hJ=>by
  replace hi:st=(i:Int):=hi
  subst hi
  replace hJ:PA (e.take (i:Int).toNat) x=false:=hJ
  rw[XP]at hJ
  show Qg (JP e x i) _
  unfold JP Nf
  refine T1 (λhc=>?_) (λhc=>T2 (Qm ⟨λj e=>(by cases e),λ_=>?_⟩))
  ·simp only[QI]at hc
   have i1:i<e.length:=by omega
   have h:=XV i1
   obtain⟨k1,k2⟩:=hk _ h
   have hkk:(e[i]).toNat<x.length:=by omega
   rw[QT,Qx i1,Qd,Gq k1,Qx hkk]
   simp only[Qd]
   have D:decide (0<(((x[(e[i]).toNat]?).getD []).length:Int))=decide (0<((x[(e[i]).toNat]).length:Int)):=by rw[Qx hkk];rfl
   refine T1 (λhc2=>T2 (Qm ⟨λj e'=>(by cases e';exact⟨by omega,Iw.2 ⟨_,h,by rw[D];exact hc2⟩⟩),λe=>by cases e⟩)) λhc2=>?_
   have hw:Qi ((i:Int)+1)=((i+1:Nat):Int):=Qv i1 he
   refine T2 (QK ⟨i1,hw,?_⟩)
   show PA (e.take (Qi ((i:Int)+1)).toNat) x=false
   rw[hw,XP,DV,Qx i1]
   unfold PA at hJ ⊢
   rw[List.any_append,hJ]
   simp only[Option.toList_some,List.any_cons,List.any_nil,Bool.or_false,Bool.false_or]
   rw[D];exact hc2
  simp only[Xm]at hc
  rwa[Kl (by omega)]at hJ))
 rw[h1]
 rcases q with q | q
 ·have:=h2.1 q rfl
  rw[this.2]
  simp only[Qd,Sum.elim_inl]
  unfold Un
  rw[Qd,Yu this.1]
 rw[h2.2 rfl];rfl
def Qk6 {n:Qf}{m:L_ Bag}(w D:Int)(h:Xn n)(hg:Yg n m):(∀x∈(Iu n w D m).1,Yg n x)/\(Iu n w D m).1.length<=XM D/\Ln XQ (Iu n w D m).1/\(0<XM D->∃r,(Iu n w D m).1=m::r):=by
 unfold Iu
 by_cases c0:XM D=0
 ·rw[if_pos c0]
  exact⟨λx h=>(by cases h),by simp,List.Pairwise.nil,λh=>by omega⟩
 rw[if_neg c0]
 obtain⟨⟨r,hr⟩,h2,h3,h4⟩:=Ql5 (key:=XQ) (succ:=PV n w) (P:=Yg n) (λx hx=>Qmp h hx) (most:=XM D) (XM D+1) (out:=[m]) (a:=0) (by simp;omega) (Vu _ _) λx hx=>by simp at hx;subst hx;exact hg
 exact⟨h4,h2,h3,λ_=>⟨r,hr⟩⟩
def Qk7 (n:Qf)(m:L_ Bag)(D h:Int):Int:=if (Iu n D h m).1.any (PA (Rx n m D))then 0 else if (Iu n D h m).2 then 1 else 2
def Qnu {n:Qf}{m:L_ Bag}(task D:Int)(h:Xn n)(hb:Bd n)(hg:Yg n m):IS n m task D=some (Qk7 n m task D):=by
 have hpl:=h.pl
 obtain⟨e1,e2,e3⟩:=Qnt n m task h
 obtain⟨r1,r2,_,_⟩:=Qk6 task D h hg
 have hmost:=(Qke D).2
 have hm1:=hg.1.1
 unfold IS Qk7
 rw[e1,Qd,Qk4 task D h hb hg,Qd]
 have hel:(Rx n m task).length<=maxLen:=by
  unfold Gk at e1
  have:∀(l:LI_) (a b:Int),l.Pairwise (·<·)->(∀k∈l,a<=k/\k<b)->(l.length:Int)<=max 0 (b-a):=by
   intro l
   induction l with
   | nil=>intro a b _ _;simp;omega
   | cons x l ih=>
    intro a b hp hk
    obtain⟨p1,p2⟩:=Vt.1 hp
    have h1:=hk x XR
    have:=ih (x+1) b p2 λk hk2=>⟨by have:=p1 k hk2;omega,(hk k (XZ _ hk2)).2⟩
    simp only[DU];omega
  have:=this _ 0 (m.length:Int) e3 λk hk=>⟨(e2 k hk).1,(e2 k hk).2.1⟩
  unfold maxLen;omega
 have hbk:∀x∈(Iu n task D m).1,∀k∈Rx n m task,0<=k/\k<x.length:=λx hx k hk=>by
  have h1:=e2 k hk
  have h2:=(r1 x hx).1.1
  exact⟨h1.1,by have:=h1.2.1;omega⟩
 generalize Iu n task D m=R at r1 r2 hbk ⊢
 generalize Rx n m task=E at hel hbk ⊢
 obtain⟨q,h1,h2⟩:=(Qg.up (body:=λst:LI_×Int=>Bu R st.1 st.2) R.1.length (λst=>st.2) (λst=>st.1=E/\(R.1.take st.2.toNat).any (PA E)=false) (Q:=λq:Unit⊕Unit=>(q=.inl ()->R.1.any (PA E)=true)/\(q=.inr ()->R.1.any (PA E)=false)) (s0:=(E,(0:Int))) rfl ⟨rfl,rfl⟩ (λi st hi hn hJ=>by
  obtain⟨a,x⟩:=st
  replace hi:x=(i:Int):=hi
  subst hi
  obtain⟨j1,j2⟩:a=E/\(R.1.take (i:Int).toNat).any (PA E)=false:=hJ
  subst j1
  rw[XP]at j2
  show Qg (Bu R a i) _
  unfold Bu
  refine T1 (λhc=>?_) (λhc=>T2 (Qm ⟨λe=>(by cases e),λ_=>?_⟩))
  ·simp only[QI]at hc
   have i1:i<R.1.length:=by omega
   have hmem:=XV i1
   rw[QT,Qx i1,Qd,Qpb a _ hel (hbk _ hmem),Qd]
   refine T1 (λhc2=>T2 (Qm ⟨λ_=>Iw.2 ⟨_,hmem,hc2⟩,λe=>by cases e⟩)) λhc2=>?_
   have hw:Qi ((i:Int)+1)=((i+1:Nat):Int):=Qv i1 (by unfold maxLen;omega:R.1.length<=maxLen)
   refine T2 (QK ⟨i1,hw,rfl,?_⟩)
   show(R.1.take (Qi ((i:Int)+1)).toNat).any (PA a)=false
   rw[hw,XP,DV,Qx i1,List.any_append,j2]
   simpa using hc2
  simp only[Xm]at hc
  rwa[Kl (by omega)]at j2))
 rw[h1,Qd]
 rcases q with q | q
 ·rw[h2.1 rfl];rfl
 rw[h2.2 rfl]
 show LI R=_
 unfold LI
 cases R.2<;>rfl
def Qmt (n:Qf)(m:L_ Bag)(o:Qk)(h:Int):Int:=if KS n m o=some 0 then(match idx n.Tasks o.Task with
 | some e=>if e.Join=3 then Qk7 n m o.Task h else 1
 | none=>0)else 0
def Qk8 {n:Qf}{m:L_ Bag}{o:Qk}(h:Xn n)(hm:Xe (Xe λ_=>True) m)(ho:Wc n o)(hc:KS n m o=some 0):∃e,idx n.Tasks o.Task=some e/\e∈n.Tasks:=by
 obtain⟨_,e,D,_,_,_,b,hb,_⟩:=Nz.1 ((Qmh h hm ho).1 hc)
 obtain⟨k1,k2,_⟩:=SI h hb
 rw[D]at k1;cases k1
 exact⟨_,D,k2⟩
def Qnv {n:Qf}{m:L_ Bag}(o:Qk)(D:Int)(h:Xn n)(hb:Bd n)(hg:Yg n m)(ho:Wc n o):IT n m o D=some (Qmt n m o D):=by
 unfold IT Qmt
 obtain⟨c,hc,_⟩:=Qka n m o h (hg.len h) ho
 rw[hc,Qd]
 by_cases c0:c=0
 ·subst c0
  obtain⟨e,he,_⟩:=Qk8 h (hg.len h) ho hc
  rw[if_pos rfl,he]
  simp only[show((0:Int) != 0)=false from rfl,Xh,Qd]
  by_cases cj:e.Join=3
  ·rw[if_pos cj,show(e.Join != 3)=false by simpa using cj,Xh,Qnu o.Task D h hb hg];rfl
  rw[if_neg cj,show(e.Join != 3)=true by simpa using cj];rfl
 rw[if_neg (λe=>c0 (Option.some.inj e)),show(c != 0)=true by simpa using c0];rfl
def Qnw (n:Qf)(m:L_ Bag)(D:Int)(hn:Xr n)(hm:Xe (Xe λ_=>True) m):Qg (OI n m D) λr=>r=true->Xn n/\Bd n/\Yg n m/\D<=12:=by
 unfold OI
 refine T0 (Qo4 n m hn hm).self λf hf=>?_
 obtain⟨hfe,hf⟩:=hf
 refine T0 (P:=λr=>r=true->Xn n/\Bd n/\Yg n m/\D<=12) ?_ λr hr=>?_
 ·unfold Zb
  refine T1 (λc1=>?_) λ_=>T2 λh=>by cases h
  refine T1 (λc2=>?_) λ_=>T2 λh=>by cases h
  refine T1 (λc3=>?_) λ_=>T2 λh=>by cases h
  obtain⟨h,g1,g2⟩:=hf c1
  subst c1
  rw[QbP h g1 (by omega),Qd]
  exact T2 λ_=>⟨h,Qon n m h hfe,⟨g1,g2⟩,by simpa using c2⟩
 unfold Zc
 exact T2 hr
def Qk9 (a b:Bag)(ha:a.length<=maxLen):∃r,Yt a b=some r/\(r=true->a=b):=by
 have key:Qg (Yt a b) λr=>r=true->a=b:=by
  unfold Yt
  refine T1 (λhc=>T2 λh=>by cases h) λhc=>?_
  simp only[KI]at hc
  have hc:a.length=b.length:=by omega
  refine T0 (Qg.up a.length (λst=>st) (λst=>a.take st.toNat=b.take st.toNat) (Q:=λq:Unit⊕Unit=>q=.inr ()->a=b) rfl rfl (λi st hi hn hJ=>?_)) (λq hq=>?_)
  ·replace hi:st=(i:Int):=hi
   subst hi
   replace hJ:a.take (i:Int).toNat=b.take (i:Int).toNat:=hJ
   rw[XP]at hJ
   show Qg (YB a b i) _
   unfold YB
   refine T1 (λhc2=>?_) (λhc2=>T2 (Qm λ_=>?_))
   ·simp only[QI]at hc2
    have i1:i<a.length:=by omega
    have i2:i<b.length:=by omega
    rw[QT,Qx i1,Qd,QT,Qx i2,Qd]
    refine T1 (λD=>T2 (Qm λe=>by cases e)) λD=>?_
    have hw:Qi ((i:Int)+1)=((i+1:Nat):Int):=Qv i1 ha
    refine T2 (QK ⟨i1,hw,?_⟩)
    show a.take (Qi ((i:Int)+1)).toNat=b.take (Qi ((i:Int)+1)).toNat
    rw[hw,XP,DV,DV,hJ,Qx i1,Qx i2]
    simp at D
    rw[Prod.ext D.1 D.2]
   simp only[Xm]at hc2
   rwa[Kl (by omega),Kl (by omega)]at hJ
  rcases q with q | q
  ·exact T2 λh=>by cases h
  exact T2 λ_=>hq rfl
 exact key
def QhF {n:Qf}{a b:L_ Bag}(h:Xn n)(ha:Yg n a)(hb:Yg n b):∃r,Ud a b=some r/\(r=true->a=b):=by
 have hpl:=h.pl
 have ha1:=ha.1.1
 have hb1:=hb.1.1
 have key:Qg (Ud a b) λr=>r=true->a=b:=by
  unfold Ud XH
  refine T0 (P:=λr=>r=true->a=b) ?_ λr hr=>T2 hr
  rw[show((a.length:Int) != (b.length:Int))=false by simp;omega,Xh]
  refine T0 (Qg.up a.length (λst=>st) (λst=>a.take st.toNat=b.take st.toNat) (Q:=λq:Unit⊕Unit=>q=.inr ()->a=b) rfl rfl (λi st hi hn hJ=>?_)) (λq hq=>?_)
  ·replace hi:st=(i:Int):=hi
   subst hi
   replace hJ:a.take (i:Int).toNat=b.take (i:Int).toNat:=hJ
   rw[XP]at hJ
   show Qg (Xg a b i) _
   unfold Xg
   refine T1 (λD=>?_) (λD=>T2 (Qm λ_=>?_))
   ·simp only[QI]at D
    have i1:i<a.length:=by omega
    have i2:i<b.length:=by omega
    have g1:=ha.1.2 _ (XV i1)
    have g2:=hb.1.2 _ (XV i2)
    rw[QT,Qx i1,Qd,QT,Qx i2,Qd]
    refine T0 (P:=λr=>r=true->a[i]=b[i]) ?_ λr hr=>?_
    ·unfold OK RM
     rw[Cn _ (by unfold maxLen;omega),DH.2 g1.1,Qd,QY,Cn _ (by unfold maxLen;omega),DH.2 g2.1,Qd,QY]
     obtain⟨r,hr,hr2⟩:=Qk9 a[i] b[i] (by unfold maxLen;omega)
     rw[hr]
     exact T2 hr2
    refine T1 (λ_=>T2 (Qm λe=>by cases e)) λhc3=>?_
    have e:=hr (by simpa using hc3)
    have hw:Qi ((i:Int)+1)=((i+1:Nat):Int):=Qv i1 (by unfold maxLen;omega:a.length<=maxLen)
    refine T2 (QK ⟨i1,hw,?_⟩)
    show a.take (Qi ((i:Int)+1)).toNat=b.take (Qi ((i:Int)+1)).toNat
    rw[hw,XP,DV,DV,hJ,Qx i1,Qx i2,e]
   simp only[Xm]at D
   rwa[Kl (by omega),Kl (by omega)]at hJ
  rcases q with q | q
  ·exact T2 λh=>by cases h
  exact T2 λ_=>hq rfl
 exact key
def QnZ (x:Int):IntKind.u8.wrap x=x % 256:=rfl
def SL (k:Nat)(x:Int)(h:k<8):IntKind.u8.wrap (Jm .i64 x (Qi (8*(k:Int))))=(x / (2 ^ (8*k):Nat)) % 256:=by
 rw[QnZ,Yf (by omega)]
 unfold Jm
 rw[show(8*(k:Int)).toNat=8*k by omega,show min (8*k) (IntKind.bits .i64)=8*k from Fe (by show 8*k<=64;omega),Int.fdiv_eq_ediv_of_nonneg _ (Int.pow_nonneg (by omega))]
 simp
def Qjx (x:Int):XI 2 x=[x / 256 % 256,x % 256]:=by
 simp only[XI,SL 0 x (by omega),SL 1 x (by omega)];simp
def Qjy (x:Int):XI 4 x=[x / 16777216 % 256,x / 65536 % 256,x / 256 % 256,x % 256]:=by
 simp only[XI,SL 0 x (by omega),SL 1 x (by omega),SL 2 x (by omega),SL 3 x (by omega)];simp
def QpP {x y:Int}(D:0<=x/\x<65536)(hy:0<=y/\y<65536)(h:XI 2 x=XI 2 y):x=y:=by
 rw[Qjx,Qjx]at h
 simp only[List.cons.injEq,and_true]at h
 omega
def Qn0 {x y:Int}(D:0<=x/\x<4294967296)(hy:0<=y/\y<4294967296)(h:XI 4 x=XI 4 y):x=y:=by
 rw[Qjy,Qjy]at h
 simp only[List.cons.injEq,and_true]at h
 omega
def Qbw {k:Nat}{x:Int}(hk:k<=8):∀b∈XI k x,0<=b/\b<256:=by
 induction k with
 | zero=>intro b h;cases h
 | succ k D=>
  intro b h
  rcases Yl.1 h with rfl | h
  ·rw[QnZ];omega
  exact D (by omega) b h
def Qla (p:Int×Int):LI_:=XI 4 p.1++XI 4 p.2
def Qjz (p:Int×Int):(Qla p).length=8:=by simp[Qla,JT]
def InP (p:Int×Int):Prop:=(0<=p.1/\p.1<4294967296)/\0<=p.2/\p.2<4294967296
def Qnx : ∀(a b:Bag),a.length=b.length->(∀p∈a,InP p)->(∀p∈b,InP p)->a.flatMap Qla=b.flatMap Qla->a=b:=by
 intro a
 induction a with
 | nil=>intro b h _ _ _;exact(Iz.1 (by simpa using h.symm)).symm
 | cons p a ih=>
  intro b h ha hb e
  cases b with
  | nil=>simp at h
  | cons q b=>
   rw[Ms,Ms]at e
   obtain⟨e1,e2⟩:=List.append_inj e (by rw[Qjz,Qjz])
   obtain⟨e3,e4⟩:=List.append_inj e1 (by rw[JT,JT])
   have hp:=ha p XR
   have hq:=hb q XR
   have f1:=Qn0 hp.1 hq.1 e3
   have f2:=Qn0 hp.2 hq.2 e4
   rw[Prod.ext f1 f2,ih b (by simpa using h) (λr D=>ha r (XZ _ D)) (λr D=>hb r (XZ _ D)) e2]
def InB (b:Bag):Prop:=b.length<65536/\∀p∈b,InP p
def Qny : ∀(a b:L_ Bag),a.length=b.length->(∀x∈a,InB x)->(∀x∈b,InB x)->a.flatMap OQ=b.flatMap OQ->a=b:=by
 intro a
 induction a with
 | nil=>intro b h _ _ _;exact(Iz.1 (by simpa using h.symm)).symm
 | cons x a ih=>
  intro b h ha hb e
  cases b with
  | nil=>simp at h
  | cons y b=>
   have hx:=ha x XR
   have hy:=hb y XR
   rw[Ms,Ms]at e
   have e':=e
   unfold OQ at e'
   rw[WI,WI]at e'
   have e1:=(List.append_inj e' (by rw[JT,JT])).1
   have D:=QpP (x:=(x.length:Int)) (y:=(y.length:Int)) ⟨by omega,by have:=hx.1;omega⟩ ⟨by omega,by have:=hy.1;omega⟩ e1
   have D:x.length=y.length:=by omega
   obtain⟨f1,f2⟩:=List.append_inj e (by rw[Qfu,Qfu,D])
   have f3:=(List.append_inj f1 (by rw[JT,JT])).2
   rw[Qnx x y D hx.2 hy.2 f3,ih b (by simpa using h) (λr hr=>ha r (XZ _ hr)) (λr hr=>hb r (XZ _ hr)) f2]
def QgM (l:LI_):(He l).data.toList=l.map λx=>UInt8.ofNat x.toNat:=by
 unfold He
 have:∀(l:LI_) (r:ByteArray),(l.foldl (λr n=>r.push (UInt8.ofNat n.toNat)) r).data.toList=r.data.toList++l.map λx=>UInt8.ofNat x.toNat:=by
  intro l
  induction l with
  | nil=>intro r;simp
  | cons x l h=>intro r;rw[List.foldl_cons,h];simp[ByteArray.push]
 rw[this];rfl
def Qmu {a b:LI_}(ha:∀x∈a,0<=x/\x<256)(hb:∀x∈b,0<=x/\x<256)(h:He a=He b):a=b:=by
 have e:(a.map λx=>UInt8.ofNat x.toNat)=b.map λx=>UInt8.ofNat x.toNat:=by rw[<-QgM,<-QgM,h]
 clear h
 induction a generalizing b with
 | nil=>cases b with
  | nil=>rfl
  | cons y b=>simp at e
 | cons x a ih=>cases b with
  | nil=>simp at e
  | cons y b=>
   simp only[Gt,List.cons.injEq]at e
   have h1:=ha x XR
   have h2:=hb y XR
   have e1:=congrArg UInt8.toNat e.1
   rw[UInt8.toNat_ofNat',UInt8.toNat_ofNat']at e1
   have:x=y:=by omega
   rw[this,ih (λz D=>ha z (XZ _ D)) (λz D=>hb z (XZ _ D)) e.2]
def QjA (m:L_ Bag):∀x∈QdD m,0<=x/\x<256:=by
 intro x h
 unfold QdD at h
 rcases YI.1 h with h | h
 ·exact Qbw (by omega) x h
 obtain⟨b,_,h⟩:=List.mem_flatMap.1 h
 unfold OQ at h
 rcases YI.1 h with h | h
 ·exact Qbw (by omega) x h
 obtain⟨p,_,h⟩:=List.mem_flatMap.1 h
 rcases YI.1 h with h | h
 ·exact Qbw (by omega) x h
 exact Qbw (by omega) x h
def Qkf {n:Qf}{m:L_ Bag}(h:Xn n)(D:Yg n m):∀b∈m,InB b:=λb hb=>by
 obtain⟨hr,hl⟩:=D.1.2 b hb
 refine⟨by omega,λp hp=>?_⟩
 have h1:=hr.2 p hp
 obtain⟨j,hj,rfl⟩:=Hb.1 hb
 have hj2:j<n.Places.length:=by have:=D.1.1;omega
 have h2:=FJ hr.1.nd hp
 obtain⟨z,hz,hk⟩:=D.2 j _ _ (Qx hj) (Qx hj2) p.1 (by rw[h2];omega)
 have:=Al (Wz _ _ h.k.1) hz
 exact⟨⟨h1.1,by omega⟩,by omega,by omega⟩
def Qop {n:Qf}{a b:L_ Bag}(h:Xn n)(hp:n.Places.length<=64)(D:Yg n a)(hb:Yg n b)(e:XQ a=XQ b):a=b:=by
 have ha1:=D.1.1
 have hb1:=hb.1.1
 unfold XQ at e
 rw[if_pos (by omega),if_pos (by omega)]at e
 have e:=Qmu (QjA a) (QjA b) e
 unfold QdD at e
 exact Qny a b (by omega) (Qkf h D) (Qkf h hb) (List.append_inj e (by rw[JT,JT])).2
def Qnz {n:Qf}{m:L_ Bag}(D:Int)(h:Xn n)(hb:Bd n)(hg:Yg n m):Qg (Ag n m D 9223372036854775807) λr=>r.1.length<=4194304/\∀o∈r.1,o∈Kk n m:=by
 have hml:=hg.len h
 have hal:=Qkd m h hb
 unfold Ag
 rw[Qjv n m 9223372036854775807 h hml (by omega) (by omega) (.inr (by omega)),Qd]
 have e0:(Kk n m).take (9223372036854775807:Int).toNat=Kk n m:=Kl (by omega)
 rw[e0]
 have hok:=λo=>Vb (o:=o) h hml
 refine T0 (Qg.up (Kk n m).length (λst=>st.2.1) (λst=>(st.2.2.1.length:Int)<=st.2.1/\∀o∈st.2.2.1,o∈Kk n m) (Q:=λq:Bool×L_ Qk=>q.2.length<=4194304/\∀o∈q.2,o∈Kk n m) rfl ⟨by simp,λo h=>(by cases h)⟩ (λi st hi hn hJ=>?_)) (λq hq=>T2 hq)
 obtain⟨known,x,l,mm⟩:=st
 replace hi:x=(i:Int):=hi
 subst hi
 obtain⟨j1,j2⟩:(l.length:Int)<=(i:Int)/\∀o∈l,o∈Kk n m:=hJ
 show Qg (CJ (Kk n m) n m D known i l mm) _
 unfold CJ
 refine T1 (λhc=>?_) (λhc=>T2 (Qm ⟨by show l.length<=_;omega,j2⟩))
 simp only[QI]at hc
 have i1:i<(Kk n m).length:=by omega
 have hw:Qi ((i:Int)+1)=((i+1:Nat):Int):=Qv i1 (by unfold maxLen;omega:(Kk n m).length<=maxLen)
 have ho:=XV i1
 rw[QT,Qx i1,Qd]
 generalize (Kk n m)[i]=o at ho ⊢
 have k1:∀(known':Bool) l' mm',(l'.length:Int)<=(i:Int)+1->(∀o∈l',o∈Kk n m)->Qg (Gn i known' l' mm') λr=>(∀s',r=.inl s'->i<(Kk n m).length/\s'.2.1=((i+1:Nat):Int)/\(s'.2.2.1.length:Int)<=s'.2.1/\∀o∈s'.2.2.1,o∈Kk n m)/\∀q:Bool×L_ Qk,r=.inr q->q.2.length<=4194304/\∀o∈q.2,o∈Kk n m:=λknown' l' mm' h1 h2=>by
  unfold Gn
  exact T2 (QK (ix:=λst:Bool×Int×L_ Qk×QBg=>st.2.1) (J:=λst:Bool×Int×L_ Qk×QBg=>(st.2.2.1.length:Int)<=st.2.1/\∀o∈st.2.2.1,o∈Kk n m) ⟨i1,hw,by show(l'.length:Int)<=Qi _;rw[hw];omega,h2⟩)
 have k2:∀mm',Qg (Uo o l i known mm') λr=>(∀s',r=.inl s'->i<(Kk n m).length/\s'.2.1=((i+1:Nat):Int)/\(s'.2.2.1.length:Int)<=s'.2.1/\∀o∈s'.2.2.1,o∈Kk n m)/\∀q:Bool×L_ Qk,r=.inr q->q.2.length<=4194304/\∀o∈q.2,o∈Kk n m:=λmm'=>by
  unfold Uo
  refine T1 (λc1=>?_) λc1=>T1 (λc2=>k1 _ _ _ (by omega) j2) λc2=>k1 _ _ _ (by omega) j2
  refine T0 (T5 (by simp;omega)) λ_ _=>k1 _ _ _ (by simp;omega) λo' ho'=>?_
  rcases YI.1 ho' with ho' | ho'
  ·exact j2 o' ho'
  simp at ho';subst ho';exact ho
 refine T1 (λc=>?_) λc=>k2 _
 rw[Qnv o D h hb hg (hok o ho),Qd]
 exact k2 _
def Ke (n:Qf)(m:L_ Bag)(h:Int):L_ Qk×Bool:=(Ag n m h 9223372036854775807).getD ([],false)
def QdE {n:Qf}{m:L_ Bag}(D:Int)(h:Xn n)(hb:Bd n)(hg:Yg n m):Ag n m D 9223372036854775807=some (Ke n m D)/\(Ke n m D).1.length<=4194304/\∀o∈(Ke n m D).1,o∈Kk n m:=by
 obtain⟨r,h1,h2⟩:=Qnz D h hb hg
 unfold Ke
 rw[h1];exact⟨rfl,h2⟩
def Fc (L:L_ (L_ Bag))(s:ByteArray):O_ Nat:=L.findIdx? λy=>decide (XQ y=s)
def FI (mm:L_ (ByteArray×Int))(L:L_ (L_ Bag)):Prop:=∀s,Qs mm s=(Fc L s).map λi=>(i:Int)
def QnA (L:L_ (L_ Bag))(y:L_ Bag)(s:ByteArray):Fc (L++[y]) s=match Fc L s with
  | some i=>some i
  | none=>if XQ y=s then some L.length else none:=by
 unfold Fc
 rw[List.findIdx?_append]
 cases L.findIdx? λy=>decide (XQ y=s)with
 | some i=>rfl
 | none=>
  by_cases c:XQ y=s
  ·simp[c,List.findIdx?_cons]
  simp[c,List.findIdx?_cons]
def Qmv {L:L_ (L_ Bag)}{s:ByteArray}{i:Nat}(h:Fc L s=some i):∃y,L[i]? = some y/\XQ y=s:=by
 unfold Fc at h
 obtain⟨D,h2,_⟩:=List.findIdx?_eq_some_iff_getElem.1 h
 exact⟨L[i],Qx D,Xw h2⟩
def Qmw {L:L_ (L_ Bag)}{s:ByteArray}(h:Fc L s=none):∀y∈L,XQ y≠s:=λy D e=>by
 unfold Fc at h
 have:=List.findIdx?_eq_none_iff.1 h y D
 exact absurd (Yu e) (by rw[this];decide)
def FI.add {mm:L_ (ByteArray×Int)}{L:L_ (L_ Bag)}(h:FI mm L){y:L_ Bag}(D:Fc L (XQ y)=none):FI (XG OT mm (XQ y) (L.length:Int)) (L++[y]):=λs=>by
 rw[Wa,QnA]
 by_cases c:s=XQ y
 ·subst c
  rw[if_pos rfl,D];simp
 rw[if_neg c,h s]
 cases Fc L s with
 | some i=>rfl
 | none=>simp only;rw[if_neg λe=>c e.symm]
def Xu (b:Int):Nat:=(min2 b 4096).toNat
def Qoq {n:Qf}{m:L_ Bag}(h:Xn n)(D:Yg n m):PO m=some (XQ m):=QgL h D
def QgN {n:Qf}{mm:L_ (ByteArray×Int)}{L:L_ (L_ Bag)}(b:Int)(E:L_ QW)(full:Bool){y:L_ Bag}(h:Xn n)(hg:Yg n y)(hI:FI mm L)(hb:0<b):
  ∃k D mm',WC n.Colours n.Places n.Tasks n.From n.To b mm L E full y=some (k,D,n.Colours,n.Places,n.Tasks,n.From,n.To,b,full,mm')/\FI mm' D/\
   ((∃i:Nat,Fc L (XQ y)=some i/\k=(i:Int)/\D=L)\/(Fc L (XQ y)=none/\Xu b<=L.length/\k=-1/\D=L)\/(Fc L (XQ y)=none/\¬Xu b<=L.length/\k=(L.length:Int)/\D=L++[y])):=by
 have hmost:(Xu b:Int)=min2 b 4096:=by unfold Xu min2;split<;>omega
 have hm2:Xu b<=4096:=by unfold Xu min2;split<;>omega
 unfold WC
 rw[Qoq h hg,Qd,hI (XQ y)]
 cases hp:Fc L (XQ y)with
 | some i=>exact⟨i,L,mm,rfl,hI,.inl ⟨i,rfl,rfl,rfl⟩⟩
 | none=>
  simp only[LO,Option.isSome_none,Xh]
  cases hc:decide (min2 b 4096<=(L.length:Int))with
  | true=>exact⟨-1,L,mm,rfl,hI,.inr (.inl ⟨by trivial,by have:=Xw hc;omega,rfl,rfl⟩)⟩
  | false=>
   have hc':=of_decide_eq_false hc
   simp only[Xh,Qd]
   rw[GE (by simp;omega),Qd]
   exact⟨L.length,L++[y],_,rfl,hI.add hp,.inr (.inr ⟨by trivial,by omega,rfl,rfl⟩)⟩
abbrev SSt := L_ (L_ Bag)×L_ QW×Bool
def Wt (most:Nat)(n:Qf)(x:L_ Bag)(a:Int)(st:SSt)(o:Qk):SSt:=match XU n x o with
 | some (y,c)=>if c=0 then(match Fc st.1 (XQ y)with
   | some k=>(st.1,st.2.1++[QW.mk a (k:Int) o],st.2.2)
   | none=>if most<=st.1.length then(st.1,st.2.1,false)else(st.1++[y],st.2.1++[QW.mk a (st.1.length:Int) o],st.2.2))
  else(st.1,st.2.1,false)
 | none=>st
def Qlb {n:Qf}{mm:L_ (ByteArray×Int)}{L:L_ (L_ Bag)}{E:L_ QW}{full:Bool}{x:L_ Bag}{a:Nat}(b:Int)(h:Xn n)(hbd:Bd n)(hg:Yg n x)(hI:FI mm L)(hb:0<b)(hx:L[a]? = some x)(hE:E.length<=134217728):
  ∃D,let T:=(Ke n x b).1.foldl (Wt (Xu b) n x a) (L,E,full&&(Ke n x b).2)
   Gz n.Colours n.Places n.Tasks n.From n.To b mm L E full a=some (T.1,T.2.1,n.Colours,n.Places,n.Tasks,n.From,n.To,b,T.2.2,D)/\FI D T.1:=by
 obtain⟨hf,hfl,hfm⟩:=QdE b h hbd hg
 unfold Gz
 rw[QT,hx,Qd,show Qf.mk n.Colours n.Places n.Tasks n.From n.To=n from rfl,hf,Qd]
 have g1:EM full (Ke n x b)=some (full&&(Ke n x b).2):=by
  unfold EM;cases full<;>rfl
 rw[g1,Qd]
 have hok:∀o∈(Ke n x b).1,Wc n o:=λo ho=>Vb h (hg.len h) (hfm o ho)
 unfold Di
 generalize hX:(Ke n x b).1=X at hfl hok ⊢
 generalize (full&&(Ke n x b).2)=full0
 have main:Qg (QE (λst=>Ku (Ke n x b) x a st.1 st.2.1 st.2.2.1 st.2.2.2.1 st.2.2.2.2.1 st.2.2.2.2.2.1 st.2.2.2.2.2.2.1 st.2.2.2.2.2.2.2.1 st.2.2.2.2.2.2.2.2.1 st.2.2.2.2.2.2.2.2.2.1 st.2.2.2.2.2.2.2.2.2.2) ((0:Int),n.Colours,n.Places,n.Tasks,n.From,n.To,b,full0,mm,E,L))
   λq=>∃D,q=(n.Colours,n.Places,n.Tasks,n.From,n.To,b,(X.foldl (Wt (Xu b) n x a) (L,E,full0)).2.2,D,(X.foldl (Wt (Xu b) n x a) (L,E,full0)).2.1,(X.foldl (Wt (Xu b) n x a) (L,E,full0)).1)/\FI D (X.foldl (Wt (Xu b) n x a) (L,E,full0)).1:=by
  refine Qg.up X.length (λst=>st.1) (λst=>st.2.1=n.Colours/\st.2.2.1=n.Places/\st.2.2.2.1=n.Tasks/\st.2.2.2.2.1=n.From/\st.2.2.2.2.2.1=n.To/\st.2.2.2.2.2.2.1=b/\FI st.2.2.2.2.2.2.2.2.1 st.2.2.2.2.2.2.2.2.2.2/\(st.2.2.2.2.2.2.2.2.2.1.length:Int)<=E.length+st.1/\(X.drop st.1.toNat).foldl (Wt (Xu b) n x a) (st.2.2.2.2.2.2.2.2.2.2,st.2.2.2.2.2.2.2.2.2.1,st.2.2.2.2.2.2.2.1)=X.foldl (Wt (Xu b) n x a) (L,E,full0)) rfl ⟨rfl,rfl,rfl,rfl,rfl,rfl,hI,by simp,rfl⟩ (λi st hi hn hJ=>?_)
  obtain⟨i',c,p,t,fr,tz,b',fu,mm,E',L'⟩:=st
  replace hi:i'=(i:Int):=hi
  subst hi
  obtain⟨e1,e2,e3,e4,e5,e6,j1,j2,j3⟩:c=n.Colours/\p=n.Places/\t=n.Tasks/\fr=n.From/\tz=n.To/\b'=b/\FI mm L'/\(E'.length:Int)<=E.length+(i:Int)/\(X.drop (i:Int).toNat).foldl (Wt (Xu b) n x a) (L',E',fu)=X.foldl (Wt (Xu b) n x a) (L,E,full0):=hJ
  subst e1;subst e2;subst e3;subst e4;subst e5;subst e6
  rw[XP]at j3
  show Qg (Ku (Ke n x b') x a i n.Colours n.Places n.Tasks n.From n.To b' fu mm E' L') _
  unfold Ku
  rw[hX]
  refine T1 (λhc=>?_) (λhc=>T2 (Qm ?_))
  ·simp only[QI]at hc
   have i1:i<X.length:=by omega
   have hw:Qi ((i:Int)+1)=((i+1:Nat):Int):=Qv i1 (by unfold maxLen;omega:X.length<=maxLen)
   rw[QT,Qx i1,Qd,show Qf.mk n.Colours n.Places n.Tasks n.From n.To=n from rfl]
   rw[Mr i1,List.foldl_cons]at j3
   have ho:=hok _ (XV i1)
   generalize X[i]=o at ho j3 ⊢
   obtain⟨⟨y,cc⟩,hD,_⟩:=QkV n x o 1024 h hg.1 (by omega) ho
   rw[hD,Qd]
   have next:∀(fu':Bool) D E'' L'',FI D L''->(E''.length:Int)<=E.length+((i:Int)+1)->Wt (Xu b') n x a (L',E',fu) o=(L'',E'',fu')->
     Qg (Ks i n.Colours n.Places n.Tasks n.From n.To b' fu' D E'' L'') λr=>(∀s',r=.inl s'->i<X.length/\s'.1=((i+1:Nat):Int)/\(s'.2.1=n.Colours/\s'.2.2.1=n.Places/\s'.2.2.2.1=n.Tasks/\s'.2.2.2.2.1=n.From/\s'.2.2.2.2.2.1=n.To/\s'.2.2.2.2.2.2.1=b'/\FI s'.2.2.2.2.2.2.2.2.1 s'.2.2.2.2.2.2.2.2.2.2/\(s'.2.2.2.2.2.2.2.2.2.1.length:Int)<=E.length+s'.1/\(X.drop s'.1.toNat).foldl (Wt (Xu b') n x a) (s'.2.2.2.2.2.2.2.2.2.2,s'.2.2.2.2.2.2.2.2.2.1,s'.2.2.2.2.2.2.2.1)=X.foldl (Wt (Xu b') n x a) (L,E,full0)))/\
      ∀q,r=.inr q->∃D,q=(n.Colours,n.Places,n.Tasks,n.From,n.To,b',(X.foldl (Wt (Xu b') n x a) (L,E,full0)).2.2,D,(X.foldl (Wt (Xu b') n x a) (L,E,full0)).2.1,(X.foldl (Wt (Xu b') n x a) (L,E,full0)).1)/\FI D (X.foldl (Wt (Xu b') n x a) (L,E,full0)).1:=λfu' D E'' L'' f1 f2 f3=>by
    unfold Ks
    refine T2 ⟨λs' e=>?_,λq e=>by cases e⟩
    cases e
    refine⟨i1,hw,rfl,rfl,rfl,rfl,rfl,rfl,f1,by show(E''.length:Int)<=_+Qi _;rw[hw];omega,?_⟩
    show(X.drop (Qi ((i:Int)+1)).toNat).foldl (Wt (Xu b') n x a) (L'',E'',fu')=_
    rw[hw,XP,<-j3,f3]
   by_cases c0:cc=0
   ·subst c0
    have hgy:=QaE h hg ho hD
    simp only[show((0:Int)==0)=true from rfl,QY]
    obtain⟨k,L'',mm'',hs,f1,f2⟩:=QgN b' E' fu h hgy j1 hb
    rw[hs,Qd]
    simp only
    unfold Kt
    rcases f2 with⟨p,p1,rfl,rfl⟩|⟨p1,p2,rfl,rfl⟩|⟨p1,p2,rfl,rfl⟩
    ·rw[JM (by omega),Xh]
     refine T0 (T5 (by simp;omega)) λ_ _=>next _ _ _ _ f1 (by simp;omega) ?_
     unfold Wt;rw[hD];simp only;rw[if_pos trivial,p1]
    ·rw[show decide ((-1:Int)<0)=true from rfl,QY]
     refine next _ _ _ _ f1 (by omega) ?_
     unfold Wt;rw[hD];simp only;rw[if_pos trivial,p1];simp only;rw[if_pos p2]
    rw[JM (by omega),Xh]
    refine T0 (T5 (by simp;omega)) λ_ _=>next _ _ _ _ f1 (by simp;omega) ?_
    unfold Wt;rw[hD];simp only;rw[if_pos trivial,p1];simp only;rw[if_neg p2]
   rw[show(cc==0)=false by simpa using c0,Xh]
   unfold Kt
   rw[show decide ((-1:Int)<0)=true from rfl,QY]
   refine next _ _ _ _ j1 (by omega) ?_
   unfold Wt;rw[hD];simp only;rw[if_neg c0]
  simp only[Xm]at hc
  rw[QfB (by omega),List.foldl_nil]at j3
  rw[<-j3]
  exact⟨mm,rfl,j1⟩
 obtain⟨q,hq1,D,rfl,hq2⟩:=main
 refine⟨D,?_,hq2⟩
 rw[hq1];rfl
def Qbx (x:L_ Bag):Int:=Qi (tS x x.length)
def ET (n:Qf)(b tokens:Int):Nat->SSt->Nat->SSt
 | 0,st,_=>st
 | f+1,st,a=>match st.1[a]? with
  | none=>st
  | some x=>if tokens<Qbx x then ET n b tokens f (st.1,st.2.1,false) (a+1)
   else ET n b tokens f ((Ke n x b).1.foldl (Wt (Xu b) n x a) (st.1,st.2.1,st.2.2&&(Ke n x b).2)) (a+1)
def QnB {n:Qf}{x:L_ Bag}{a:Int}{most:Nat}{st:SSt}{o:Qk}(h:Xn n)(hg:Yg n x)(ho:Wc n o)(hs:∀y∈st.1,Yg n y):∀y∈(Wt most n x a st o).1,Yg n y:=by
 unfold Wt
 cases hD:XU n x o with
 | none=>exact hs
 | some r=>
  obtain⟨y,c⟩:=r
  simp only
  by_cases c0:c=0
  ·subst c0
   rw[if_pos rfl]
   cases Fc st.1 (XQ y)with
   | some k=>exact hs
   | none=>
    simp only
    split
    ·exact hs
    intro z D
    rcases YI.1 D with D | D
    ·exact hs z D
    simp at D;subst D;exact QaE h hg ho hD
  rw[if_neg c0];exact hs
def Qor {n:Qf}{x:L_ Bag}{a:Int}{most:Nat}{st:SSt}{o:Qk}(h:st.1.length<=most):(Wt most n x a st o).1.length<=most/\(Wt most n x a st o).2.1.length<=st.2.1.length+1:=by
 unfold Wt
 cases hD:XU n x o with
 | none=>exact⟨h,by simp⟩
 | some r=>
  obtain⟨y,c⟩:=r
  simp only
  by_cases D:c=0
  ·rw[if_pos D]
   cases Fc st.1 (XQ y)with
   | some k=>exact⟨h,by simp⟩
   | none=>
    simp only
    split
    ·exact⟨h,by simp⟩
    exact⟨by simp;omega,by simp⟩
  rw[if_neg D];exact⟨h,by simp⟩
def Qh0 {n:Qf}{x:L_ Bag}{a:Int}{most:Nat}(h:Xn n)(hg:Yg n x):∀{X:L_ Qk} {st:SSt},(∀o∈X,Wc n o)->(∀y∈st.1,Yg n y)->st.1.length<=most->(∀y∈(X.foldl (Wt most n x a) st).1,Yg n y)/\(X.foldl (Wt most n x a) st).1.length<=most/\(X.foldl (Wt most n x a) st).2.1.length<=st.2.1.length+X.length:=by
 intro X
 induction X with
 | nil=>intro st _ hs D;exact⟨hs,D,by simp⟩
 | cons o X ih=>
  intro st ho hs D
  have h1:=Qor (n:=n) (x:=x) (a:=a) (o:=o) D
  obtain⟨k1,k2,k3⟩:=ih (st:=Wt most n x a st o) (λo' ho'=>ho o' (XZ _ ho')) (QnB h hg (ho o XR) hs) h1.1
  rw[List.foldl_cons]
  exact⟨k1,k2,by simp;omega⟩
def Qmx {n:Qf}{m:L_ Bag}(b tokens:Int)(h:Xn n)(hbd:Bd n)(hg:Yg n m)(hb:b<=31):
  Ih n m b tokens=some (if b<=0 then QD.mk [] [] false else let r:=ET n b tokens (Xu b+1) ([m],[],true) 0;QD.mk r.1 r.2.1 r.2.2):=by
 have hpl:=h.pl
 have hm1:=hg.1.1
 unfold Ih
 by_cases c0:b<=0
 ·rw[Yu c0,if_pos c0];rfl
 rw[JM c0,if_neg c0,Xh,Ir m (by omega) (λb hb=>by have:=(hg.1.2 b hb).2;omega),Qd]
 have hmost:(Xu b:Int)=b:=by unfold Xu min2;split<;>omega
 obtain⟨k,L',mm',hs,f1,f2⟩:=QgN (mm:=[]) (L:=[]) b [] true h hg (λs=>rfl) (by omega)
 rw[hs,Qd]
 have hL:L'=[m]:=by
  rcases f2 with⟨i,p1,_,_⟩|⟨_,p2,_,_⟩|⟨_,_,_,e⟩
  ·simp[Fc]at p1
  ·simp at p2;omega
  simpa using e
 subst hL
 simp only
 generalize hR:ET n b tokens (Xu b+1) ([m],[],true) 0=R
 have main:Qg (QE (λst=>AA tokens st.1 st.2.1 st.2.2.1 st.2.2.2.1 st.2.2.2.2.1 st.2.2.2.2.2.1 st.2.2.2.2.2.2.1 st.2.2.2.2.2.2.2.1 st.2.2.2.2.2.2.2.2.1 st.2.2.2.2.2.2.2.2.2.1 st.2.2.2.2.2.2.2.2.2.2) ((0:Int),n.Colours,n.Places,n.Tasks,n.From,n.To,b,true,mm',[m],([]:L_ QW)))
   λq=>∃mm,q=(n.Colours,n.Places,n.Tasks,n.From,n.To,b,R.2.2,mm,R.1,R.2.1):=by
  refine Qg.up (Xu b) (λst=>st.1) (λst=>st.2.1=n.Colours/\st.2.2.1=n.Places/\st.2.2.2.1=n.Tasks/\st.2.2.2.2.1=n.From/\st.2.2.2.2.2.1=n.To/\st.2.2.2.2.2.2.1=b/\FI st.2.2.2.2.2.2.2.2.1 st.2.2.2.2.2.2.2.2.2.1/\(∀y∈st.2.2.2.2.2.2.2.2.2.1,Yg n y)/\st.2.2.2.2.2.2.2.2.2.1.length<=Xu b/\(st.2.2.2.2.2.2.2.2.2.2.length:Int)<=st.1*4194304/\ET n b tokens (Xu b+1-st.1.toNat) (st.2.2.2.2.2.2.2.2.2.1,st.2.2.2.2.2.2.2.2.2.2,st.2.2.2.2.2.2.2.1) st.1.toNat=R) rfl ⟨rfl,rfl,rfl,rfl,rfl,rfl,f1,λy hy=>by simp at hy;subst hy;exact hg,by show 1<=_;omega,by simp,hR⟩ (λi st hi hn hJ=>?_)
  obtain⟨i',c,p,t,fr,tz,D,fu,mm,L,E⟩:=st
  replace hi:i'=(i:Int):=hi
  subst hi
  obtain⟨e1,e2,e3,e4,e5,e6,j1,j2,j3,j4,j5⟩:c=n.Colours/\p=n.Places/\t=n.Tasks/\fr=n.From/\tz=n.To/\D=b/\FI mm L/\(∀y∈L,Yg n y)/\L.length<=Xu b/\(E.length:Int)<=(i:Int)*4194304/\ET n b tokens (Xu b+1-(i:Int).toNat) (L,E,fu) (i:Int).toNat=R:=hJ
  subst e1;subst e2;subst e3;subst e4;subst e5;subst e6
  rw[XP,show Xu D+1-i=(Xu D-i)+1 by omega,ET]at j5
  show Qg (AA tokens i n.Colours n.Places n.Tasks n.From n.To D fu mm L E) _
  unfold AA
  refine T1 (λhc=>?_) (λhc=>T2 (Qm ?_))
  ·simp only[QI]at hc
   have i1:i<L.length:=by omega
   have hx:=Qx i1
   have hgx:=j2 _ (XV i1)
   rw[QT,hx,Qd]
   simp only[hx]at j5
   generalize L[i]=x at hx hgx j5 ⊢
   rw[QbP h hgx.1 (by omega),Qd]
   have hw:Qi ((i:Int)+1)=((i+1:Nat):Int):=Qv (by omega:i<Xu D) (by unfold maxLen;omega)
   have next:∀(fu':Bool) mm' L' E',FI mm' L'->(∀y∈L',Yg n y)->L'.length<=Xu D->(E'.length:Int)<=((i:Int)+1)*4194304->ET n D tokens (Xu D-i) (L',E',fu') (i+1)=R->
     Qg (Az i n.Colours n.Places n.Tasks n.From n.To D fu' mm' L' E') λr=>(∀s',r=.inl s'->i<Xu D/\s'.1=((i+1:Nat):Int)/\(s'.2.1=n.Colours/\s'.2.2.1=n.Places/\s'.2.2.2.1=n.Tasks/\s'.2.2.2.2.1=n.From/\s'.2.2.2.2.2.1=n.To/\s'.2.2.2.2.2.2.1=D/\FI s'.2.2.2.2.2.2.2.2.1 s'.2.2.2.2.2.2.2.2.2.1/\(∀y∈s'.2.2.2.2.2.2.2.2.2.1,Yg n y)/\s'.2.2.2.2.2.2.2.2.2.1.length<=Xu D/\(s'.2.2.2.2.2.2.2.2.2.2.length:Int)<=s'.1*4194304/\ET n D tokens (Xu D+1-s'.1.toNat) (s'.2.2.2.2.2.2.2.2.2.1,s'.2.2.2.2.2.2.2.2.2.2,s'.2.2.2.2.2.2.2.1) s'.1.toNat=R))/\
      ∀q,r=.inr q->∃mm,q=(n.Colours,n.Places,n.Tasks,n.From,n.To,D,R.2.2,mm,R.1,R.2.1):=λfu' mm' L' E' g1 g2 g3 g4 g5=>by
    unfold Az
    refine T2 ⟨λs' e=>?_,λq e=>by cases e⟩
    cases e
    refine⟨by omega,hw,rfl,rfl,rfl,rfl,rfl,rfl,g1,g2,g3,by show(E'.length:Int)<=Qi _*_;rw[hw];omega,?_⟩
    show ET n D tokens (Xu D+1-(Qi ((i:Int)+1)).toNat) (L',E',fu') (Qi ((i:Int)+1)).toNat=R
    rw[hw,XP,show Xu D+1-(i+1)=Xu D-i by omega]
    exact g5
   refine T1 (λhc2=>?_) λhc2=>?_
   ·rw[if_pos (show tokens<Qbx x by simpa[Qbx] using hc2)]at j5
    exact next _ _ _ _ j1 j2 j3 (by omega) j5
   rw[if_neg (show ¬tokens<Qbx x by simpa[Qbx] using hc2)]at j5
   obtain⟨mm',hl,f3⟩:=Qlb (full:=fu) (E:=E) D h hbd hgx j1 (by omega) hx (by omega)
   rw[hl,Qd]
   obtain⟨q1,q2,q3⟩:=QdE D h hbd hgx
   obtain⟨g1,g2,g3⟩:=Qh0 (a:=(i:Int)) (most:=Xu D) h hgx (X:=(Ke n x D).1) (st:=(L,E,fu&&(Ke n x D).2)) (λo ho=>Vb h (hgx.len h) (q3 o ho)) j2 j3
   exact next _ _ _ _ f3 g1 g2 (by simp only at g3 ⊢;omega) j5
  simp only[Xm]at hc
  rw[QfC (show L.length<=i by omega)]at j5
  rw[<-j5]
  exact⟨mm,rfl⟩
 obtain⟨q,hq1,mm,rfl⟩:=main
 rw[hq1];rfl
end Go.Proofs
