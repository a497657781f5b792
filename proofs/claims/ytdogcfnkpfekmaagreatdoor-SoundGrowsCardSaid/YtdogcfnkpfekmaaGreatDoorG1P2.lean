/- A part of the proof; what it holds is told at each theorem. -/
import Derived.Test.YtdogcfnkpfekmaaGreatDoorG1P1
import Derived.Test.YtdogcfnkpfekmaaGreatDoorG1T2
import Derived.KernelRfl
import Derived.Test.YtdogcfnkpfekmaaGreatDoorG1P1
import Derived.Test.YtdogcfnkpfekmaaGreatDoorG1P1
set_option linter.all false
noncomputable section
namespace Go.Proofs
open Go Go.RowKit Go.Vm
def NO (m:L_ QBg)(h:m.length<=4294967296)(hb:∀b∈m,b.length<=4294967296):Aw m=some m:=by
 unfold Aw Jx
 rw[Gr (by simp;omega)]
 simp only[Qf,Rh]
 obtain⟨r,h1,h2⟩:=(Qd.up (body:=λst=>HV m st.1 st.2) m.length (λst=>st.1) (λst=>st.2=m) (Q:=λq=>q=m) (s0:=(0,m)) rfl rfl (λi st hi hn hJ=>by
  obtain⟨x,l⟩:=st
  replace hi:x=(i:Int):=hi
  replace hJ:l=m:=hJ
  subst hJ
  show Qd (HV l x l) _
  unfold HV
  refine T1 (λhc=>?_) (λ_=>T2 (Qn rfl))
  simp only[QK]at hc
  have D:i<l.length:=by omega
  rw[hi,Xd,Qz D,Qf]
  unfold YL
  rw[Gr (by have:=hb _ (Yf D);simp;omega)]
  simp only[Qf,Rh]
  exact T2 (QO ⟨D,Qy D (by unfold maxLen;omega),by simp⟩)))
 rw[h1,h2];rfl
def Qmq (n:Qe)(a b:L_ QBg)(c d:Nat)(h:Xn n)(ha:Kh n c a)(hb:Kh n d b)(hcd:c+d<=1000000):Qd (Eb a b) λr=>r.2=0->Kh n (c+d) r.1:=by
 have hpl:=h.pl
 have ha1:=ha.1
 have hb1:=hb.1
 have D:min2 (a.length:Int) (b.length:Int)=(n.Places.length:Int):=by unfold min2;split<;>omega
 unfold Eb
 rw[D]
 refine T0 (T5 (by simp only[QH,QK];omega)) λ_ _=>?_
 refine T0 (Qd.up n.Places.length (λst=>st.1) (λst=>st.2.length=n.Places.length/\∀b∈st.2,Rt b/\b.length<=c+d) (Q:=λq:Int⊕L_ QBg=>(∀x,q=.inl x->x≠0)/\∀m,q=.inr m->Kh n (c+d) m) rfl ⟨by simp,λb hb=>?_⟩ (λi st hi hn hJ=>?_)) (λq hq=>?_)
 ·have:=ZD hb
  subst this
  exact⟨Rt.nil,by simp⟩
 ·obtain⟨x,m⟩:=st
  replace hi:x=(i:Int):=hi
  obtain⟨hJ1,hJ2⟩:m.length=n.Places.length/\∀b∈m,Rt b/\b.length<=c+d:=hJ
  show Qd (Ub a b x m) _
  unfold Ub
  rw[D]
  refine T1 (λhc=>?_) (λhc=>T2 (Qn ⟨λx e=>(by cases e),λm' e=>(by cases e;exact⟨hJ1,hJ2⟩)⟩))
  simp only[QK,ZG]at hc
  refine T0 (T4 (by omega) (by omega)) λu hu=>?_
  refine T0 (T4 (by omega) (by omega)) λv hv=>?_
  have hu2:=ha.2 u hu
  have hv2:=hb.2 v hv
  have key:∃s,JM u v=some s/\(s.2=0->Rt s.1/\s.1.length<=c+d):=by
   rcases PI u v (by omega)with⟨_,e⟩|⟨_,_,_,e⟩|⟨_,_,_,r,e,h1,_,h2⟩
   ·exact⟨_,e,λh=>by cases h⟩
   ·exact⟨_,e,λh=>by cases h⟩
   exact⟨_,e,λ_=>⟨h1,by show r.length<=_;omega⟩⟩
  obtain⟨s,es,hs⟩:=key
  rw[es,Qf]
  refine T0 (T4 (by omega) (by omega)) λ_ _=>?_
  refine T1 (λhc5=>T2 (Qn ⟨λx e=>(by cases e;simpa using hc5),λm' e=>(by cases e)⟩)) λhc5=>?_
  have hs:=hs (by simpa using hc5)
  refine T2 (QO ⟨by omega,by subst hi;exact Qy (by omega) (by unfold maxLen;omega:n.Places.length<=maxLen),by simpa using hJ1,λb hb'=>?_⟩)
  rcases Zw hb' with rfl | hb'
  ·exact hs
  exact hJ2 b hb'
 rcases q with q | q
 ·exact T2 λh=>absurd h (hq.1 q rfl)
 exact T2 λ_=>hq.2 q rfl
def Qld (n:Qe)(a b:L_ QBg)(c d:Nat)(h:Xn n)(ha:Kh n c a)(hb:Kh n d b)(hcd:c+d<=1000000):Qd (Gf a b) λr=>r.2=0->Kh n (c+d) r.1:=by
 have hpl:=h.pl
 have ha1:=ha.1
 have hb1:=hb.1
 have D:min2 (a.length:Int) (b.length:Int)=(n.Places.length:Int):=by unfold min2;split<;>omega
 unfold Gf
 rw[D]
 refine T0 (T5 (by simp only[QH,QK];omega)) λ_ _=>?_
 refine T0 (Qd.up n.Places.length (λst=>st.1) (λst=>st.2.length=n.Places.length/\∀b∈st.2,Rt b/\b.length<=c+d) (Q:=λq:Int⊕L_ QBg=>(∀x,q=.inl x->x≠0)/\∀m,q=.inr m->Kh n (c+d) m) rfl ⟨by simp,λb hb=>?_⟩ (λi st hi hn hJ=>?_)) (λq hq=>?_)
 ·have:=ZD hb
  subst this
  exact⟨Rt.nil,by simp⟩
 ·obtain⟨x,m⟩:=st
  replace hi:x=(i:Int):=hi
  obtain⟨hJ1,hJ2⟩:m.length=n.Places.length/\∀b∈m,Rt b/\b.length<=c+d:=hJ
  show Qd (DX a b x m) _
  unfold DX
  rw[D]
  refine T1 (λhc=>?_) (λhc=>T2 (Qn ⟨λx e=>(by cases e),λm' e=>(by cases e;exact⟨hJ1,hJ2⟩)⟩))
  simp only[QK,ZG]at hc
  refine T0 (T4 (by omega) (by omega)) λu hu=>?_
  refine T0 (T4 (by omega) (by omega)) λv hv=>?_
  have hu2:=ha.2 u hu
  have hv2:=hb.2 v hv
  have key:∃s,Ju u v=some s/\(s.2=0->Rt s.1/\s.1.length<=c+d):=by
   rcases HE u v (by omega)with⟨_,e⟩|⟨_,_,_,e⟩|⟨_,_,r,e,h1,_,h2⟩
   ·exact⟨_,e,λh=>by cases h⟩
   ·exact⟨_,e,λh=>by cases h⟩
   exact⟨_,e,λ_=>⟨h1,by show r.length<=_;omega⟩⟩
  obtain⟨s,es,hs⟩:=key
  rw[es,Qf]
  refine T0 (T4 (by omega) (by omega)) λ_ _=>?_
  refine T1 (λhc5=>T2 (Qn ⟨λx e=>(by cases e;simpa using hc5),λm' e=>(by cases e)⟩)) λhc5=>?_
  have hs:=hs (by simpa using hc5)
  refine T2 (QO ⟨by omega,by subst hi;exact Qy (by omega) (by unfold maxLen;omega:n.Places.length<=maxLen),by simpa using hJ1,λb hb'=>?_⟩)
  rcases Zw hb' with rfl | hb'
  ·exact hs
  exact hJ2 b hb'
 rcases q with q | q
 ·exact T2 λh=>absurd h (hq.1 q rfl)
 exact T2 λ_=>hq.2 q rfl
def Qle (n:Qe)(m:L_ QBg)(o:Qj)(c:Nat)(h:Xn n)(hm:Kh n c m)(D:c<=900000)(ho:Kv n o):Qd (AB n m o) λr=>r.2=0->Kh n (c+20) r.1:=by
 unfold AB
 refine T0 (Qjb n m o h (hm.len h (by omega)) ho) λx _=>?_
 refine T1 (λD=>T2 λh=>absurd h (by simpa using D)) λ_=>?_
 refine T0 (Qjc n o h ho) λy hy=>?_
 refine T1 (λD=>T2 λh=>absurd h (by simpa using D)) λhc2=>?_
 exact T0 (Qmq n m y.1 c 20 h hm (hy (by simpa using hc2)).1 (by omega)) λz hz=>T2 hz
def Qn8 (n:Qe)(m:L_ QBg)(o:Qj)(c:Nat)(h:Xn n)(hm:Kh n c m)(hc:c<=900000)(ho:Kv n o):Qd (AC n m o) λr=>r.2=0->Kh n (c+20) r.1:=by
 have hpl:=h.pl
 have hm1:=hm.1
 unfold AC
 refine T0 (Qjd n o h ho) λy hy=>?_
 refine T1 (λhc=>T2 λh=>absurd h (by simpa using hc)) λhc2=>?_
 obtain⟨⟨hy,_⟩,h1,h2⟩:=hy (by simpa using hc2)
 rw[NO m (by omega) (λb hb=>by have:=(hm.2 b hb).2;omega),Qf]
 refine T0 (T4 h1 h2) λe he=>?_
 have hcl:=(h.tk e he).2.2.2
 refine T0 (Qd.up e.Cancel.length (λst=>st.1) (λst=>Kh n c st.2) (Q:=λq=>Kh n c q) rfl hm (λi st hi hn hJ=>?_)) (λq hq=>?_)
 ·obtain⟨x,l⟩:=st
  replace hi:x=(i:Int):=hi
  replace hJ:Kh n c l:=hJ
  show Qd (Bv e x l) _
  unfold Bv
  refine T1 (λhc=>?_) (λ_=>T2 (Qn hJ))
  simp only[QK]at hc
  refine T0 (T4 (by omega) (by omega)) λk _=>?_
  have next:∀l,Kh n c l->Qd (Gg x l) λo=>(∀s',o=.inl s'->i<e.Cancel.length/\s'.1=((i+1:Nat):Int)/\Kh n c s'.2)/\∀r:L_ QBg,o=.inr r->Kh n c r:=λl hl=>by
   unfold Gg
   exact T2 (QO (ix:=λst:Int×L_ QBg=>st.1) (J:=λst:Int×L_ QBg=>Kh n c st.2) ⟨by omega,by subst hi;exact Qy (by omega) (by unfold maxLen;omega:e.Cancel.length<=maxLen),hl⟩)
  refine T1 (λD=>?_) λ_=>next l hJ
  simp only[QH,QK]at D
  refine T0 (T4 D.1 D.2) λ_ _=>?_
  refine next _ ⟨by simpa using hJ.1,λb hb=>?_⟩
  rcases Zw hb with rfl | hb
  ·exact⟨Rt.nil,by simp⟩
  exact hJ.2 b hb
 show Qd (Bw y q) _
 unfold Bw
 exact T0 (Qld n q y.1 c 20 h hq hy (by omega)) λz hz=>T2 hz
def QjV (n:Qe)(m:L_ QBg)(o:Qj)(c:Nat)(h:Xn n)(hm:Kh n c m)(hc:c<=800000)(ho:Kv n o):Qd (Yc n m o) λr=>r.2=0->Kh n (c+40) r.1:=by
 unfold Yc
 refine T0 (Qle n m o c h hm (by omega) ho) λx hx=>?_
 refine T1 (λhc=>T2 λh=>absurd h (by simpa using hc)) λD=>?_
 exact T0 (Qn8 n x.1 o (c+20) h (hx (by simpa using D)) (by omega) ho) λz hz=>T2 hz
def QhJ (n:Qe):L_ QBg->L_ Qj->O_ QMk
 | m,[]=>some m
 | m,o::l=>(Yc n m o).bind λx=>bif x.2==0 then QhJ n x.1 l else none
abbrev Bag := L_ (Int×Int)
def QjW (h:Bag->Bag->O_ (Bag×Int))(a b r:L_ Bag):Prop:=∀(j:Nat) x y,a[j]? = some x->b[j]? = some y->∃z,r[j]? = some z/\h x y=some (z,0)
def Can (h:Bag->Bag->O_ (Bag×Int))(a b:L_ Bag):Prop:=∀(j:Nat) x y,a[j]? = some x->b[j]? = some y->∃z,h x y=some (z,0)
def My {α:Type}{l:L_ α}{i:Nat}(h:i<l.length):l[i]? = some l[i]:=Qz h
def Qn9 {a b r:Bag}(h:a.length+b.length<=4294967296)(e:Ju a b=some (r,0)):Rt a/\Rt b/\Rt r/\∀k,QY r k=QY a k+QY b k:=by
 rcases HE a b h with⟨_,e'⟩|⟨_,_,_,e'⟩|⟨D,h2,r',e',h3,h4,_⟩
 ·rw[e]at e';cases e'
 ·rw[e]at e';cases e'
 rw[e]at e';cases e';exact⟨D,h2,h3,h4⟩
def Qno {a b r:Bag}(h:a.length+b.length<=4294967296)(e:JM a b=some (r,0)):Rt a/\Rt b/\Rt r/\(∀k,QY b k<=QY a k)/\∀k,QY r k=QY a k-QY b k:=by
 rcases PI a b h with⟨_,e'⟩|⟨_,_,_,e'⟩|⟨D,h2,h5,r',e',h3,h4,_⟩
 ·rw[e]at e';cases e'
 ·rw[e]at e';cases e'
 rw[e]at e';cases e';exact⟨D,h2,h3,h5,h4⟩
def QhK {n:Qe}{c:Nat}{m:L_ Bag}(h:Kh n c m){j:Nat}(D:j<n.Places.length):∃b,m[j]? = some b/\Rt b/\b.length<=c:=by
 have:j<m.length:=by have:=h.1;omega
 exact⟨m[j],My this,h.2 _ (Yf this)⟩
def QiT (n:Qe)(a b:L_ Bag)(c d:Nat)(h:Xn n)(ha:Kh n c a)(hb:Kh n d b)(hcd:c+d<=1000000):Qd (Eb a b) λr=>(r.2=0->r.1.length=n.Places.length/\QjW JM a b r.1)/\(Can JM a b->r.2=0):=by
 have hpl:=h.pl
 have ha1:=ha.1
 have hb1:=hb.1
 have hmin:min2 (a.length:Int) (b.length:Int)=(n.Places.length:Int):=by unfold min2;split<;>omega
 unfold Eb
 rw[hmin]
 refine T0 (T5 (by simp only[QH,QK];omega)) λ_ _=>?_
 refine T0 (Qd.up n.Places.length (λst=>st.1) (λst=>st.2.length=n.Places.length/\∀(j:Nat) x y,(j:Int)<st.1->a[j]? = some x->b[j]? = some y->∃z,st.2[j]? = some z/\JM x y=some (z,0)) (Q:=λq:Int⊕L_ Bag=>(∀x,q=.inl x->x≠0/\¬Can JM a b)/\∀m,q=.inr m->m.length=n.Places.length/\QjW JM a b m) rfl ⟨by simp,λj x y hj=>by omega⟩ (λi st hi hn hJ=>?_)) (λq hq=>?_)
 ·obtain⟨x,m⟩:=st
  replace hi:x=(i:Int):=hi
  obtain⟨hJ1,hJ2⟩:m.length=n.Places.length/\∀(j:Nat) u v,(j:Int)<x->a[j]? = some u->b[j]? = some v->∃z,m[j]? = some z/\JM u v=some (z,0):=hJ
  show Qd (Ub a b x m) _
  unfold Ub
  rw[hmin]
  refine T1 (λhc=>?_) (λhc=>T2 (Qn ⟨λx e=>(by cases e),λm' e=>(by cases e;exact⟨hJ1,λj u v hu hv=>hJ2 j u v (by
   simp only[Xj,ZG]at hc
   have:=(QX.1 hu).1
   omega) hu hv⟩)⟩))
  simp only[QK,ZG]at hc
  have i1:i<a.length:=by omega
  have i2:i<b.length:=by omega
  rw[hi,Xd,My i1,Qf,Xd,My i2,Qf]
  have hu2:=ha.2 _ (Yf i1)
  have hv2:=hb.2 _ (Yf i2)
  have key:∃s,JM a[i] b[i]=some s:=by
   rcases PI a[i] b[i] (by omega)with⟨_,e⟩|⟨_,_,_,e⟩|⟨_,_,_,r,e,h1,_,h2⟩
   ·exact⟨_,e⟩
   ·exact⟨_,e⟩
   exact⟨_,e⟩
  obtain⟨s,es⟩:=key
  rw[es,Qf]
  refine T0 (T4 (by omega) (by omega)) λ_ _=>?_
  refine T1 (λD=>T2 (Qn ⟨λx e=>(by cases e;exact⟨by simpa using D,λhcan=>by
   obtain⟨z,hz⟩:=hcan i _ _ (My i1) (My i2)
   rw[es]at hz
   cases hz
   simp at D⟩),λm' e=>(by cases e)⟩)) λD=>?_
  simp only[Ww]at D
  refine T2 (QO ⟨by omega,Qy (by omega) (by unfold maxLen;omega:n.Places.length<=maxLen),by simpa using hJ1,λj u v hj hu hv=>?_⟩)
  have hj:(j:Int)<Qi ((i:Int)+1):=hj
  rw[Qy (show i<n.Places.length by omega) (by unfold maxLen;omega)]at hj
  show ∃z,(m.set (i:Int).toNat s.1)[j]? = some z/\_
  by_cases cj:j=i
  ·subst cj
   rw[My i1]at hu;rw[My i2]at hv
   cases hu;cases hv
   refine⟨s.1,by rw[show((j:Int)).toNat=j from Ye j];exact OI (by omega),?_⟩
   rw[es,<-D]
  obtain⟨z,h1,h2⟩:=hJ2 j u v (by omega) hu hv
  exact⟨z,by rw[HI (by simp;omega)];exact h1,h2⟩
 rcases q with q | q
 ·have:=hq.1 q rfl
  exact T2 ⟨λh=>absurd h this.1,λh=>absurd h this.2⟩
 exact T2 ⟨λ_=>hq.2 q rfl,λ_=>rfl⟩
def Qis (n:Qe)(a b:L_ Bag)(c d:Nat)(h:Xn n)(ha:Kh n c a)(hb:Kh n d b)(hcd:c+d<=1000000):Qd (Gf a b) λr=>(r.2=0->r.1.length=n.Places.length/\QjW Ju a b r.1)/\(Can Ju a b->r.2=0):=by
 have hpl:=h.pl
 have ha1:=ha.1
 have hb1:=hb.1
 have hmin:min2 (a.length:Int) (b.length:Int)=(n.Places.length:Int):=by unfold min2;split<;>omega
 unfold Gf
 rw[hmin]
 refine T0 (T5 (by simp only[QH,QK];omega)) λ_ _=>?_
 refine T0 (Qd.up n.Places.length (λst=>st.1) (λst=>st.2.length=n.Places.length/\∀(j:Nat) x y,(j:Int)<st.1->a[j]? = some x->b[j]? = some y->∃z,st.2[j]? = some z/\Ju x y=some (z,0)) (Q:=λq:Int⊕L_ Bag=>(∀x,q=.inl x->x≠0/\¬Can Ju a b)/\∀m,q=.inr m->m.length=n.Places.length/\QjW Ju a b m) rfl ⟨by simp,λj x y hj=>by omega⟩ (λi st hi hn hJ=>?_)) (λq hq=>?_)
 ·obtain⟨x,m⟩:=st
  replace hi:x=(i:Int):=hi
  obtain⟨hJ1,hJ2⟩:m.length=n.Places.length/\∀(j:Nat) u v,(j:Int)<x->a[j]? = some u->b[j]? = some v->∃z,m[j]? = some z/\Ju u v=some (z,0):=hJ
  show Qd (DX a b x m) _
  unfold DX
  rw[hmin]
  refine T1 (λhc=>?_) (λhc=>T2 (Qn ⟨λx e=>(by cases e),λm' e=>(by cases e;exact⟨hJ1,λj u v hu hv=>hJ2 j u v (by
   simp only[Xj,ZG]at hc
   have:=(QX.1 hu).1
   omega) hu hv⟩)⟩))
  simp only[QK,ZG]at hc
  have i1:i<a.length:=by omega
  have i2:i<b.length:=by omega
  rw[hi,Xd,My i1,Qf,Xd,My i2,Qf]
  have hu2:=ha.2 _ (Yf i1)
  have hv2:=hb.2 _ (Yf i2)
  have key:∃s,Ju a[i] b[i]=some s:=by
   rcases HE a[i] b[i] (by omega)with⟨_,e⟩|⟨_,_,_,e⟩|⟨_,_,r,e,h1,_,h2⟩
   ·exact⟨_,e⟩
   ·exact⟨_,e⟩
   exact⟨_,e⟩
  obtain⟨s,es⟩:=key
  rw[es,Qf]
  refine T0 (T4 (by omega) (by omega)) λ_ _=>?_
  refine T1 (λD=>T2 (Qn ⟨λx e=>(by cases e;exact⟨by simpa using D,λhcan=>by
   obtain⟨z,hz⟩:=hcan i _ _ (My i1) (My i2)
   rw[es]at hz
   cases hz
   simp at D⟩),λm' e=>(by cases e)⟩)) λD=>?_
  simp only[Ww]at D
  refine T2 (QO ⟨by omega,Qy (by omega) (by unfold maxLen;omega:n.Places.length<=maxLen),by simpa using hJ1,λj u v hj hu hv=>?_⟩)
  have hj:(j:Int)<Qi ((i:Int)+1):=hj
  rw[Qy (show i<n.Places.length by omega) (by unfold maxLen;omega)]at hj
  show ∃z,(m.set (i:Int).toNat s.1)[j]? = some z/\_
  by_cases cj:j=i
  ·subst cj
   rw[My i1]at hu;rw[My i2]at hv
   cases hu;cases hv
   refine⟨s.1,by rw[show((j:Int)).toNat=j from Ye j];exact OI (by omega),?_⟩
   rw[es,<-D]
  obtain⟨z,h1,h2⟩:=hJ2 j u v (by omega) hu hv
  exact⟨z,by rw[HI (by simp;omega)];exact h1,h2⟩
 rcases q with q | q
 ·have:=hq.1 q rfl
  exact T2 ⟨λh=>absurd h this.1,λh=>absurd h this.2⟩
 exact T2 ⟨λ_=>hq.2 q rfl,λ_=>rfl⟩
def QjX {n:Qe}{m t:L_ Bag}{o:Qj}(h:AB n m o=some (t,0)):JC n m o=some 0/\∃D,Hu n o=some (D,0)/\Eb m D=some (t,0):=by
 unfold AB at h
 obtain⟨x,hx,h⟩:=Qv h
 rcases XN h with⟨c,h⟩|⟨c,h⟩
 ·simp only[Option.some.injEq,Prod.mk.injEq]at h
  rw[h.2]at c;cases c
 simp only[Ww]at c
 subst c
 obtain⟨y,hy,h⟩:=Qv h
 obtain⟨y1,y2⟩:=y
 rcases XN h with⟨c,h⟩|⟨c,h⟩
 ·simp only[Option.some.injEq,Prod.mk.injEq]at h
  simp only[h.2]at c;cases c
 simp only[Ww]at c
 subst c
 obtain⟨z,hz,h⟩:=Qv h
 obtain⟨z1,z2⟩:=z
 simp only[Option.some.injEq,Prod.mk.injEq]at h
 obtain⟨rfl,rfl⟩:=h
 exact⟨hx,y1,hy,hz⟩
def Qmr {n:Qe}{m x:L_ Bag}{o:Qj}(h:Yc n m o=some (x,0)):∃t,AB n m o=some (t,0)/\AC n t o=some (x,0):=by
 unfold Yc at h
 obtain⟨y,D,h⟩:=Qv h
 obtain⟨y1,y2⟩:=y
 rcases XN h with⟨c,h⟩|⟨c,h⟩
 ·simp only[Option.some.injEq,Prod.mk.injEq]at h
  simp only[h.2]at c;cases c
 simp only[Ww]at c
 subst c
 obtain⟨z,hz,h⟩:=Qv h
 obtain⟨z1,z2⟩:=z
 simp only[Option.some.injEq,Prod.mk.injEq]at h
 obtain⟨rfl,rfl⟩:=h
 exact⟨y1,D,hz⟩
def PJ : Bag->Int
 | []=>0
 | p::l=>p.2+PJ l
def Qlf {l m:Bag}(h:l.Perm m):PJ l=PJ m:=by
 induction h with
 | nil=>rfl
 | cons p _ ih=>simp only[PJ,ih]
 | swap p q l=>simp only[PJ];omega
 | trans _ _ D ih2=>rw[D,ih2]
def Qit (b:Bag)(hr:Rt b)(h:b.length<=maxLen):ER b=some (Qi (PJ b)):=by
 unfold ER
 rw[Vc b h,Ek.2 hr]
 show Bn b=_
 unfold Bn
 have D:∀(l:Bag) (s:Int),Jt (λst (p:Int×Int)=>Ke st p.1 p.2) (Qi s) l=some (.inl (Qi (s+PJ l))):=by
  intro l
  induction l with
  | nil=>intro s;simp[Jt,PJ]
  | cons p l ih=>
   intro s
   simp only[Jt]
   rw[show Ke (Qi s) p.1 p.2=some (.inl (Qi (s+p.2)))from by unfold Ke;rw[QcN]]
   simp only[Qf,Sum.elim_inl]
   rw[ih,PJ,Int.add_assoc]
 have h0:CC (λst (p:Int×Int)=>Ke st p.1 p.2) (0:Int) b=some (.inl (Qi (PJ b))):=by
  have e0:(0:Int)=Qi 0:=by decide
  rw[e0]
  refine BY.2 ⟨λl' hp=>?_,by rw[D];simp⟩
  rw[D,D,Qlf hp]
 rw[h0];rfl
def tS (m:L_ Bag):Nat->Int
 | 0=>0
 | i+1=>tS m i+PJ (m.getD i [])
def QaV {n:Qe}{c:Nat}{m:L_ Bag}(h:Xn n)(hm:Kh n c m)(hc:c<=1000000):Hj m=some (Qi (tS m m.length)):=by
 have hpl:=h.pl
 have hm1:=hm.1
 unfold Hj
 obtain⟨r,h1,h2⟩:=(Qd.up (body:=λst=>Fy m st.1 st.2) m.length (λst=>st.2) (λst=>st.1=Qi (tS m st.2.toNat)) (Q:=λq=>q=Qi (tS m m.length)) (s0:=((0:Int),(0:Int))) rfl (by show(0:Int)=Qi 0;decide) (λi st hi hn hJ=>by
  obtain⟨a,x⟩:=st
  replace hi:x=(i:Int):=hi
  replace hJ:a=Qi (tS m x.toNat):=hJ
  subst hi
  show Qd (Fy m a i) _
  unfold Fy
  refine T1 (λhc=>?_) (λhc=>T2 (Qn ?_))
  ·simp only[QK]at hc
   have D:i<m.length:=by omega
   have hb:=hm.2 _ (Yf D)
   rw[Xd,My D,Qf,Qit _ hb.1 (by have:=hb.2;unfold maxLen;omega),Qf]
   have hw:Qi ((i:Int)+1)=((i+1:Nat):Int):=Qy D (by unfold maxLen;omega)
   refine T2 (QO ⟨D,hw,?_⟩)
   show Qi (a+Qi (PJ m[i]))=Qi (tS m (Qi ((i:Int)+1)).toNat)
   rw[hw,hJ,QcN,Int.add_comm,QcN,Ye,Ye,tS,Qot,My D,Int.add_comm];rfl
  simp only[Xj]at hc
  rw[hJ,show(i:Int).toNat=m.length by omega]))
 rw[h1,h2];rfl
def Qms (n:Qe)(m:L_ Bag)(o:Qj)(c:Nat)(h:Xn n)(hm:Kh n c m)(hl:FW n m)(hc:c<=900000)(ho:Kv n o):Qd (AC n m o) λr=>r.2=0->FW n r.1:=by
 have hpl:=h.pl
 have hm1:=hm.1
 unfold AC
 refine T0 (Qjd n o h ho) λy hy=>?_
 refine T1 (λhc=>T2 λh=>absurd h (by simpa using hc)) λhc2=>?_
 obtain⟨⟨hy,hyl⟩,h1,h2⟩:=hy (by simpa using hc2)
 rw[NO m (by omega) (λb D=>by have:=(hm.2 b D).2;omega),Qf]
 refine T0 (T4 h1 h2) λe he=>?_
 have hcl:=(h.tk e he).2.2.2
 refine T0 (Qd.up e.Cancel.length (λst=>st.1) (λst=>Kh n c st.2/\FW n st.2) (Q:=λq=>Kh n c q/\FW n q) rfl ⟨hm,hl⟩ (λi st hi hn hJ=>?_)) (λq hq=>?_)
 ·obtain⟨x,l⟩:=st
  replace hi:x=(i:Int):=hi
  replace hJ:Kh n c l/\FW n l:=hJ
  show Qd (Bv e x l) _
  unfold Bv
  refine T1 (λhc=>?_) (λ_=>T2 (Qn hJ))
  simp only[QK]at hc
  refine T0 (T4 (by omega) (by omega)) λk _=>?_
  have next:∀l,Kh n c l/\FW n l->Qd (Gg x l) λo=>(∀s',o=.inl s'->i<e.Cancel.length/\s'.1=((i+1:Nat):Int)/\Kh n c s'.2/\FW n s'.2)/\∀r:L_ QBg,o=.inr r->Kh n c r/\FW n r:=λl hl=>by
   unfold Gg
   exact T2 (QO (ix:=λst:Int×L_ QBg=>st.1) (J:=λst:Int×L_ QBg=>Kh n c st.2/\FW n st.2) ⟨by omega,by subst hi;exact Qy (by omega) (by unfold maxLen;omega:e.Cancel.length<=maxLen),hl⟩)
  refine T1 (λhc3=>?_) λ_=>next l hJ
  simp only[QH,QK]at hc3
  refine T0 (T4 hc3.1 hc3.2) λ_ _=>?_
  refine next _ ⟨⟨by simpa using hJ.1.1,λb D=>?_⟩,λj b p D hp k' hk=>?_⟩
  ·rcases Zw D with rfl | D
   ·exact⟨Rt.nil,by simp⟩
   exact hJ.1.2 b D
  by_cases cj:k.toNat=j
  ·subst cj
   rw[OI (by omega)]at D
   cases D
   simp[QY,Qq]at hk
  rw[HI cj]at D
  exact hJ.2 j b p D hp k' hk
 show Qd (Bw y q) _
 unfold Bw
 refine T0 (Qis n q y.1 c 20 h hq.1 hy (by omega)) λz hz=>T2 λhz0=>?_
 obtain⟨zl,ze⟩:=hz.1 hz0
 intro j b p D hp k hk
 have hj:j<n.Places.length:=(QX.1 hp).1
 obtain⟨u,hu,hu1,hu2⟩:=QhK hq.1 hj
 obtain⟨v,hv,hv1,hv2⟩:=QhK hy hj
 obtain⟨s,hs1,hs2⟩:=ze j u v hu hv
 have hs1:z.1[j]? = some s:=hs1
 have D:z.1[j]? = some b:=D
 rw[D]at hs1;cases hs1
 have q:=(Qn9 (by omega) hs2).2.2.2 k
 by_cases c0:0<QY u k
 ·exact hq.2 j u p hu hp k c0
 exact hyl j v p hv hp k (by omega)
def Ym (n:Qe)(t:QG):L_ Int:=t.Vars.map λv=>(YP n.Colours v.Colour).getD 0
def CR (b:Xk)(r:L_ Int):Bool:=decide (Yk b r=some 0)
def El (n:Qe)(m:L_ QBg)(h:Int)(D outs:L_ (L_ Int))(p:L_ Int):L_ Qj:=match JB n m h p with
 | some (c,b)=>if c=0/\XL b=some 0 then D.flatMap λe=>if XJ b e=some 0 then(outs.filter (CR b)).map λo=>Qj.mk h p e o else []else []
 | none=>[]
def ne0 (g:Int):(g != 0)=!decide (some g=some (0:Int)):=by by_cases h:g=0<;>simp[h]
def Qlg (t:QG)(n:Qe)(l:L_ Int)(h:Xm n)(hl:l.length=t.Vars.length)(hv:t.Vars.length<=16)(hd:∀d∈l,0<=d/\d<=1024):
  Qd (QD (λst=>Dx t n st.1 st.2) ((Qi ((l.length:Int)-1)),l)) λq=>(-1<=q.1/\q.1<l.length/\q.2=l.take (q.1+1).toNat++List.replicate (l.length-(q.1+1).toNat) 0)/\(∀(j:Nat) x s,q.1<(j:Int)->l[j]? = some x->(Ym n t)[j]? = some s->¬x+1<s)/\∀x s,0<=q.1->l[q.1.toNat]? = some x->(Ym n t)[q.1.toNat]? = some s->x+1<s/\x<1024:=by
 have hw:Qi ((l.length:Int)-1)=(l.length:Int)-1:=XX (by omega)
 refine Qd.up l.length (λst=>(l.length:Int)-1-st.1) (λst=>st.2=l.take (st.1+1).toNat++List.replicate (l.length-(st.1+1).toNat) 0/\∀(j:Nat) x s,st.1<(j:Int)->l[j]? = some x->(Ym n t)[j]? = some s->¬x+1<s) (by rw[hw];omega) ⟨by
  rw[hw]
  show l=_
  rw[show((l.length:Int)-1+1).toNat=l.length by omega,Ft,Nat.sub_self];simp,λj x s hj hx=>by
  replace hj:Qi ((l.length:Int)-1)<(j:Int):=hj
  have:=(QX.1 hx).1
  omega⟩ (λi st hi hn hJ=>?_)
 obtain⟨a,d⟩:=st
 replace hi:(l.length:Int)-1-a=i:=hi
 obtain⟨hJ,hJ2⟩:d=l.take (a+1).toNat++List.replicate (l.length-(a+1).toNat) 0/\∀(j:Nat) x s,a<(j:Int)->l[j]? = some x->(Ym n t)[j]? = some s->¬x+1<s:=hJ
 have hdl:d.length=l.length:=by rw[hJ];simp;omega
 show Qd (Dx t n a d) _
 unfold Dx
 refine T0 (P:=λx=>(x=true->0<=a/\∀e s,l[a.toNat]? = some e->(Ym n t)[a.toNat]? = some s->¬e+1<s)/\(x=false->∀e s,0<=a->l[a.toNat]? = some e->(Ym n t)[a.toNat]? = some s->e+1<s/\e<1024)) ?_ λx hx=>?_
 ·unfold Nh
  refine T1 (λD=>?_) λD=>T2 ⟨λh=>(by cases h),λ_ e s he=>?_⟩
  ·simp only[QK]at D
   have hlt:a.toNat<l.length:=by omega
   have hlv:a.toNat<t.Vars.length:=by omega
   have ed:idx d a=some l[a.toNat]:=by
    rw[BG D,hJ,Jd (by simp;omega),Kj,if_pos (by omega),Qz hlt]
   have ev:idx t.Vars a=some t.Vars[a.toNat]:=by rw[BG D,Qz hlv]
   rw[ed,Qf,ev,Qf]
   refine T0 (Wt _ _ h.1).self λz hz=>?_
   obtain⟨hze,hz⟩:=hz
   have hsz:(Ym n t)[a.toNat]? = some z:=by
    unfold Ym
    rw[XQ,Qz hlv,JT,hze];rfl
   have h2:=hd _ (Yf hlt)
   rw[XX (by omega)]
   refine T2 ⟨λht=>⟨D,λe s he hs=>?_⟩,λhf e s _ he hs=>?_⟩
   ·rw[Qz hlt]at he
    cases he
    rw[hsz]at hs;cases hs
    simp only[QK]at ht
    omega
   rw[Qz hlt]at he
   cases he
   rw[hsz]at hs;cases hs
   simp only[Xj]at hf
   omega
  simp only[Xj]at D;omega
 unfold EA
 refine T1 (λD=>?_) λD=>?_
 ·obtain⟨ha,ha2⟩:=hx.1 D
  refine T0 (T4 ha (by omega)) λ_ _=>?_
  have hw2:Qi (a-1)=a-1:=XX (by omega)
  refine T2 (QO ⟨by omega,?_,?_,λj x s hj hx hs=>?_⟩)
  ·show(l.length:Int)-1-Qi (a-1)=_
   rw[hw2];omega
  ·show d.set a.toNat 0=l.take (Qi (a-1)+1).toNat++List.replicate (l.length-(Qi (a-1)+1).toNat) 0
   rw[hw2,hJ,show(a+1).toNat=a.toNat+1 by omega,Qir (by omega),show(a-1+1).toNat=a.toNat by omega]
   rw[show l.length-a.toNat=(l.length-(a.toNat+1))+1 by omega,List.replicate_succ]
  replace hj:Qi (a-1)<(j:Int):=hj
  rw[hw2]at hj
  by_cases c:a<(j:Int)
  ·exact hJ2 j x s c hx hs
  have:a.toNat=j:=by omega
  subst this
  exact ha2 x s hx hs
 exact T2 (Qn ⟨⟨by omega,by omega,hJ⟩,hJ2,hx.2 D⟩)
def QiU (n:Qe)(m:L_ QBg)(b:Xk)(l:L_ (L_ Int))(h:Xn n)(hb:BOk n m b)(hl:NN l):Qd (KD l b) λr=>(r=-1/\∀row∈l,CR b row=true)\/∃i:Nat,r=(i:Int)/\i<l.length/\(∀row∈l.take i,CR b row=true)/\∀row,l[i]? = some row->CR b row=false:=by
 have hl1:=hl.1
 unfold KD
 refine T0 (Qd.up l.length (λst=>st) (λst=>∀row∈l.take st.toNat,CR b row=true) (Q:=λq:Int⊕Unit=>(∀x,q=.inl x->∃i:Nat,x=(i:Int)/\i<l.length/\(∀row∈l.take i,CR b row=true)/\∀row,l[i]? = some row->CR b row=false)/\(q=.inr ()->∀row∈l,CR b row=true)) rfl (λrow h=>by cases h) (λi st hi hn hJ=>?_)) (λq hq=>?_)
 ·replace hi:st=(i:Int):=hi
  subst hi
  replace hJ:∀row∈l.take (i:Int).toNat,CR b row=true:=hJ
  rw[Ye]at hJ
  show Qd (WO l b i) _
  unfold WO Bt
  refine T1 (λhc=>?_) (λhc=>T2 (Qn ⟨λx h=>(by cases h),λ_=>?_⟩))
  ·simp only[QK]at hc
   have D:i<l.length:=by omega
   rw[Xd,Qz D,Qf]
   have:=hl.2 _ (Yf D)
   refine T0 (P:=λc:Bool=>c=!CR b l[i]) ?_ λc hcc=>?_
   ·refine T0 (QgJ n m b l[i] h hb (by omega)).self λg hg=>T2 ?_
    unfold CR
    rw[hg.1];exact ne0 g
   subst hcc
   refine T1 (λhc2=>T2 (Qn ⟨λx e=>(by cases e;exact⟨i,rfl,D,hJ,λrow hr=>by rw[Qz D]at hr;cases hr;simpa using hc2⟩),λe=>by cases e⟩)) λhc2=>?_
   have hw:Qi ((i:Int)+1)=((i+1:Nat):Int):=Qy D (by unfold maxLen;omega:l.length<=maxLen)
   refine T2 (QO ⟨D,hw,?_⟩)
   show ∀row∈l.take (Qi ((i:Int)+1)).toNat,CR b row=true
   rw[hw,Ye,Un,Qz D]
   intro row hr
   rcases YF.1 hr with hr | hr
   ·exact hJ row hr
   simp at hr;subst hr;simpa using hc2
  simp only[Xj]at hc
  rwa[Wp (by omega)]at hJ
 rcases q with q | q
 ·exact T2 (.inr (hq.1 q rfl))
 exact T2 (.inl ⟨rfl,hq.2 rfl⟩)
def QiV (n:Qe)(m:L_ QBg)(b:Xk)(l:L_ (L_ Int))(h:Xn n)(hb:BOk n m b)(hl:NN l):Qd (Ko l b) λr=>r=l.filter (CR b):=by
 have hl1:=hl.1
 unfold Ko
 refine T0 (QiU n m b l h hb hl) λx hx=>?_
 rcases hx with⟨rfl,hx⟩|⟨D,rfl,hi0,hx1,hx2⟩
 ·exact T1 (λ_=>T2 (List.filter_eq_self.2 hx).symm) λhc=>by simp at hc
 refine T1 (λhc=>by simp at hc) λ_=>?_
 have hw:Qi ((D:Int)+1)=(D:Int)+1:=XX (by omega)
 have hbad:=hx2 _ (Qz hi0)
 refine T0 (Qd.up (l.length-(D+1)) (λst=>st.2.1-((D:Int)+1)) (λst=>0<=st.1/\st.1<st.2.1/\st.2.2.length=l.length/\st.2.2.take st.1.toNat=(l.take st.2.1.toNat).filter (CR b)/\st.2.2.drop st.2.1.toNat=l.drop st.2.1.toNat) (Q:=λq:Int×L_ (L_ Int)=>0<=q.1/\q.1<=(l.length:Int)/\q.2.length=l.length/\q.2.take q.1.toNat=l.filter (CR b)) (by show Qi ((D:Int)+1)-((D:Int)+1)=0;omega) ⟨by show(0:Int)<=D;omega,by show(D:Int)<Qi ((D:Int)+1);omega,rfl,?_,rfl⟩ (λi st hi hn hJ=>?_)) (λq hq=>?_)
 ·show l.take (D:Int).toNat=(l.take (Qi ((D:Int)+1)).toNat).filter (CR b)
  rw[hw,Ye,show((D:Int)+1).toNat=D+1 by omega,Un,Qz hi0,Fp,List.filter_eq_self.2 hx1]
  show l.take D=l.take D++List.filter (CR b) [l[D]]
  rw[GJ,hbad]
  exact(OG _).symm
 ·obtain⟨a,j,l2⟩:=st
  replace hi:j-((D:Int)+1)=i:=hi
  obtain⟨j1,j2,j3,j4,j5⟩:0<=a/\a<j/\l2.length=l.length/\l2.take a.toNat=(l.take j.toNat).filter (CR b)/\l2.drop j.toNat=l.drop j.toNat:=hJ
  show Qd (JE b a j l2) _
  unfold JE Bt
  refine T1 (λhc=>?_) (λhc=>T2 (Qn ⟨j1,?_,j3,?_⟩))
  ·simp only[QK]at hc
   have hj:j.toNat<l2.length:=by omega
   have hj':j.toNat<l.length:=by omega
   have ej:l2[j.toNat]=l[j.toNat]:=by
    have:=congrArg List.head? j5
    rw[OH hj,OH hj']at this
    exact Option.some.inj this
   have ej5:l2.drop (j.toNat+1)=l.drop (j.toNat+1):=by
    have:=congrArg List.tail j5
    simpa using this
   rw[Qca (by omega) (by omega),Qf]
   have:=hl.2 _ (Yf hj')
   have hw2:Qi (j+1)=j+1:=XX (by omega)
   have hw3:Qi (a+1)=a+1:=XX (by omega)
   have tk:l.take (j+1).toNat=l.take j.toNat++[l[j.toNat]]:=by
    rw[show(j+1).toNat=j.toNat+1 by omega,Un,Qz hj'];rfl
   refine T0 (P:=λc:Bool=>c=!CR b l[j.toNat]) ?_ λc hcc=>?_
   ·rw[ej]
    refine T0 (QgJ n m b l[j.toNat] h hb (by omega)).self λg hg=>T2 ?_
    unfold CR
    rw[hg.1];exact ne0 g
   subst hcc
   refine T1 (λhc2=>?_) λhc2=>?_
   ·have hc2:CR b l[j.toNat]=true:=by simpa using hc2
    refine T0 (T4 (by omega) (by omega)) λ_ _=>?_
    refine T2 (QO ⟨by omega,by show Qi (j+1)-((D:Int)+1)=_;omega,by show 0<=Qi (a+1);omega,by show Qi (a+1)<Qi (j+1);omega,by simpa using j3,?_,?_⟩)
    ·show(l2.set a.toNat l2[j.toNat]).take (Qi (a+1)).toNat=(l.take (Qi (j+1)).toNat).filter (CR b)
     rw[hw2,hw3,tk,Fp,<-j4,show(a+1).toNat=a.toNat+1 by omega,Un,OI (by omega),List.take_set_of_le (Jn _),ej]
     simp[hc2]
    show(l2.set a.toNat l2[j.toNat]).drop (Qi (j+1)).toNat=l.drop (Qi (j+1)).toNat
    rw[hw2,show(j+1).toNat=j.toNat+1 by omega,List.drop_set_of_lt (by omega),ej5]
   have hc2:CR b l[j.toNat]=false:=by simpa using hc2
   refine T2 (QO ⟨by omega,by show Qi (j+1)-((D:Int)+1)=_;omega,j1,by show a<Qi (j+1);omega,j3,?_,?_⟩)
   ·show l2.take a.toNat=(l.take (Qi (j+1)).toNat).filter (CR b)
    rw[hw2,tk,Fp,<-j4]
    simp[hc2]
   show l2.drop (Qi (j+1)).toNat=l.drop (Qi (j+1)).toNat
   rw[hw2,show(j+1).toNat=j.toNat+1 by omega,ej5]
  ·simp only[Xj]at hc
   show a<=_
   omega
  simp only[Xj]at hc
  show l2.take a.toNat=_
  rw[j4,Wp (by omega)]
 obtain⟨q1,q2⟩:=q
 obtain⟨h1,h2,h3,h4⟩:0<=q1/\q1<=l.length/\q2.length=l.length/\q2.take q1.toNat=l.filter (CR b):=hq
 show Qd (JF q1 q2) _
 unfold JF
 refine T0 (T5 (by simp only[QH,QK];omega)) λ_ _=>?_
 refine T0 (T5 (by simp only[QH,QK,Kb,Wo,ZG];omega)) λ_ _=>?_
 refine T2 ?_
 rw[QcE (by simp;omega),List.take_take,Nat.min_self,h4]
def QjY (n:Qe)(m:L_ QBg)(task most:Int)(l5 l8:L_ Qj)(D outs:L_ (L_ Int))(p:L_ Int)(h:Xn n)(hm:Xa (Xa λ_=>True) m)(hmost:most<=4294967296\/l8.length+(El n m task D outs p).length<=4294967296)
  (hi:NN D) (ho:NN outs) (hp:p.length<=16) (ha:(l8.length:Int)<most):
  Qd (GR n m task most l5 D outs l8 p) λr=>r=KY most.toNat l8 (El n m task D outs p):=by
 have hil:=hi.1
 have hol:=ho.1
 unfold GR
 refine T0 (Qi9 n m task p h).self λx hx=>?_
 obtain⟨c,b⟩:=x
 obtain⟨hxe,hx⟩:=hx
 refine T0 (P:=λy=>(y=true->El n m task D outs p=[])/\(y=false->BOk n m b/\c=0/\XL b=some 0)) ?_ λy hy=>?_
 ·unfold Ho
  refine T1 (λhc=>T2 ⟨λ_=>?_,λh=>by cases h⟩) λhc=>?_
  ·unfold El
   rw[hxe]
   simp only
   rw[if_neg λe=>by simp[e.1]at hc]
  have hc:c=0:=by simpa using hc
  have hb:=hx hc
  refine T0 (Qg7 n m b h hb).self λg hg=>T2 ⟨λhg2=>?_,λhg2=>⟨hb,hc,?_⟩⟩
  ·unfold El
   rw[hxe]
   simp only
   rw[if_neg λe=>by rw[hg.1]at e;simp at e;simp[e.2]at hg2]
  rw[hg.1];simpa using hg2
 unfold Dv
 refine T1 (λhc=>T2 ?_) λhc=>?_
 ·rw[hy.1 hc,Zn (by omega)]
 obtain⟨hb,hc0,hgd⟩:=hy.2 hc
 refine T0 (P:=λz=>z=outs) (by unfold Dc;exact T0 (T5 (by simp;omega)) λ_ _=>T2 rfl) λx19 h19=>?_
 rw[h19]
 refine T0 (QiV n m b outs h hb ho) λx20 h20=>?_
 have h20l:x20.length<=16:=by rw[h20];exact Yh (Fq _ _) ho.1
 have h20e:∀r∈x20,r.length<=16:=λr hr=>by rw[h20]at hr;exact ho.2 r (Eo.1 hr).1
 have hR:El n m task D outs p=D.flatMap λe=>if XJ b e=some 0 then x20.map (λo=>Qj.mk task p e o)else []:=by
  unfold El
  rw[hxe]
  simp only
  rw[if_pos ⟨hc0,hgd⟩,h20]
 rw[hR]at hmost ⊢
 generalize hg:(λe=>if XJ b e=some 0 then x20.map (λo=>Qj.mk task p e o)else [])=g at hmost ⊢
 refine T0 (Qd.up D.length (λst=>st.1) (λst=>(st.2.length:Int)<most/\KY most.toNat st.2 ((D.drop st.1.toNat).flatMap g)=KY most.toNat l8 (D.flatMap g)/\st.2.length+((D.drop st.1.toNat).flatMap g).length=l8.length+(D.flatMap g).length) (Q:=λq=>q=KY most.toNat l8 (D.flatMap g)) rfl ⟨ha,rfl,rfl⟩ (λi st hi2 hn hJ=>?_)) (λq hq=>?_)
 ·obtain⟨j,l⟩:=st
  replace hi2:j=(i:Int):=hi2
  subst hi2
  obtain⟨hJ1,hJ2,hJ3⟩:(l.length:Int)<most/\KY most.toNat l ((D.drop (i:Int).toNat).flatMap g)=KY most.toNat l8 (D.flatMap g)/\l.length+((D.drop (i:Int).toNat).flatMap g).length=l8.length+(D.flatMap g).length:=hJ
  rw[Ye]at hJ2 hJ3
  show Qd (Du D (c,b) x20 p task most i l) _
  unfold Du
  refine T1 (λhc=>?_) (λhc=>T2 (Qn ?_))
  ·simp only[QK]at hc
   have hlt:i<D.length:=by omega
   have hel:=hi.2 _ (Yf hlt)
   rw[Xd,Qz hlt,Qf]
   rw[OH hlt,LA,Qi4]at hJ2
   rw[OH hlt,LA,Kb]at hJ3
   have next:∀l',(l'.length:Int)<most->KY most.toNat l' ((D.drop (i+1)).flatMap g)=KY most.toNat l8 (D.flatMap g)->l'.length+((D.drop (i+1)).flatMap g).length=l8.length+(D.flatMap g).length->Qd (KR i l') λo=>(∀s',o=.inl s'->i<D.length/\s'.1=((i+1:Nat):Int)/\(s'.2.length:Int)<most/\KY most.toNat s'.2 ((D.drop s'.1.toNat).flatMap g)=KY most.toNat l8 (D.flatMap g)/\s'.2.length+((D.drop s'.1.toNat).flatMap g).length=l8.length+(D.flatMap g).length)/\∀r:L_ Qj⊕L_ Qj,o=.inr r->r=KY most.toNat l8 (D.flatMap g):=λl' hl1 hl2 hl3=>by
    have hw:Qi ((i:Int)+1)=((i+1:Nat):Int):=Qy hlt (by unfold maxLen;omega:D.length<=maxLen)
    unfold KR
    exact T2 (QO (ix:=λst:Int×L_ Qj=>st.1) (J:=λst:Int×L_ Qj=>(st.2.length:Int)<most/\KY most.toNat st.2 ((D.drop st.1.toNat).flatMap g)=KY most.toNat l8 (D.flatMap g)/\st.2.length+((D.drop st.1.toNat).flatMap g).length=l8.length+(D.flatMap g).length) ⟨hlt,hw,hl1,by
     show KY most.toNat l' ((D.drop (Qi ((i:Int)+1)).toNat).flatMap g)=_/\l'.length+((D.drop (Qi ((i:Int)+1)).toNat).flatMap g).length=_
     rw[hw,Ye];exact⟨hl2,hl3⟩⟩)
   refine T0 (Qja n m b D[i] h hb hm (by omega)).self λz hz=>?_
   refine T1 (λhc2=>?_) λhc2=>?_
   ·have:g D[i]=[]:=by
     rw[<-hg];simp only
     rw[if_neg λe=>by rw[hz.1]at e;simp at e;simp[e]at hc2]
    rw[this,Zn (by omega)]at hJ2
    rw[this]at hJ3
    exact next l hJ1 hJ2 (by simpa using hJ3)
   have hge:g D[i]=x20.map (λo=>Qj.mk task p D[i] o):=by
    rw[<-hg];simp only
    rw[if_pos (by rw[hz.1];simpa using hc2)]
   rw[hge]at hJ2 hJ3
   rw[GK]at hJ3
   refine T0 (Qd.up x20.length (λst=>st.1) (λst=>(st.2.length:Int)<most/\KY most.toNat st.2 ((x20.drop st.1.toNat).map λo=>Qj.mk task p D[i] o)=KY most.toNat l (x20.map λo=>Qj.mk task p D[i] o)/\(st.2.length:Int)=l.length+st.1) (Q:=λq=>q=KY most.toNat l (x20.map λo=>Qj.mk task p D[i] o)) rfl ⟨hJ1,rfl,by simp⟩ (λi2 st hi3 hn2 hK=>?_)) (λq hq=>?_)
   ·obtain⟨j2,l2⟩:=st
    replace hi3:j2=(i2:Int):=hi3
    subst hi3
    obtain⟨hK1,hK2,hK3⟩:(l2.length:Int)<most/\KY most.toNat l2 ((x20.drop (i2:Int).toNat).map λo=>Qj.mk task p D[i] o)=KY most.toNat l (x20.map λo=>Qj.mk task p D[i] o)/\(l2.length:Int)=l.length+(i2:Int):=hK
    rw[Ye]at hK2
    show Qd (Dt x20 p D[i] task most i2 l2) _
    unfold Dt
    refine T1 (λhc=>?_) (λhc=>T2 (Qn ?_))
    ·simp only[QK]at hc
     have hlt2:i2<x20.length:=by omega
     have hel2:=h20e _ (Yf hlt2)
     rw[Xd,Qz hlt2,Qf]
     rw[OH hlt2,DQ,Qmk]at hK2
     rw[Pq p (by omega),Qf,Pq D[i] (by omega),Qf,Pq x20[i2] (by omega),Qf]
     refine T0 (T5 (by simp;omega)) λ_ _=>?_
     refine T1 (λhc2=>T2 (Qn ?_)) λhc2=>?_
     ·simp only[beq_iff_eq,Kb,BU]at hc2
      rw[Qmj (by simp;omega)]at hK2
      exact hK2
     simp only[beq_eq_false_iff_ne,Kb,BU]at hc2
     have hw:Qi ((i2:Int)+1)=((i2+1:Nat):Int):=Qy hlt2 (by unfold maxLen;omega:x20.length<=maxLen)
     refine T2 (QO ⟨hlt2,hw,by show((l2++[_]).length:Int)<most;simp;omega,?_,by show((l2++[_]).length:Int)=l.length+Qi ((i2:Int)+1);rw[hw];simp;omega⟩)
     show KY most.toNat (l2++[_]) ((x20.drop (Qi ((i2:Int)+1)).toNat).map _)=_
     rw[hw,Ye];exact hK2
    simp only[Xj]at hc
    rw[QeL (by omega),List.map_nil,Zn (by omega)]at hK2
    exact hK2
   rw[<-hq]at hJ2
   rcases q with q | q
   ·exact T2 (Qn hJ2)
   exact next q (by have:=Qk6 hq.symm;omega) hJ2 (by
    have e:=congrArg List.length (Qi5 hq.symm)
    rw[Kb,GK]at e
    omega)
  simp only[Xj]at hc
  rw[QeL (by omega),List.flatMap_nil,Zn (by omega)]at hJ2
  exact hJ2
 rcases q with q | q
 ·exact T2 hq
 exact T2 hq
def Qhz (n:Qe)(m:L_ QBg)(D most:Int)(l5:L_ Qj)(ins outs:L_ (L_ Int))(t:QG)(h:Xn n)(hm:Xa (Xa λ_=>True) m)(hmost:most<=4294967296\/((binds (Ym n t)).flatMap (El n m D ins outs)).length<=4294967296)(h1:1<=most)
  (hi:NN ins) (ho:NN outs) (ht:t∈n.Tasks):Qd (AR n m D most l5 ins outs [] t n) λr=>∀a,r=.inl a\/r=.inr a->a=((binds (Ym n t)).flatMap (El n m D ins outs)).take most.toNat:=by
 have hv:=(h.tk t ht).1
 have hsz:(Ym n t).length=t.Vars.length:=by simp[Ym]
 generalize hrl:El n m D ins outs=rl at hmost ⊢
 have fin:∀q:L_ Qj⊕L_ Qj,q.swap=KY most.toNat [] ((binds (Ym n t)).flatMap rl)->∀a,q=.inl a\/q=.inr a->a=((binds (Ym n t)).flatMap rl).take most.toNat:=λq hq a ha=>by
  rw[<-Qml (by omega:0<most.toNat),<-hq]
  rcases ha with rfl | rfl<;>rfl
 unfold AR
 refine T0 (T5 (by simp only[QH,QK];omega)) λ_ _=>?_
 refine T0 (Qlc (λst=>(Dz (Ym n t) st.1).length) (λst=>st.1.length=t.Vars.length/\(∀d∈st.1,0<=d/\d<=1024)/\(st.2.length:Int)<most/\KY most.toNat st.2 ((st.1::Dz (Ym n t) st.1).flatMap rl)=KY most.toNat [] ((binds (Ym n t)).flatMap rl)/\st.2.length+((st.1::Dz (Ym n t) st.1).flatMap rl).length=((binds (Ym n t)).flatMap rl).length) (Q:=λq:L_ Qj⊕L_ Qj=>q.swap=KY most.toNat [] ((binds (Ym n t)).flatMap rl))
  ⟨by simp,λd hd=>by have:=ZD hd;omega,by simp;omega,?_⟩ (λst hJ=>?_)) (λq hq=>?_)
 ·show KY most.toNat [] ((List.replicate (t.Vars.length:Int).toNat 0::Dz (Ym n t) (List.replicate (t.Vars.length:Int).toNat 0)).flatMap rl)=_/\0+((List.replicate (t.Vars.length:Int).toNat 0::Dz (Ym n t) (List.replicate (t.Vars.length:Int).toNat 0)).flatMap rl).length=_
  rw[QdL (Ym n t),HA,hsz,Ye,Cx]
  exact⟨rfl,rfl⟩
 ·obtain⟨d,l⟩:=st
  obtain⟨j1,j2,j3,j4,j5⟩:d.length=t.Vars.length/\(∀d'∈d,0<=d'/\d'<=1024)/\(l.length:Int)<most/\KY most.toNat l ((d::Dz (Ym n t) d).flatMap rl)=KY most.toNat [] ((binds (Ym n t)).flatMap rl)/\l.length+((d::Dz (Ym n t) d).flatMap rl).length=((binds (Ym n t)).flatMap rl).length:=hJ
  rw[LA,Kb]at j5
  show Qd (ED n m D most l5 ins outs t n d l) _
  unfold ED
  rw[Pq d (by omega),Qf]
  refine T0 (QjY n m D most l5 l ins outs d h hm (by rw[hrl];omega) hi ho (by omega) j3) λr hr=>?_
  rw[hrl]at hr
  rw[LA,Qi4,<-hr]at j4
  rcases r with r | r
  ·exact T2 ⟨λs' e=>(by cases e),λq e=>(by cases e;exact j4)⟩
  have hacc:=Qk6 hr.symm
  have hlen:=congrArg List.length (Qi5 hr.symm)
  rw[Kb]at hlen
  replace j4:KY most.toNat r ((Dz (Ym n t) d).flatMap rl)=KY most.toNat [] ((binds (Ym n t)).flatMap rl):=j4
  show Qd (EC t n d r) _
  unfold EC
  refine T0 (Qlg t n d h.k j1 hv j2) λq hq=>?_
  obtain⟨a,d2⟩:=q
  obtain⟨⟨q1,q2,q3⟩,q4,q5⟩:(-1<=a/\a<d.length/\d2=d.take (a+1).toNat++List.replicate (d.length-(a+1).toNat) 0)/\(∀(j:Nat) x s,a<(j:Int)->d[j]? = some x->(Ym n t)[j]? = some s->¬x+1<s)/\∀x s,0<=a->d[a.toNat]? = some x->(Ym n t)[a.toNat]? = some s->x+1<s/\x<1024:=hq
  have hnx:=QjQ (Ym n t) d
  show Qd (EB r a d2) _
  unfold EB
  refine T1 (λhc=>T2 ⟨λs' e=>(by cases e),λq e=>(by
   cases e
   simp only[QK]at hc
   rw[Qg5 (Ym n t) d λj x s=>q4 j x s (by omega)]at hnx
   simp only at hnx
   rw[hnx,List.flatMap_nil,Zn hacc]at j4
   exact j4)⟩) λhc=>?_
  simp only[Xj]at hc
  have hlt:a.toNat<d.length:=by omega
  have hls:a.toNat<(Ym n t).length:=by omega
  have ed:idx d2 a=some d[a.toNat]:=by
   rw[BG (by omega),q3,Jd (by simp;omega),Kj,if_pos (by omega),Qz hlt]
  rw[ed,Qf,Qf]
  have h9:=q5 _ _ (by omega) (Qz hlt) (Qz hls)
  have h10:=j2 _ (Yf hlt)
  rw[XX (by omega)]
  have e3:d2.set a.toNat (d[a.toNat]+1)=d.take a.toNat++(d[a.toNat]+1)::List.replicate (d.length-(a.toNat+1)) 0:=by
   rw[q3,show(a+1).toNat=a.toNat+1 by omega,Qir hlt]
  rw[e3]
  have hd3:∀x∈d.take a.toNat++(d[a.toNat]+1)::List.replicate (d.length-(a.toNat+1)) 0,0<=x/\x<=1024:=λx hx=>by
   rcases YF.1 hx with hx | hx
   ·exact j2 x (UT hx)
   rcases Yg.1 hx with rfl | hx
   ·omega
   have:=ZD hx;omega
  have hlen2:(d.take a.toNat++(d[a.toNat]+1)::List.replicate (d.length-(a.toNat+1)) 0).length=t.Vars.length:=by simp;omega
  rw[Qni a.toNat (Ym n t) d _ _ (by omega) (Qz hlt) (Qz hls) h9.1 λj y z hj=>q4 j y z (by omega)]at hnx
  simp only at hnx
  rw[hnx]at j4
  exact T2 ⟨λs' e=>(by
   cases e
   refine⟨?_,hlen2,hd3,by show(r.length:Int)<most;omega,j4,by show r.length+(List.flatMap rl (_::_)).length=_;rw[<-hnx];omega⟩
   show(Dz (Ym n t) (d.take a.toNat++(d[a.toNat]+1)::List.replicate (d.length-(a.toNat+1)) 0)).length<(Dz (Ym n t) d).length
   rw[hnx,DP];omega),λq e=>(by cases e)⟩
 rcases q with q | q
 ·exact T2 λa ha=>fin _ hq a (by rcases ha with ha | ha<;>cases ha;exact .inl rfl)
 exact T2 λa ha=>fin _ hq a (by rcases ha with ha | ha<;>cases ha;exact .inr rfl)
def Pr (D h:Int):L_ (L_ Int):=(We D h).getD []
def YY (n:Qe)(m:L_ QBg)(h:Int):L_ Qj:=match idx n.Tasks h with
 | some t=>(binds (Ym n t)).flatMap (El n m h (Pr t.Join t.Ins.length) (Pr t.Split t.Outs.length))
 | none=>[]
def QjZ (n:Qe)(m:L_ QBg)(D most:Int)(h:Xn n)(hm:Xa (Xa λ_=>True) m)(hmost:most<=4294967296\/(YY n m D).length<=4294967296):Ht n m D most=some ((YY n m D).take most.toNat):=by
 have key:Qd (Ht n m D most) λr=>r=(YY n m D).take most.toNat:=by
  unfold Ht
  refine T1 (λhc=>T2 ?_) λhc=>?_
  ·simp only[Wa,QK]at hc
   rcases hc with hc | hc | hc
   ·unfold YY idx
    rw[if_neg (by omega)];simp
   ·unfold YY idx
    rw[if_pos (by omega),ZF (by omega)];simp
   rw[show most.toNat=0 by omega,List.take_zero]
  simp only[KZ,Xj]at hc
  refine T0 (T4 (by omega) (by omega)).self λe he=>?_
  refine T0 (Vd _ _).self λx hx=>?_
  refine T0 (Vd _ _).self λy hy=>?_
  refine T0 (P:=λz=>z=(n,e)) (T2 rfl) λz hz=>?_
  subst hz
  have hml:YY n m D=(binds (Ym n e)).flatMap (El n m D x y):=by
   unfold YY Pr
   rw[he.1]
   simp only
   rw[hx.1,hy.1];rfl
  refine T0 (Qhz n m D most [] x y e h hm (by rw[<-hml];exact hmost) (by omega) hx.2 hy.2 he.2) λr hr=>?_
  rw[hml]
  rcases r with r | r
  ·exact T2 (hr r (.inl rfl))
  exact T2 (hr r (.inr rfl))
 obtain⟨r,h1,h2⟩:=key
 rw[h1,h2]
def YM (n:Qe)(m:L_ QBg):L_ Qj:=(List.range n.Tasks.length).flatMap λ(k:Nat)=>YY n m (k:Int)
def Qmt {α:Type}(f:Nat->L_ α)(N:Nat):∀k,k<=N->∃r,(List.range N).flatMap f=(List.range k).flatMap f++r:=by
 induction N with
 | zero=>intro k h;exact⟨[],by rw[show k=0 by omega];rfl⟩
 | succ N ih=>
  intro k h
  by_cases c:k=N+1
  ·subst c;exact⟨[],by simp⟩
  obtain⟨r,D⟩:=ih k (by omega)
  exact⟨r++f N,by rw[List.range_succ,QcD,List.flatMap_singleton,D,Wn]⟩
def QeE (n:Qe)(m:L_ QBg)(most:Int)(h:Xn n)(hm:Xa (Xa λ_=>True) m)(h0:0<=most)(h1:most<=9223372036854775807)(hmost:most<=4294967296\/(YM n m).length<=4294967296):HZ n m most=some ((YM n m).take most.toNat):=by
 have key:Qd (HZ n m most) λr=>r=(YM n m).take most.toNat:=by
  unfold HZ
  refine T0 (Qd.up n.Tasks.length (λst=>st.1) (λst=>st.2=((List.range st.1.toNat).flatMap λ(k:Nat)=>YY n m (k:Int)).take most.toNat) (Q:=λq=>q=(YM n m).take most.toNat) rfl (by simp) (λi st hi hn D=>?_)) (λq hq=>T2 hq)
  obtain⟨x,l⟩:=st
  replace hi:x=(i:Int):=hi
  subst hi
  replace D:l=((List.range (i:Int).toNat).flatMap λ(k:Nat)=>YY n m (k:Int)).take most.toNat:=D
  rw[Ye]at D
  show Qd (PC n m most i l) _
  unfold PC
  refine T1 (λhc=>?_) (λhc=>T2 (Qn ?_))
  ·simp only[QK]at hc
   have hll:l.length<=most.toNat:=by rw[D];exact List.length_take_le _ _
   have hw:Qi (most-(l.length:Int))=most-(l.length:Int):=XX (by omega)
   obtain⟨rest,hrest⟩:=Qmt (λ(k:Nat)=>YY n m (k:Int)) n.Tasks.length (i+1) (by omega)
   have hle:((List.range i).flatMap λ(k:Nat)=>YY n m (k:Int)).length+(YY n m (i:Int)).length<=(YM n m).length:=by
    unfold YM
    rw[hrest,List.range_succ,QcD,List.flatMap_singleton];simp
   have hl2:l.length<=((List.range i).flatMap λ(k:Nat)=>YY n m (k:Int)).length:=by rw[D];exact List.length_take_le' _ _
   rw[hw,QjZ n m i _ h hm (by omega),Qf]
   have e:l++(YY n m (i:Int)).take (most-(l.length:Int)).toNat=((List.range (i+1)).flatMap λ(k:Nat)=>YY n m (k:Int)).take most.toNat:=by
    rw[List.range_succ,QcD,List.flatMap_singleton,List.take_append,<-D]
    congr 1
    by_cases c:((List.range i).flatMap λ(k:Nat)=>YY n m (k:Int)).length<=most.toNat
    ·have:l.length=((List.range i).flatMap λ(k:Nat)=>YY n m (k:Int)).length:=by rw[D,Wo];omega
     congr 1;omega
    have:l.length=most.toNat:=by rw[D,Wo];omega
    rw[show(most-(l.length:Int)).toNat=0 by omega,show most.toNat-((List.range i).flatMap λ(k:Nat)=>YY n m (k:Int)).length=0 by omega]
   rw[e]
   refine T0 (T5 (by
    have:=List.length_take_le (most-(l.length:Int)).toNat (YY n m (i:Int))
    have:=List.length_take_le' (most-(l.length:Int)).toNat (YY n m (i:Int))
    simp only[QK];omega)) λ_ _=>?_
   have hw2:Qi ((i:Int)+1)=((i+1:Nat):Int):=Qy (by omega:i<n.Tasks.length) h.k.2.2.1.1
   refine T2 (QO ⟨by omega,hw2,?_⟩)
   show _=((List.range (Qi ((i:Int)+1)).toNat).flatMap λ(k:Nat)=>YY n m (k:Int)).take most.toNat
   rw[hw2,Ye]
  simp only[Xj]at hc
  rw[D,show i=n.Tasks.length by omega];rfl
 obtain⟨r,h1,h2⟩:=key
 rw[h1,h2]
def Qlh {n:Qe}{m:L_ QBg}{D:Int}{ins outs:L_ (L_ Int)}{p:L_ Int}{o:Qj}:
  o∈El n m D ins outs p↔o.Task=D/\o.Vars=p/\o.Ins∈ins/\o.Outs∈outs/\∃b,JB n m D p=some (0,b)/\XL b=some 0/\XJ b o.Ins=some 0/\Yk b o.Outs=some 0:=by
 unfold El
 cases hb:JB n m D p with
 | none=>simp
 | some x=>
  obtain⟨c,b⟩:=x
  simp only
  by_cases hc:c=0/\XL b=some 0
  ·rw[if_pos hc]
   obtain⟨rfl,hg⟩:=hc
   simp only[List.mem_flatMap]
   constructor
   ·rintro ⟨e,he,h⟩
    by_cases ht:XJ b e=some 0
    ·rw[if_pos ht]at h
     obtain⟨r,hr,rfl⟩:=Ys.1 h
     obtain⟨h1,h2⟩:=Eo.1 hr
     exact⟨rfl,rfl,he,h1,b,rfl,hg,ht,Xs h2⟩
    rw[if_neg ht]at h;cases h
   rintro ⟨h1,h2,h3,h4,b',h5,h6,h7,h8⟩
   cases h5
   refine⟨o.Ins,h3,?_⟩
   rw[if_pos h7]
   refine Ys.2 ⟨o.Outs,Eo.2 ⟨h4,Yw h8⟩,?_⟩
   cases o
   simp only at h1 h2
   subst h1;subst h2;rfl
  rw[if_neg hc]
  constructor
  ·intro h;cases h
  rintro ⟨_,_,_,_,b',h5,h6,_⟩
  cases h5
  exact absurd ⟨rfl,h6⟩ hc
def MG {n:Qe}{m:L_ QBg}{h:Int}{o:Qj}:
  o∈YY n m h↔o.Task=h/\∃e,idx n.Tasks h=some e/\inB (Ym n e) o.Vars/\o.Ins∈Pr e.Join e.Ins.length/\o.Outs∈Pr e.Split e.Outs.length/\∃b,JB n m h o.Vars=some (0,b)/\XL b=some 0/\XJ b o.Ins=some 0/\Yk b o.Outs=some 0:=by
 unfold YY
 cases he:idx n.Tasks h with
 | none=>simp
 | some e=>
  simp only[List.mem_flatMap,Qk5,Qlh,Option.some.injEq,exists_eq_left']
  constructor
  ·rintro ⟨p,D,h2,rfl,h3,h4,h5⟩
   exact⟨h2,D,h3,h4,h5⟩
  rintro ⟨D,h2,h3,h4,h5⟩
  exact⟨o.Vars,h2,D,rfl,h3,h4,h5⟩
def QgK {n:Qe}{m:L_ QBg}{o:Qj}:o∈YM n m↔o∈YY n m o.Task:=by
 unfold YM
 simp only[List.mem_flatMap,Ep]
 constructor
 ·rintro ⟨k,hk,h⟩
  have:=(MG.1 h).1
  rwa[this]
 intro h
 obtain⟨_,e,D,_⟩:=MG.1 h
 have h0:0<=o.Task:=by
  unfold idx at D
  split at D
  ·assumption
  cases D
 rw[BG h0]at D
 have:=(QX.1 D).1
 exact⟨o.Task.toNat,this,by rwa[show((o.Task.toNat:Nat):Int)=o.Task by omega]⟩
def Qj0 (a b:L_ Int)(ha:a.length<=maxLen):Jl a b=some (decide (a=b)):=by
 have key:Qd (Jl a b) λr=>r=decide (a=b):=by
  unfold Jl
  refine T1 (λhc=>T2 ?_) λhc=>?_
  ·rw[KJ λe=>by subst e;simp at hc]
  simp only[Ww]at hc
  have hc:a.length=b.length:=by omega
  refine T0 (Qd.up a.length (λst=>st) (λst=>a.take st.toNat=b.take st.toNat) (Q:=λq:Unit⊕Unit=>(q=.inl ()->a≠b)/\(q=.inr ()->a=b)) rfl rfl (λi st hi hn hJ=>?_)) (λq hq=>?_)
  ·replace hi:st=(i:Int):=hi
   subst hi
   replace hJ:a.take (i:Int).toNat=b.take (i:Int).toNat:=hJ
   rw[Ye]at hJ
   show Qd (Kq a b i) _
   unfold Kq
   refine T1 (λD=>?_) (λD=>T2 (Qn ⟨λe=>(by cases e),λ_=>?_⟩))
   ·simp only[QK]at D
    have i1:i<a.length:=by omega
    have i2:i<b.length:=by omega
    rw[Xd,Qz i1,Qf,Xd,Qz i2,Qf]
    refine T1 (λh=>T2 (Qn ⟨λ_ e=>?_,λe=>by cases e⟩)) λh=>?_
    ·subst e;simp at h
    have hw:Qi ((i:Int)+1)=((i+1:Nat):Int):=Qy i1 ha
    refine T2 (QO ⟨i1,hw,?_⟩)
    show a.take (Qi ((i:Int)+1)).toNat=b.take (Qi ((i:Int)+1)).toNat
    rw[hw,Ye,Un,Un,hJ,Qz i1,Qz i2]
    simp only[Ww]at h
    rw[h]
   simp only[Xj]at D
   rwa[Wp (by omega),Wp (by omega)]at hJ
  rcases q with q | q
  ·exact T2 (KJ (hq.1 rfl)).symm
  exact T2 (Yw (hq.2 rfl)).symm
 obtain⟨r,h1,h2⟩:=key
 rw[h1,h2]
def Qcq (D h:Int):We D h=some (Pr D h)/\NN (Pr D h):=by
 obtain⟨r,h1,h2⟩:=Vd D h
 unfold Pr
 rw[h1]
 exact⟨rfl,h2⟩
def OY (D h:Int)(row:L_ Int):DJ D h row=some (decide (row∈Pr D h)):=by
 have key:Qd (DJ D h row) λr=>r=decide (row∈Pr D h):=by
  unfold DJ KF KE
  obtain⟨e,hx⟩:=Qcq D h
  rw[e,Qf]
  generalize Pr D h=x at hx
  have hl:=hx.1
  have key:Qd ((QD (λst=>Yo x row st) 0)) λq:Int⊕Unit=>(∀k,q=.inl k->0<=k/\row∈x)/\(q=.inr ()->row ∉ x):=by
   refine Qd.up x.length (λst=>st) (λst=>row ∉ x.take st.toNat) rfl (by simp) (λi st hi hn hJ=>?_)
   replace hi:st=(i:Int):=hi
   subst hi
   replace hJ:row ∉ x.take (i:Int).toNat:=hJ
   rw[Ye]at hJ
   show Qd (Yo x row i) _
   unfold Yo Fz
   refine T1 (λhc=>?_) (λhc=>T2 (Qn ⟨λk e=>(by cases e),λ_=>?_⟩))
   ·simp only[QK]at hc
    have i1:i<x.length:=by omega
    have:=hx.2 _ (Yf i1)
    rw[Xd,Qz i1,Qf,Qj0 _ _ (by unfold maxLen;omega)]
    simp only[Qf]
    refine T1 (λhc2=>T2 (Qn ⟨λk e=>(by cases e;exact⟨by omega,by rw[<-Xs hc2];exact Yf i1⟩),λe=>by cases e⟩)) λhc2=>?_
    have hw:Qi ((i:Int)+1)=((i+1:Nat):Int):=Qy i1 (by unfold maxLen;omega:x.length<=maxLen)
    refine T2 (QO ⟨i1,hw,?_⟩)
    show row ∉ x.take (Qi ((i:Int)+1)).toNat
    rw[hw,Ye,Un,Qz i1]
    simp only[Option.toList_some,YF,AI,not_or]
    exact⟨hJ,λe=>of_decide_eq_false hc2 e.symm⟩
   simp only[Xj]at hc
   rwa[Wp (by omega)]at hJ
  obtain⟨q,hq1,hq2⟩:=key
  rw[hq1]
  rcases q with q | q
  ·have:=hq2.1 q rfl
   refine T2 ?_
   rw[Yw this.2]
   exact Yw this.1
  refine T2 ?_
  rw[KJ (hq2.2 rfl)];rfl
 obtain⟨r,h1,h2⟩:=key
 rw[h1,h2]
def Qli (l:L_ QI)(k m:Int)(hl:Xa Kg l):Qd (GP l k m) λr=>r.2=true->0<=m/\∃z,YP l k=some z/\m<z:=by
 unfold GP YP
 refine T0 (CP l k hl).self λx hx=>?_
 obtain⟨hxe,hx⟩:=hx
 refine T0 (P:=λr=>r=false->x.1=true/\0<=m/\∃h:0<=k/\k<(x.2.sizes.length:Int),m<x.2.sizes[k.toNat]'(by omega)) ?_ λr hr=>?_
 ·unfold Hk
  refine T1 (λ_=>T2 λh=>by cases h) λD=>?_
  have D:x.1=true:=by simpa using D
  have h:=hx.2 D
  have hk:k.toNat<x.2.sizes.length:=by omega
  have ei:idx x.2.sizes k=some x.2.sizes[k.toNat]:=Qca h.1.1 h.1.2
  refine T0 (P:=λy=>y=true->0<=m/\m<x.2.sizes[k.toNat]) ?_ λy hy=>T2 λhf=>?_
  ·unfold WN
   refine T0 (P:=λy=>y=true->0<=m/\m<x.2.sizes[k.toNat]) ?_ λy hy=>T2 hy
   unfold Up
   refine T1 (λhc2=>?_) λ_=>T2 λh=>by cases h
   rw[h.2.1,ei,Qf]
   exact T2 λh=>⟨by simpa using hc2,by simpa using h⟩
  have:=hy (by simpa using hf)
  exact⟨D,this.1,h.1,this.2⟩
 unfold Hl
 refine T1 (λ_=>T2 λh=>by cases h) λD=>?_
 obtain⟨h1,h2,h3,h4⟩:=hr D
 have h:=hx.2 h1
 have fin:0<=m/\∃z,((ES l k).bind λx5=>bif (!x5.1)then some 0 else(idx x5.2.sizes k).bind λe7=>some e7)=some z/\m<z:=⟨h2,x.2.sizes[k.toNat]'(by omega),by
  rw[hxe,Qf,h1]
  simp only[En,Xw]
  rw[Qca h3.1 h3.2];rfl,h4⟩
 refine T0 (BJ x.2 (by omega)) λ_ _=>?_
 refine T1 (λ_=>?_) λ_=>T2 λ_=>fin
 exact T0 (BJ x.2 (by omega)) λ_ _=>T2 λ_=>fin
def Qoa {l d:L_ Int}(h:d.length=l.length)(D:∀(j:Nat) x s,d[j]? = some x->l[j]? = some s->0<=x/\x<s):inB l d:=by
 induction l generalizing d with
 | nil=>cases d with
  | nil=>trivial
  | cons x d=>simp at h
 | cons s r ih=>cases d with
  | nil=>simp at h
  | cons x d=>
   have:=D 0 x s rfl rfl
   exact⟨this.1,.inr this.2,ih (by simpa using h) λj y z h1 h2=>D (j+1) y z (by simpa using h1) (by simpa using h2)⟩
def Qob (n:Qe)(task:Int)(D:L_ Int)(h:Xn n):Qd (Ex n task D) λr=>r.2=0->∃e,idx n.Tasks task=some e/\e∈n.Tasks/\inB (Ym n e) D/\∀s∈Ym n e,0<s:=by
 unfold Ex
 refine T1 (λ_=>T2 λh=>by cases h) λhc=>?_
 simp only[KZ,Xj]at hc
 refine T0 (T4 (by omega) (by omega)).self λe he=>?_
 have hv:=(h.tk e he.2).1
 have ke:=h.k.2.2.1.2 e he.2
 refine T1 (λ_=>T2 λh=>by cases h) λhl=>?_
 simp only[Ww]at hl
 have hl:D.length=e.Vars.length:=by omega
 refine T0 (T5 (by simp only[QH,QK];omega)) λ_ _=>?_
 refine T0 (Qd.up e.Vars.length (λst=>st.1) (λst=>st.2.length=e.Vars.length/\∀(j:Nat) x s,(j:Int)<st.1->D[j]? = some x->(Ym n e)[j]? = some s->0<=x/\x<s) (Q:=λq:Unit⊕L_ Int=>∀out,q=.inr out->inB (Ym n e) D/\∀s∈Ym n e,0<s) rfl ⟨by simp,λj x s hj=>by simp at hj;omega⟩ (λi st hi hn hJ=>?_)) (λq hq=>?_)
 ·obtain⟨x,l⟩:=st
  replace hi:x=(i:Int):=hi
  subst hi
  obtain⟨hJ,hJ2⟩:l.length=e.Vars.length/\∀(j:Nat) x s,(j:Int)<(i:Int)->D[j]? = some x->(Ym n e)[j]? = some s->0<=x/\x<s:=hJ
  show Qd (CE e D n i l) _
  unfold CE
  refine T1 (λhc=>?_) (λhc=>T2 (Qn λout _=>?_))
  ·simp only[QK]at hc
   have i1:i<e.Vars.length:=by omega
   have i2:i<D.length:=by omega
   rw[Xd,Qz i1,Qf,Xd,Qz i2,Qf]
   refine T0 (Qli _ _ _ h.k.1) λc hc3=>?_
   refine T1 (λ_=>T2 (Qn λout e=>by cases e)) λhc4=>?_
   obtain⟨h1,z,h2,h3⟩:=hc3 (by simpa using hc4)
   refine T0 (T4 (by omega) (by omega)) λd _=>?_
   have hw:Qi ((i:Int)+1)=((i+1:Nat):Int):=Qy i1 (by unfold maxLen;omega:e.Vars.length<=maxLen)
   refine T2 (QO ⟨i1,hw,by simpa using hJ,λj x s hj hx hs=>?_⟩)
   replace hj:(j:Int)<Qi ((i:Int)+1):=hj
   rw[hw]at hj
   by_cases cj:j=i
   ·subst cj
    rw[Qz i2]at hx
    cases hx
    unfold Ym at hs
    rw[XQ,Qz i1,JT,h2]at hs
    cases hs
    exact⟨h1,h3⟩
   exact hJ2 j x s (by omega) hx hs
  simp only[Xj]at hc
  have hb:∀(j:Nat) x s,D[j]? = some x->(Ym n e)[j]? = some s->0<=x/\x<s:=λj x s hx hs=>hJ2 j x s (by have:=(QX.1 hx).1;omega) hx hs
  refine⟨Qoa (by simp[Ym,hl]) hb,λs hs=>?_⟩
  obtain⟨j,hj,rfl⟩:=Fs.1 hs
  have hj2:j<D.length:=by simp[Ym]at hj;omega
  have:=hb j _ _ (Qz hj2) (Qz hj)
  omega
 rcases q with q | q
 ·exact T2 λh=>by cases h
 exact T2 λ_=>⟨e,he.1,he.2,hq q rfl⟩
def RD {n:Qe}{m:L_ QBg}{D:Int}{vars:L_ Int}{b:Xk}(h:Xn n)(e:JB n m D vars=some (0,b)):idx n.Tasks D=some b.task/\b.task∈n.Tasks/\b.net=n/\b.m=m/\(inB (Ym n b.task) vars/\∀s∈Ym n b.task,0<s)/\Ex n D vars=some (b.env,0):=by
 unfold JB at e
 obtain⟨x,hx,e⟩:=Qv e
 obtain⟨x1,x2⟩:=x
 rcases XN e with⟨c,e⟩|⟨c,e⟩
 ·simp only[Option.some.injEq,Prod.mk.injEq]at e
  simp only[e.1]at c;cases c
 simp only[Ww]at c
 subst c
 obtain⟨t,ht,h1,h2⟩:=BK (Qob n D vars h) hx rfl
 rw[ht,Qf]at e
 simp only[Option.some.injEq,Prod.mk.injEq,true_and]at e
 subst e
 exact⟨ht,h1,rfl,rfl,h2,hx⟩
def Qcr {n:Qe}{m:L_ QBg}{o:Qj}(h:Xn n)(hm:Xa (Xa λ_=>True) m)(ho:Kv n o):JC n m o=some 0↔o∈YY n m o.Task:=by
 rw[MG]
 constructor
 ·intro e
  unfold JC at e
  obtain⟨x,hx,e⟩:=Qv e
  obtain⟨c,b⟩:=x
  have k3:∀g,Ws (c,b) o g=some 0->g=0/\o.Ins∈Pr b.task.Join b.task.Ins.length/\o.Outs∈Pr b.task.Split b.task.Outs.length/\XJ b o.Ins=some 0/\Yk b o.Outs=some 0:=λg e=>by
   unfold Ws at e
   rcases XN e with⟨c2,e⟩|⟨c2,e⟩
   ·simp only[Option.some.injEq]at e;rw[e]at c2;cases c2
   simp only[Ww]at c2
   obtain⟨y,D,e⟩:=Qv e
   unfold FA at D
   rw[OY,Qf]at D
   unfold FB at e
   rcases XN e with⟨_,e⟩|⟨c3,e⟩
   ·cases e
   subst c3
   rcases XN D with⟨_,D⟩|⟨c4,D⟩
   ·cases D
   rw[OY,Qf]at D
   simp only[AH,QK]at c4
   simp only[Option.some.injEq,AH,QK]at D
   obtain⟨z,hz,e⟩:=Qv e
   rcases XN e with⟨c5,e⟩|⟨c5,e⟩
   ·simp only[Option.some.injEq]at e;rw[e]at c5;cases c5
   simp only[Ww]at c5
   subst c5
   obtain⟨w,hw,e⟩:=Qv e
   simp only[Option.some.injEq]at e
   subst e
   exact⟨c2,c4,D,hz,hw⟩
  have fin:c=0->XL b=some 0->(o.Ins∈Pr b.task.Join b.task.Ins.length/\o.Outs∈Pr b.task.Split b.task.Outs.length/\XJ b o.Ins=some 0/\Yk b o.Outs=some 0)->o.Task=o.Task/\∃e,idx n.Tasks o.Task=some e/\inB (Ym n e) o.Vars/\o.Ins∈Pr e.Join e.Ins.length/\o.Outs∈Pr e.Split e.Outs.length/\∃b,JB n m o.Task o.Vars=some (0,b)/\XL b=some 0/\XJ b o.Ins=some 0/\Yk b o.Outs=some 0:=λhc hg q=>by
   subst hc
   obtain⟨h1,_,_,_,h2,_⟩:=RD h hx
   exact⟨rfl,b.task,h1,h2.1,q.1,q.2.1,b,hx,hg,q.2.2.1,q.2.2.2⟩
  rcases XN e with⟨c1,e⟩|⟨c1,e⟩
  ·simp only[beq_iff_eq]at c1
   obtain⟨g,hg,e⟩:=Qv e
   obtain⟨rfl,q⟩:=k3 g e
   exact fin c1 hg q
  have e1:=(k3 _ e).1
  simp only[beq_eq_false_iff_ne]at c1
  exact absurd e1 c1
 rintro ⟨_,e,he,h1,h2,h3,b,hb,hg,ht,hv⟩
 obtain⟨k1,k2,_⟩:=RD h hb
 rw[he]at k1;cases k1
 unfold JC
 rw[hb,Qf]
 simp only[show((0:Int)==0)=true from rfl,Xq,hg,Qf]
 unfold Ws
 simp only[show((0:Int) != 0)=false from rfl,Xw]
 unfold FA
 rw[OY,Qf,Yw h2]
 simp only[En,Xw]
 rw[OY,Qf,Yw h3,Qf]
 unfold FB
 simp only[En,Xw,ht,Qf,show((0:Int) != 0)=false from rfl,hv]
def Qmu {n:Qe}{m:L_ QBg}{D:Int}{o:Qj}(h:Xn n)(hm:Xa (Xa λ_=>True) m)(ho:o∈YY n m D):Kv n o:=by
 obtain⟨_,e,he,h1,h2,h3,_⟩:=MG.1 ho
 have hem:e∈n.Tasks:=by
  unfold idx at he
  split at he
  ·exact XG he
  cases he
 have hv:=(h.tk e hem).1
 have hl:=Qnk h1
 have h4:=(Qcq e.Join e.Ins.length).2.2 _ h2
 have h5:=(Qcq e.Split e.Outs.length).2.2 _ h3
 have:(Ym n e).length=e.Vars.length:=by simp[Ym]
 exact⟨by omega,by omega,by omega⟩
def Lx {n:Qe}{m:L_ QBg}{o:Qj}(h:Xn n)(D:Xa (Xa λ_=>True) m)(ho:o∈YM n m):Kv n o:=Qmu h D (QgK.1 ho)
def Uy : L_ Int->Nat
 | []=>1
 | s::r=>(1+(s-1).toNat)*Uy r
def SW {α β:Type}{f:α->L_ β}{c:Nat}:∀{l:L_ α},(∀x∈l,(f x).length<=c)->(l.flatMap f).length<=l.length*c:=by
 intro l
 induction l with
 | nil=>intro _;simp
 | cons x l ih=>
  intro h
  have h1:=ih λy D=>h y (XR _ D)
  have h2:=h x XM
  rw[LA,Kb,DP,Nat.succ_mul]
  omega
def Qnp (x:Int)(k:Nat):(upL x k).length=k:=by
 induction k generalizing x with
 | zero=>rfl
 | succ k h=>simp[upL,h]
def Qlj (l:L_ Int):(binds l).length<=Uy l:=by
 induction l with
 | nil=>exact Jn _
 | cons s r h=>
  rw[binds,Uy]
  have:=SW (f:=λx=>(binds r).map (x::·)) (c:=Uy r) (l:=0::upL 1 (s-1).toNat) λx _=>by simpa using h
  rw[DP,Qnp]at this
  rwa[Nat.add_comm 1]
def Qlk (l:L_ Int)(s:Int):Uy (l++[s])=Uy l*(1+(s-1).toNat):=by
 induction l with
 | nil=>simp[Uy]
 | cons x l h=>simp only[List.cons_append,Uy,h,Nat.mul_assoc]
def Qll (l:L_ Int):0<Uy l:=by
 induction l with
 | nil=>decide
 | cons s r h=>exact Nat.mul_pos (by omega) h
def Qlm (n:Qe)(m:L_ QBg)(h:Int){D outs:L_ (L_ Int)}(p:L_ Int)(hi:D.length<=16)(ho:outs.length<=16):(El n m h D outs p).length<=256:=by
 unfold El
 cases JB n m h p with
 | none=>simp
 | some x=>
  obtain⟨c,b⟩:=x
  simp only
  split
  ·refine Yh (SW (c:=16) λe _=>?_) (YS 16 hi)
   split
   ·rw[GK];exact Yh (Fq _ _) ho
   simp
  simp
def Bd (n:Qe):Prop:=∀t∈n.Tasks,(0:Int)∈Ym n t\/Uy (Ym n t)<=1024
def Qln {n:Qe}(m:L_ QBg)(D:Int)(h:Xn n)(hb:Bd n):(YY n m D).length<=262144:=by
 by_cases e0:YY n m D=[]
 ·rw[e0];simp
 obtain⟨o,ho⟩:=List.exists_mem_of_ne_nil _ e0
 obtain⟨_,e,he,_,_,_,b,hbd,_⟩:=MG.1 ho
 obtain⟨k1,k2,_,_,k3,_⟩:=RD h hbd
 rw[he]at k1;cases k1
 unfold YY
 rw[he]
 simp only
 refine Yh (SW (c:=256) λp _=>Qlm n m D p (Qcq _ _).2.1 (Qcq _ _).2.1) ?_
 have h1:=Qlj (Ym n b.task)
 rcases hb _ k2 with h2 | h2
 ·have:=k3.2 0 h2;omega
 omega
def QgL {n:Qe}(m:L_ QBg)(h:Xn n)(D:Bd n):(YM n m).length<=4194304:=by
 unfold YM
 refine Yh (SW (c:=262144) λk _=>Qln m _ h D) ?_
 have:=h.tl
 rw[Tm];omega
def Qj1 (n:Qe)(k:Int)(t:QG)(b:Int)(h:Xn n)(ht:idx n.Tasks k=some t)(htm:t∈n.Tasks)(hb:WJ n k=some b)(hle:b<=1024):(0:Int)∈Ym n t\/Uy (Ym n t)<=1024:=by
 have hv:=(h.tk t htm).1
 have hsz:(Ym n t).length=t.Vars.length:=by simp[Ym]
 have ha:Jm n.Tasks k=some true:=by
  unfold Jm
  unfold idx at ht
  split at ht
  ·have:=(QX.1 ht).1
   rw[Yw (by omega),Yw (by omega)];rfl
  cases ht
 have key:Qd (WJ n k) λb=>b<=1024->(0:Int)∈Ym n t\/Uy (Ym n t)<=1024:=by
  unfold WJ
  rw[ha,Qf]
  simp only[En,Xw]
  rw[ht,Qf]
  refine T0 (Qd.up t.Vars.length (λst=>st.2) (λst=>st.1=min ((Uy ((Ym n t).take st.2.toNat):Nat):Int) 1025) (Q:=λq:Unit⊕Int=>(q=.inl ()->(0:Int)∈Ym n t)/\∀o,q=.inr o->o=min ((Uy (Ym n t):Nat):Int) 1025) rfl (by show(1:Int)=min ((1:Nat):Int) 1025;omega) (λi st hi hn hJ=>?_)) (λq hq=>?_)
  ·obtain⟨out,x⟩:=st
   replace hi:x=(i:Int):=hi
   subst hi
   replace hJ:out=min ((Uy ((Ym n t).take (i:Int).toNat):Nat):Int) 1025:=hJ
   rw[Ye]at hJ
   show Qd (Ui t n out i) _
   unfold Ui
   refine T1 (λhc=>?_) (λhc=>T2 (Qn ⟨λe=>(by cases e),λo e=>?_⟩))
   ·simp only[QK]at hc
    have i1:i<t.Vars.length:=by omega
    rw[Xd,Qz i1,Qf]
    refine T0 (Wt _ _ h.k.1).self λz hz=>?_
    obtain⟨hze,hz⟩:=hz
    have hs:(Ym n t)[i]? = some z:=by
     unfold Ym
     rw[XQ,Qz i1,JT,hze];rfl
    refine T1 (λD=>T2 (Qn ⟨λ_=>?_,λo e=>by cases e⟩)) λD=>?_
    ·simp only[beq_iff_eq]at D
     subst D
     exact XG hs
    simp only[beq_eq_false_iff_ne]at D
    have hw:Qi ((i:Int)+1)=((i+1:Nat):Int):=Qy i1 (by unfold maxLen;omega:t.Vars.length<=maxLen)
    refine T2 (QO ⟨i1,hw,?_⟩)
    show min2 (Qi (out*z)) 1025=min ((Uy ((Ym n t).take (Qi ((i:Int)+1)).toNat):Nat):Int) 1025
    rw[hw,Ye,Un,hs]
    show _=min ((Uy ((Ym n t).take i++[z]):Nat):Int) 1025
    rw[Qlk]
    have hp:=Qll ((Ym n t).take i)
    generalize Uy ((Ym n t).take i)=P at hJ hp ⊢
    obtain⟨Z,rfl⟩:∃Z:Nat,z=(Z:Int):=⟨z.toNat,by omega⟩
    rw[show 1+((Z:Int)-1).toNat=Z by omega]
    have hZ:0<Z:=by omega
    have h1:(P:Int)*(Z:Int)=((P*Z:Nat):Int):=by simp
    by_cases c:P<=1025
    ·have:out=(P:Int):=by rw[hJ];omega
     rw[this,h1]
     have h2:P*Z<=1025*1024:=Nat.mul_le_mul c (by omega)
     rw[XX (by omega)]
     unfold min2;split<;>omega
    have:out=1025:=by rw[hJ];omega
    have h2:P<=P*Z:=Nat.le_mul_of_pos_right P hZ
    rw[this,XX (by omega)]
    unfold min2;split<;>omega
   cases e
   simp only[Xj]at hc
   rw[hJ,Wp (by omega)]
  rcases q with q | q
  ·exact T2 λ_=>.inl (hq.1 rfl)
  refine T2 λhl=>.inr ?_
  have:=hq.2 q rfl
  omega
 exact BK key hb hle
def Qj2 (n1:Qe)(k2:Int)(h:Ka n1 k2=some 0):∃b,WJ n1 k2=some b/\b<=1024:=by
 unfold Ka at h
 obtain⟨x5,_,h⟩:=Qv h
 rcases XN h with⟨_,h⟩|⟨_,h⟩
 ·cases h
 obtain⟨x7,_,h⟩:=Qv h
 rcases XN h with⟨c,h⟩|⟨_,h⟩
 ·simp only[Option.some.injEq]at h;rw[h]at c;cases c
 obtain⟨e9,he9,h⟩:=Qv h
 obtain⟨e10,he10,h⟩:=Qv h
 obtain⟨_,_,h⟩:=Qv h
 obtain⟨_,_,h⟩:=Qv h
 obtain⟨_,_,h⟩:=Qv h
 obtain⟨_,_,h⟩:=Qv h
 obtain⟨x15,D,h⟩:=Qv h
 have bad:∀a b:Int,0<a->x15=(a,b)->False:=λa b ha e=>by
  subst e
  simp only at h
  rcases XN h with⟨c,h⟩|⟨_,h⟩
  ·simp only[beq_iff_eq]at c;omega
  simp only[Option.some.injEq]at h;omega
 unfold Gi at D
 obtain⟨x20,_,D⟩:=Qv D
 rcases XN D with⟨_,D⟩|⟨_,D⟩
 ·exact(bad _ _ (by decide) (Option.some.inj D).symm).elim
 obtain⟨x22,_,D⟩:=Qv D
 rcases XN D with⟨_,D⟩|⟨_,D⟩
 ·exact(bad _ _ (by decide) (Option.some.inj D).symm).elim
 obtain⟨x24,h24,D⟩:=Qv D
 rcases XN D with⟨_,D⟩|⟨c,D⟩
 ·exact(bad _ _ (by decide) (Option.some.inj D).symm).elim
 obtain⟨x26,h26,D⟩:=Qv D
 rcases XN D with⟨c2,D⟩|⟨_,D⟩
 ·have e:=(Option.some.inj D).symm
  subst e
  simp only at h
  rcases XN h with⟨_,h⟩|⟨c3,_⟩
  ·simp only[Option.some.injEq]at h
   unfold Am at h26
   obtain⟨y,_,h26⟩:=Qv h26
   simp only[Option.some.injEq]at h26
   rw[<-h26]at c2 h
   simp only at h
   subst h
   cases c2
  cases c3
 obtain⟨x28,h28,D⟩:=Qv D
 rcases XN D with⟨_,D⟩|⟨c4,D⟩
 ·exact(bad _ _ (by decide) (Option.some.inj D).symm).elim
 unfold BE at h28
 obtain⟨b,hb,h28⟩:=Qv h28
 simp only[Option.some.injEq]at h28
 rw[<-h28]at c4
 exact⟨b,hb,by simpa using c4⟩
def Qoc (n1:Qe)(h:Xn n1){p:GN}(D:ET n1=some (0,p)):Bd n1:=by
 unfold ET at D
 obtain⟨x6,_,D⟩:=Qv D
 rcases XN D with⟨c,D⟩|⟨_,D⟩
 ·simp only[Option.some.injEq,Prod.mk.injEq]at D;rw[D.1]at c;cases c
 obtain⟨x8,_,D⟩:=Qv D
 rcases XN D with⟨c,D⟩|⟨_,D⟩
 ·simp only[Option.some.injEq,Prod.mk.injEq]at D;rw[D.1]at c;cases c
 obtain⟨x10,_,D⟩:=Qv D
 rcases XN D with⟨c,D⟩|⟨_,D⟩
 ·simp only[Option.some.injEq,Prod.mk.injEq]at D;rw[D.1]at c;cases c
 obtain⟨x12,h12,D⟩:=Qv D
 rcases XN D with⟨c,D⟩|⟨c,D⟩
 ·simp only[Option.some.injEq,Prod.mk.injEq]at D;rw[D.1]at c;cases c
 simp only[Ww]at c
 obtain⟨r,hr,hr2⟩:=QdM n1.Tasks n1 h.k h.k.2.2.1
 rw[h12]at hr;cases hr
 intro t ht
 have htm:=ht
 obtain⟨j,hj,rfl⟩:=Fs.1 ht
 obtain⟨b,hb,hb2⟩:=Qj2 n1 j (hr2 c j hj)
 exact Qj1 n1 j _ b h (by rw[Xd,Qz hj]) htm hb hb2
def Qnq (n1:Qe)(m:L_ QBg)(h:Xn n1)(D:BF n1 m=some true):Bd n1:=by
 unfold BF at D
 obtain⟨x5,_,D⟩:=Qv D
 obtain⟨x6,_,D⟩:=Qv D
 rcases XN D with⟨_,D⟩|⟨_,D⟩
 ·cases D
 obtain⟨x11,h11,D⟩:=Qv D
 obtain⟨x12,h12,D⟩:=Qv D
 unfold NH at D
 rcases XN D with⟨_,D⟩|⟨c,_⟩
 ·cases D
 subst c
 unfold NF at h12
 rcases XN h12 with⟨_,h12⟩|⟨c,_⟩
 ·cases h12
 simp only[Ww]at c
 obtain⟨a,b⟩:=x11
 simp only at c
 subst c
 exact Qoc n1 h h11
def XZ (n:Qe)(m:L_ Bag):Prop:=Kh n 1024 m/\FW n m
def XZ.len {n:Qe}{m:L_ Bag}(D:XZ n m)(h:Xn n):Xa (Xa λ_=>True) m:=D.1.len h (by omega)
def Qmv {n:Qe}{m:L_ Bag}{c:Nat}(h:Xn n)(hm:Kh n c m)(hl:FW n m):XZ n m:=by
 refine⟨⟨hm.1,λb hb=>?_⟩,hl⟩
 have hr:=(hm.2 b hb).1
 refine⟨hr,?_⟩
 obtain⟨j,hj,rfl⟩:=Fs.1 hb
 have hj2:j<n.Places.length:=by have:=hm.1;omega
 by_cases c0:(m[j]).length=0
 ·omega
 have D:(m[j]).length-1<(m[j]).length:=by omega
 have h1:=Qi8 hr.1 (a:=0) (λp hp=>(hr.2 p hp).1) ((m[j]).length-1) D
 have h2:=CY hr.1.nd (Yf D)
 have h3:=(hr.2 _ (Yf D)).2.1
 obtain⟨z,hz,hk⟩:=hl j _ _ (Qz hj) (Qz hj2) _ (by rw[h2];omega)
 have:=BK (Wt _ _ h.k.1) hz
 omega
def Zx {n:Qe}{m x:L_ Bag}{o:Qj}(h:Xn n)(hg:XZ n m)(ho:Kv n o)(hD:Yc n m o=some (x,0)):XZ n x:=by
 obtain⟨hm,hl⟩:=hg
 have hpl:=h.pl
 have hm1:=hm.1
 have hx:=BK (QjV n m o 1024 h hm (by omega) ho) hD rfl
 obtain⟨t,hT,hG⟩:=Qmr hD
 obtain⟨hCk,need,hN,hL⟩:=QjX hT
 obtain⟨hnd,hndl⟩:=BK (Qjc n o h ho) hN rfl
 have ht:=BK (Qle n m o 1024 h hm (by omega) ho) hT rfl
 obtain⟨_,eL⟩:=(BK (QiT n m need 1024 20 h hm hnd (by omega)) hL).1 rfl
 have htl:FW n t:=λj b p hb hp k hk=>by
  have hj:=(QX.1 hp).1
  obtain⟨a,ha,ha1,ha2⟩:=QhK hm hj
  obtain⟨u,hu,hu1,hu2⟩:=QhK hnd hj
  obtain⟨p',D,hp2⟩:=eL j a u ha hu
  have D:t[j]? = some p':=D
  rw[hb]at D;cases D
  have q:=Qno (by omega) hp2
  have:=hu1.cnt k
  have:=q.2.2.2.2 k
  exact hl j a p ha hp k (by omega)
 exact Qmv h hx (BK (Qms n t o (1024+20) h ht htl (by omega) ho) hG rfl)
def XE : Nat->Int->L_ Int
 | 0,_=>[]
 | k+1,x=>IntKind.u8.wrap (Jk .i64 x (Qi (8*(k:Int))))::XE k x
def JR (k:Nat)(x:Int):(XE k x).length=k:=by
 induction k with
 | zero=>rfl
 | succ k h=>simp[XE,h]
def QgM {α β:Type}{f:α->L_ β}{c:Nat}:∀{l:L_ α},(∀x∈l,(f x).length=c)->(l.flatMap f).length=l.length*c:=by
 intro l
 induction l with
 | nil=>intro _;simp
 | cons x l ih=>
  intro h
  have h1:=ih λy D=>h y (XR _ D)
  have h2:=h x XM
  rw[LA,Kb,DP,Nat.succ_mul]
  omega
def Qmw (e:Int)(h:Nat)(D:L_ Int)(hs:h<=8)(hl:D.length+h<=4294967296):QD (λst=>EY e st.1 st.2) ((Qi ((h:Int)-1)),D)=some (D++XE h e):=by
 obtain⟨r,h1,h2⟩:=(Qd.up (body:=λst:Int×L_ Int=>EY e st.1 st.2) h (λst=>(h:Int)-1-st.1) (λst=>-1<=st.1/\st.2.length+(st.1+1).toNat=D.length+h/\st.2++XE (st.1+1).toNat e=D++XE h e) (Q:=λq:L_ Int=>q=D++XE h e) (s0:=((Qi ((h:Int)-1)),D))
  (by show(h:Int)-1-Qi ((h:Int)-1)=0;rw[XX (by omega)];omega) (by
   show -1<=Qi ((h:Int)-1)/\D.length+(Qi ((h:Int)-1)+1).toNat=_/\D++XE (Qi ((h:Int)-1)+1).toNat e=_
   rw[XX (by omega),show((h:Int)-1+1).toNat=h by omega]
   exact⟨by omega,rfl,rfl⟩) (λi st hi hn hJ=>by
   obtain⟨k,l⟩:=st
   replace hi:(h:Int)-1-k=(i:Int):=hi
   obtain⟨j0,j1,j2⟩:-1<=k/\l.length+(k+1).toNat=D.length+h/\l++XE (k+1).toNat e=D++XE h e:=hJ
   show Qd (EY e k l) _
   unfold EY
   refine T1 (λhc=>?_) (λhc=>T2 (Qn ?_))
   ·simp only[QK]at hc
    have hw:Qi (8*k)=8*k:=XX (by omega)
    have hw2:Qi (k-1)=k-1:=XX (by omega)
    have e1:(k+1).toNat=k.toNat+1:=by omega
    refine T0 (T5 (by rw[hw];simp only[QK];omega)) λ_ _=>?_
    refine T0 (T5 (by simp;omega)) λ_ _=>?_
    refine T2 (QO ⟨by omega,by show(h:Int)-1-Qi (k-1)=_;rw[hw2];omega,?_⟩)
    show -1<=Qi (k-1)/\(l++[_]).length+(Qi (k-1)+1).toNat=_/\(l++[_])++XE (Qi (k-1)+1).toNat e=_
    rw[hw2,show(k-1+1).toNat=k.toNat by omega]
    rw[e1,XE,show((k.toNat:Nat):Int)=k by omega]at j2
    refine⟨by omega,by simp;omega,?_⟩
    rw[Wn];exact j2
   simp only[Xj]at hc
   rw[show(k+1).toNat=0 by omega,XE,OG]at j2
   exact j2))
 rw[h1,h2]
def Qiu (D:L_ Int)(h:Nat)(l:L_ Int)(hs:h<=8)(hl:D.length+8*l.length<=4294967296):UN D h l=some (D++l.flatMap (XE h)):=by
 unfold UN
 obtain⟨r,h1,h2⟩:=(Qd.up (body:=λst:Int×L_ Int=>Ca l h st.1 st.2) l.length (λst=>st.1) (λst=>st.2=D++(l.take st.1.toNat).flatMap (XE h)) (Q:=λq:L_ Int=>q=D++l.flatMap (XE h)) (s0:=((0:Int),D)) rfl (by simp) (λi st hi hn hJ=>by
  obtain⟨x,a⟩:=st
  replace hi:x=(i:Int):=hi
  subst hi
  replace hJ:a=D++(l.take (i:Int).toNat).flatMap (XE h):=hJ
  rw[Ye]at hJ
  show Qd (Ca l h i a) _
  unfold Ca
  refine T1 (λhc=>?_) (λhc=>T2 (Qn ?_))
  ·simp only[QK]at hc
   have i1:i<l.length:=by omega
   have hlen:a.length=D.length+i*h:=by
    rw[hJ,Kb,QgM (c:=h) λx _=>JR h x,Wo,Cw (by omega)]
   have hm:i*h<=i*8:=Nat.mul_le_mul_left i hs
   rw[Xd,Qz i1,Qf,Qmw _ h a hs (by omega),Qf]
   unfold Sb
   have hw:Qi ((i:Int)+1)=((i+1:Nat):Int):=Qy i1 (by unfold maxLen;omega:l.length<=maxLen)
   refine T2 (QO ⟨i1,hw,?_⟩)
   show a++XE h l[i]=D++(l.take (Qi ((i:Int)+1)).toNat).flatMap (XE h)
   rw[hw,Ye,Un,Qz i1,hJ,QcD,Wn]
   simp
  simp only[Xj]at hc
  rw[hJ,Wp (by omega)]))
 rw[h1,h2];rfl
def Qnr (h:Nat)(l:L_ Int):Pz h l=UN [] h l:=rfl
def NP (b:Bag):L_ Int:=XE 2 b.length++b.flatMap λp=>XE 4 p.1++XE 4 p.2
def QcP (m:L_ Bag):L_ Int:=XE 1 m.length++m.flatMap NP
def QeF (b:Bag):(NP b).length=2+8*b.length:=by
 unfold NP
 rw[Kb,JR,QgM (c:=8) λx _=>by simp[JR]]
 omega
def Qlo {n:Qe}{m:L_ Bag}(h:Xn n)(hg:XZ n m)(hml:m.length<=64):UO m=some (QcP m,0):=by
 unfold UO
 rw[KJ (by omega),Xw,show(1:Int)=((1:Nat):Int)from rfl,Qnr,Qiu [] 1 _ (by omega) (by simp),Qf]
 have hb:∀b∈m,Rt b/\b.length<=1024:=hg.1.2
 have hmem:∀b∈m,∀p∈b,p.1<=1024:=λb hb' p hp=>by
  obtain⟨j,hj,rfl⟩:=Fs.1 hb'
  have hj2:j<n.Places.length:=by have:=hg.1.1;omega
  have hr:=(hb _ hb').1
  have h2:=CY hr.1.nd hp
  have h3:=(hr.2 _ hp).2.1
  obtain⟨z,hz,hk⟩:=hg.2 j _ _ (Qz hj) (Qz hj2) p.1 (by rw[h2];omega)
  have:=BK (Wt _ _ h.k.1) hz
  omega
 have lens:∀i,i<=m.length->((m.take i).flatMap NP).length<=i*8194:=λi hi=>by
  have:=SW (f:=NP) (c:=8194) (l:=m.take i) λb hb'=>by
   have:=(hb b (UT hb')).2
   rw[QeF];omega
  rw[Wo,Cw hi]at this
  exact this
 obtain⟨r,h1,h2⟩:=(Qd.up (body:=λst:Int×L_ Int=>Cc m st.1 st.2) m.length (λst=>st.1) (λst=>st.2=XE 1 m.length++(m.take st.1.toNat).flatMap NP) (Q:=λq:Unit⊕L_ Int=>q=.inr (QcP m)) (s0:=((0:Int),[]++[(m.length:Int)].flatMap (XE 1))) rfl (by simp) (λi st hi hn hJ=>by
  obtain⟨x,a⟩:=st
  replace hi:x=(i:Int):=hi
  subst hi
  replace hJ:a=XE 1 m.length++(m.take (i:Int).toNat).flatMap NP:=hJ
  rw[Ye]at hJ
  show Qd (Cc m i a) _
  unfold Cc
  refine T1 (λhc=>?_) (λhc=>T2 (Qn ?_))
  ·simp only[QK]at hc
   have i1:i<m.length:=by omega
   have hbm:=Yf i1
   have hr:=(hb _ hbm).1
   have hrl:=(hb _ hbm).2
   have hal:a.length<=1+i*8194:=by
    have:=lens i (by omega)
    rw[hJ,Kb,JR];omega
   rw[Xd,Qz i1,Qf]
   have g1:LZ m[i]=some false:=by
    unfold LZ
    rw[ST _ (by unfold maxLen;omega),Qf,Ek.2 hr]
    simp only[En,Xw]
    rw[KJ (by omega),Xw]
    by_cases c0:(m[i]).length=0
    ·rw[KJ (by omega)];rfl
    have D:(m[i]).length-1<(m[i]).length:=by omega
    rw[Yw (by omega),Xq,XX (by omega),show((m[i]).length:Int)-1=(((m[i]).length-1:Nat):Int) by omega,Xd,Qz D,Qf]
    have:=hmem _ hbm _ (Yf D)
    rw[KJ (by omega)]
   rw[g1,Qf]
   unfold Se
   rw[Xw,show(2:Int)=((2:Nat):Int)from rfl,Qiu a 2 _ (by omega) (by simp;omega),Qf]
   have inner:Qd (QD (λst=>Cb m[i] st.1 st.2) ((0:Int),a++[((m[i]).length:Int)].flatMap (XE 2))) λq:L_ Int=>q=a++NP m[i]:=by
    refine Qd.up (m[i]).length (λst=>st.1) (λst=>st.2=a++(XE 2 (m[i]).length++((m[i]).take st.1.toNat).flatMap λp=>XE 4 p.1++XE 4 p.2)) rfl (by simp) (λk st hk hn2 hK=>?_)
    obtain⟨x,c⟩:=st
    replace hk:x=(k:Int):=hk
    subst hk
    replace hK:c=a++(XE 2 (m[i]).length++((m[i]).take (k:Int).toNat).flatMap λp=>XE 4 p.1++XE 4 p.2):=hK
    rw[Ye]at hK
    show Qd (Cb m[i] k c) _
    unfold Cb
    refine T1 (λhc2=>?_) (λhc2=>T2 (Qn ?_))
    ·simp only[QK]at hc2
     have k1:k<(m[i]).length:=by omega
     have hcl:c.length=a.length+2+k*8:=by
      rw[hK,Kb,Kb,JR,QgM (c:=8) λx _=>by simp[JR],Wo,Cw (by omega)];omega
     rw[Xd,Qz k1,Qf,show(4:Int)=((4:Nat):Int)from rfl,Qiu c 4 _ (by omega) (by simp;omega),Qf]
     have hw:Qi ((k:Int)+1)=((k+1:Nat):Int):=Qy k1 (by unfold maxLen;omega:(m[i]).length<=maxLen)
     refine T2 (QO ⟨k1,hw,?_⟩)
     show c++[(m[i])[k].1,(m[i])[k].2].flatMap (XE 4)=a++(XE 2 (m[i]).length++((m[i]).take (Qi ((k:Int)+1)).toNat).flatMap λp=>XE 4 p.1++XE 4 p.2)
     rw[hw,Ye,Un,Qz k1,hK,QcD]
     simp
    simp only[Xj]at hc2
    rw[hK,Wp (by omega)];rfl
   obtain⟨q,hq1,rfl⟩:=inner
   rw[hq1,Qf]
   unfold Sd
   have hw:Qi ((i:Int)+1)=((i+1:Nat):Int):=Qy i1 (by unfold maxLen;omega:m.length<=maxLen)
   refine T2 (QO ⟨i1,hw,?_⟩)
   show a++NP m[i]=XE 1 m.length++(m.take (Qi ((i:Int)+1)).toNat).flatMap NP
   rw[hw,Ye,Un,Qz i1,hJ,QcD,Wn]
   simp
  simp only[Xj]at hc
  rw[hJ,Wp (by omega)];rfl))
 rw[h1,h2];rfl
def XK (m:L_ Bag):ByteArray:=Fw (if m.length<=64 then QcP m else [])
def QfS {n:Qe}{m:L_ Bag}(h:Xn n)(D:XZ n m):Bu m=some (XK m):=by
 unfold Bu XK
 by_cases c:m.length<=64
 ·rw[Qlo h D c,if_pos c];rfl
 rw[if_neg c]
 unfold UO
 rw[Yw (by omega)];rfl
def Bc (n:Qe)(w:Int)(x:L_ Bag)(o:Qj):O_ (L_ Bag):=if o.Task=w then none else match Yc n x o with
 | some (y,c)=>if c=0 then some y else none
 | none=>none
def OZ (n:Qe)(w:Int)(x:L_ Bag):L_ (L_ Bag):=(YM n x).filterMap (Bc n w x)
def Qlp {n:Qe}{w:Int}{x y:L_ Bag}{o:Qj}(h:Bc n w x o=some y):o.Task≠w/\Yc n x o=some (y,0):=by
 unfold Bc at h
 split at h
 ·cases h
 rename_i c
 refine⟨c,?_⟩
 cases e:Yc n x o with
 | none=>rw[e]at h;cases h
 | some r=>
  obtain⟨a,b⟩:=r
  rw[e]at h
  simp only at h
  split at h
  ·rename_i D;cases h;rw[D]
  cases h
def Qlq {n:Qe}{w:Int}{x:L_ Bag}(h:Xn n)(D:XZ n x):∀y∈OZ n w x,XZ n y:=λy hy=>by
 obtain⟨o,ho,he⟩:=List.mem_filterMap.1 hy
 exact Zx h D (Lx h (D.len h) ho) (Qlp he).2
def FM (mm:L_ (ByteArray×Bool))(l:L_ (L_ Bag)):Prop:=∀k,(Qq mm k).getD false=l.any λy=>decide (XK y=k)
def FM.add {mm:L_ (ByteArray×Bool)}{l:L_ (L_ Bag)}(h:FM mm l)(x:L_ Bag):FM (XD NV mm (XK x) true) (l++[x]):=λk=>by
 rw[JJ,List.any_append]
 by_cases c:k=XK x
 ·subst c
  rw[if_pos rfl]
  simp
 rw[if_neg c,h k]
 have:decide (XK x=k)=false:=KJ λe=>c e.symm
 simp[this]
def XF (h:Int):Nat:=(min2 (max2 0 h) 4096).toNat
def Qje (h:Int):(XF h:Int)=min2 (max2 0 h) 4096/\XF h<=4096:=by
 unfold XF min2 max2
 split<;>split<;>omega
def DA (n:Qe)(w h:Int)(m:L_ Bag):L_ (L_ Bag)×Bool:=if XF h=0 then([],false)else JK XK (OZ n w) (XF h) (XF h+1) [m] 0
def Qj3 {n:Qe}{m:L_ Bag}(w D:Int)(h:Xn n)(hb:Bd n)(hg:XZ n m):Ia n m w D=some (DA n w D m):=by
 have hm:=Qje D
 have hpl:=h.pl
 unfold Ia DA
 by_cases c0:XF D=0
 ·rw[if_pos c0,show(min2 (max2 0 D) 4096==0)=true by rw[<-hm.1,c0];rfl];rfl
 rw[if_neg c0,show(min2 (max2 0 D) 4096==0)=false by simp;omega]
 simp only[Xw]
 have hm1:=hg.1.1
 rw[QfS h hg,Qf,NO m (by omega) (λb hb=>by have:=(hg.1.2 b hb).2;omega),Qf]
 generalize hR:JK XK (OZ n w) (XF D) (XF D+1) [m] 0=R
 have main:Qd (QD (λst=>AU n w D st.1 st.2.1 st.2.2) ((0:Int),(XD NV ([]:QSB) (XK m) true),[m])) λq:L_ (L_ Bag)⊕L_ (L_ Bag)=>(∀l,q=.inl l->R=(l,false))/\∀l,q=.inr l->R=(l,true):=by
  refine Qd.up (XF D) (λst=>st.1) (λst=>FM st.2.1 st.2.2/\(∀x∈st.2.2,XZ n x)/\st.2.2.length<=XF D/\JK XK (OZ n w) (XF D) (XF D+1-st.1.toNat) st.2.2 st.1.toNat=R) rfl ⟨?_,?_,?_,hR⟩ (λi st hi hn hJ=>?_)
  ·exact FM.add (mm:=[]) (l:=[]) (λk=>rfl) m
  ·intro x hx;simp at hx;subst hx;exact hg
  ·show 1<=_;omega
  obtain⟨a,mm,l⟩:=st
  replace hi:a=(i:Int):=hi
  subst hi
  obtain⟨j1,j2,j3,j4⟩:FM mm l/\(∀x∈l,XZ n x)/\l.length<=XF D/\JK XK (OZ n w) (XF D) (XF D+1-(i:Int).toNat) l (i:Int).toNat=R:=hJ
  rw[Ye,show XF D+1-i=(XF D-i)+1 by omega,JK]at j4
  show Qd (AU n w D i mm l) _
  unfold AU
  refine T1 (λhc=>?_) (λhc=>T2 (Qn ⟨λl' e=>(by cases e),λl' e=>?_⟩))
  ·simp only[QK]at hc
   have i1:i<l.length:=by omega
   have hx:=Qz i1
   have hgx:=j2 _ (Yf i1)
   rw[Xd,hx,Qf]
   rw[hx]at j4
   simp only at j4
   generalize l[i]=x at hx hgx j4 ⊢
   have hal:=QgL x h hb
   rw[QeE n x 9223372036854775807 h (hgx.len h) (by omega) (by omega) (.inr (by omega)),Qf]
   have hxl:=hgx.len h
   have e0:(YM n x).take (9223372036854775807:Int).toNat=YM n x:=Wp (by omega)
   rw[e0]
   have hok:=λo=>Lx (o:=o) h hxl
   have inner:Qd (QD (λst=>AT (YM n x) w i n D st.1 st.2.1 st.2.2) ((0:Int),mm,l)) λq:L_ (L_ Bag)⊕(L_ (ByteArray×Bool)×L_ (L_ Bag))=>
     (∀o,q=.inl o->YD XK (XF D) l (OZ n w x)=.inl o)/\∀mm' o,q=.inr (mm',o)->YD XK (XF D) l (OZ n w x)=.inr o/\FM mm' o/\(∀x∈o,XZ n x)/\o.length<=XF D:=by
    generalize hT:YD XK (XF D) l (OZ n w x)=T
    have hT:YD XK (XF D) l ((YM n x).filterMap (Bc n w x))=T:=hT
    generalize YM n x=X at hT hal hok ⊢
    refine Qd.up X.length (λst=>st.1) (λst=>FM st.2.1 st.2.2/\(∀x∈st.2.2,XZ n x)/\st.2.2.length<=XF D/\st.2.2[i]? = some x/\YD XK (XF D) st.2.2 ((X.drop st.1.toNat).filterMap (Bc n w x))=T) rfl ⟨j1,j2,j3,hx,hT⟩ (λk st hk hn2 hK=>?_)
    obtain⟨a,mm,l⟩:=st
    replace hk:a=(k:Int):=hk
    subst hk
    obtain⟨k1,k2,k3,k4,k5⟩:FM mm l/\(∀x∈l,XZ n x)/\l.length<=XF D/\l[i]? = some x/\YD XK (XF D) l ((X.drop (k:Int).toNat).filterMap (Bc n w x))=T:=hK
    rw[Ye]at k5
    show Qd (AT X w i n D k mm l) _
    unfold AT
    refine T1 (λhc2=>?_) (λhc2=>T2 (Qn ⟨λo e=>(by cases e),λmm' o e=>?_⟩))
    ·simp only[QK]at hc2
     have i2:k<X.length:=by omega
     have hw:Qi ((k:Int)+1)=((k+1:Nat):Int):=Qy i2 (by unfold maxLen;omega:X.length<=maxLen)
     have next:∀mm' l',FM mm' l'->(∀x∈l',XZ n x)->l'.length<=XF D->l'[i]? = some x->YD XK (XF D) l' ((X.drop (k+1)).filterMap (Bc n w x))=T->
       Qd (DC k mm' l') λo=>(∀s',o=.inl s'->k<X.length/\s'.1=((k+1:Nat):Int)/\FM s'.2.1 s'.2.2/\(∀x∈s'.2.2,XZ n x)/\s'.2.2.length<=XF D/\s'.2.2[i]? = some x/\YD XK (XF D) s'.2.2 ((X.drop s'.1.toNat).filterMap (Bc n w x))=T)/\
        ∀r:L_ (L_ Bag)⊕(L_ (ByteArray×Bool)×L_ (L_ Bag)),o=.inr r->(∀o,r=.inl o->T=.inl o)/\∀mm' o,r=.inr (mm',o)->T=.inr o/\FM mm' o/\(∀x∈o,XZ n x)/\o.length<=XF D:=λmm' l' f1 f2 f3 f4 f5=>by
      unfold DC
      refine T2 (QO (ix:=λst:Int×L_ (ByteArray×Bool)×L_ (L_ Bag)=>st.1) (J:=λst:Int×L_ (ByteArray×Bool)×L_ (L_ Bag)=>FM st.2.1 st.2.2/\(∀x∈st.2.2,XZ n x)/\st.2.2.length<=XF D/\st.2.2[i]? = some x/\YD XK (XF D) st.2.2 ((X.drop st.1.toNat).filterMap (Bc n w x))=T) ⟨i2,hw,f1,f2,f3,f4,?_⟩)
      show YD XK (XF D) l' ((X.drop (Qi ((k:Int)+1)).toNat).filterMap (Bc n w x))=T
      rw[hw,Ye];exact f5
     rw[Xd,Qz i2,Qf]
     rw[OH i2,List.filterMap_cons]at k5
     have hox:=hok _ (Yf i2)
     generalize X[k]=o at k5 hox ⊢
     refine T1 (λhc3=>?_) λhc3=>?_
     ·have:Bc n w x o=none:=by unfold Bc;rw[if_pos (by simpa using hc3)]
      rw[this]at k5
      exact next mm l k1 k2 k3 k4 k5
     simp only[beq_eq_false_iff_ne]at hc3
     rw[Xd,k4,Qf]
     obtain⟨⟨y,c⟩,hD,_⟩:=QjV n x o 1024 h hgx.1 (by omega) hox
     rw[hD,Qf]
     by_cases cc:c=0
     ·subst cc
      have hgy:=Zx h hgx hox hD
      have:Bc n w x o=some y:=by unfold Bc;rw[if_neg hc3,hD];rfl
      rw[this]at k5
      simp only at k5
      rw[YD]at k5
      unfold IS
      simp only[show((0:Int) != 0)=false from rfl,Xw]
      rw[QfS h hgy,Qf,k1 (XK y),Qf]
      unfold IT
      refine T1 (λhh=>?_) λhh=>?_
      ·rw[if_pos (show QgD XK l y=true from hh)]at k5
       exact next mm l k1 k2 k3 k4 k5
      rw[if_neg (by rw[show QgD XK l y=false from hh];decide)]at k5
      refine T1 (λhf=>?_) λhf=>?_
      ·simp only[beq_iff_eq]at hf
       rw[if_pos (by omega)]at k5
       exact T2 (Qn ⟨λo e=>(by cases e;exact k5.symm),λmm' o e=>by cases e⟩)
      simp only[beq_eq_false_iff_ne]at hf
      rw[if_neg (by omega)]at k5
      simp only
      rw[QfS h hgy,Qf]
      refine T0 (T5 (by simp;omega)) λ_ _=>?_
      refine next _ _ (k1.add y) (λz hz=>?_) (by simp;omega) (by rw[Jd ((QX.1 k4).1)];exact k4) k5
      rcases YF.1 hz with hz | hz
      ·exact k2 z hz
      simp at hz;subst hz;exact hgy
     have:Bc n w x o=none:=by unfold Bc;rw[if_neg hc3,hD];simp only;rw[if_neg cc]
     rw[this]at k5
     unfold IS
     simp only[show(c != 0)=true by simpa using cc,Xq,Qf]
     unfold IT
     exact next mm l k1 k2 k3 k4 k5
    cases e
    simp only[Xj]at hc2
    rw[QeL (by omega),List.filterMap_nil,YD]at k5
    exact⟨k5.symm,k1,k2,k3⟩
   obtain⟨q,hq1,hq2,hq3⟩:=inner
   rw[hq1,Qf]
   rcases q with q | ⟨mm',o⟩
   ·have:=hq2 q rfl
    rw[this]at j4
    show Qd (IU q) _
    unfold IU
    exact T2 (Qn ⟨λl' e=>(by cases e;exact j4.symm),λl' e=>by cases e⟩)
   obtain⟨f1,f2,f3,f4⟩:=hq3 mm' o rfl
   rw[f1]at j4
   simp only at j4
   show Qd (IV i mm' o) _
   unfold IV
   have hw:Qi ((i:Int)+1)=((i+1:Nat):Int):=Qy (by omega:i<XF D) (by unfold maxLen;omega)
   refine T2 (QO ⟨by omega,hw,f2,f3,f4,?_⟩)
   show JK XK (OZ n w) (XF D) (XF D+1-(Qi ((i:Int)+1)).toNat) o (Qi ((i:Int)+1)).toNat=R
   rw[hw,Ye,show XF D+1-(i+1)=XF D-i by omega]
   exact j4
  cases e
  simp only[Xj]at hc
  rw[ZF (by omega)]at j4
  exact j4.symm
 obtain⟨q,hq1,hq2,hq3⟩:=main
 rw[hq1,Qf]
 rcases q with q | q
 ·rw[hq2 q rfl];rfl
 rw[hq3 q rfl];rfl
def Zy {l:L_ Int}{j:Nat}(h:j<l.length):l.toArray[j]! = l[j]:=by
 rw[getElem!_pos l.toArray j (by simpa using h)];simp
def Qlr {l:L_ Int}{x:Int}(h:x∈Km l):x∈l:=by
 unfold Km Lib.compact Lib.compactUpTo at h
 obtain⟨j,D,rfl⟩:=Ys.1 h
 have:=Ep.1 (Eo.1 D).1
 rw[Zy this];exact Yf this
def Qls {l:L_ Int}(h:l.Pairwise (·<=·)):(Km l).Pairwise (·<·):=by
 have hp:=QeN.1 h
 unfold Km Lib.compact Lib.compactUpTo
 rw[OK,List.pairwise_filter,QeN]
 intro i j hi hj hij _ D
 rw[Tm]at hi hj
 rw[Re]at D
 rw[Re,Re,Zy hi,Zy hj]
 unfold Lib.keeps at D
 have D:=Xs D
 rcases D with D | D
 ·omega
 have hj1:j-1<l.length:=by omega
 rw[Zy hj,Zy hj1]at D
 have h1:=hp (j-1) j hj1 hj (by omega)
 by_cases c:i=j-1
 ·subst c;omega
 have h2:=hp i (j-1) hi hj1 (by omega)
 omega
def Qmx (l:L_ Int):(KC l).Pairwise (·<=·):=Vr l
def Qlt {l:L_ Int}{x:Int}:x∈KC l↔x∈l:=by
 exact(MT l).mem_iff
def QgN (m:L_ Bag)(k:Int):Prop:=0<=k/\k<m.length/\m[k.toNat]? = some []
def Qj4 (n:Qe)(m:L_ Bag)(task:Int)(h:Xn n):Qd (Ge n m task) λe=>(∀k∈e,QgN m k)/\e.Pairwise (·<·):=by
 unfold Ge
 refine T1 (λ_=>T2 ⟨λk h=>(by cases h),List.Pairwise.nil⟩) λhc=>?_
 simp only[KZ,Xj]at hc
 refine T0 (T4 (by omega) (by omega)) λe he=>?_
 have hil:=(h.tk e he).2.1
 refine T0 (Qd.up e.Ins.length (λst=>st.1) (λst=>(st.2.length:Int)<=st.1/\∀k∈st.2,QgN m k) (Q:=λq:L_ Int=>q.length<=16/\∀k∈q,QgN m k) rfl ⟨by simp,λk h=>by cases h⟩ (λi st hi hn hJ=>?_)) (λq hq=>?_)
 ·obtain⟨x,l⟩:=st
  replace hi:x=(i:Int):=hi
  subst hi
  obtain⟨j1,j2⟩:(l.length:Int)<=(i:Int)/\∀k∈l,QgN m k:=hJ
  show Qd (IQ e m i l) _
  unfold IQ
  refine T1 (λhc2=>?_) (λhc2=>T2 (Qn ⟨by omega,j2⟩))
  simp only[QK]at hc2
  have i1:i<e.Ins.length:=by omega
  have hw:Qi ((i:Int)+1)=((i+1:Nat):Int):=Qy i1 (by unfold maxLen;omega:e.Ins.length<=maxLen)
  rw[Xd,Qz i1,Qf]
  refine T0 (P:=λy=>y=true->QgN m (e.Ins[i]).Place) ?_ λy hy=>?_
  ·unfold PU
   refine T1 (λc1=>?_) λ_=>T2 λh=>by cases h
   refine T1 (λc2=>?_) λ_=>T2 λh=>by cases h
   simp only[QK]at c1 c2
   have D:(e.Ins[i]).Place.toNat<m.length:=by omega
   rw[BG c1,Qz D,Qf]
   refine T2 λhz=>⟨c1,c2,?_⟩
   simp only[beq_iff_eq]at hz
   rw[Qz D,HK.1 (show(m[(e.Ins[i]).Place.toNat]).length=0 by omega)]
  unfold PV AS
  refine T1 (λc1=>?_) λ_=>?_
  ·refine T0 (T5 (by simp;omega)) λ_ _=>?_
   refine T2 (QO ⟨i1,hw,by show((l++[_]).length:Int)<=Qi _;rw[hw];simp;omega,λk D=>?_⟩)
   rcases YF.1 D with D | D
   ·exact j2 k D
   simp at D;subst D;exact hy c1
  exact T2 (QO ⟨i1,hw,by show(l.length:Int)<=Qi _;rw[hw];omega,j2⟩)
 obtain⟨q1,q2⟩:=hq
 show Qd (IR q) _
 unfold IR
 rw[Qio _ (by omega),Qf]
 refine T0 (T5 (by simp[BP])) λ_ _=>?_
 unfold KS
 rw[Gr (by rw[BP];omega),Qf,Qf]
 exact T2 ⟨λk D=>q2 k (Qlt.1 (Qlr D)),Qls (Qmx q)⟩
def NQ (n:Qe)(m:L_ Bag)(h:Int):L_ Int:=(Ge n m h).getD []
def Qmy (n:Qe)(m:L_ Bag)(D:Int)(h:Xn n):Ge n m D=some (NQ n m D)/\(∀k∈NQ n m D,QgN m k)/\(NQ n m D).Pairwise (·<·):=by
 obtain⟨e,h1,h2⟩:=Qj4 n m D h
 unfold NQ
 rw[h1];exact⟨rfl,h2⟩
def NR (e:L_ Int)(x:L_ Bag):Bool:=e.any λk=>decide (0<(((x[k.toNat]?).getD []).length:Int))
def Qod (e:L_ Int)(x:L_ Bag)(he:e.length<=maxLen)(hk:∀k∈e,0<=k/\k<x.length):JO e x=some (NR e x):=by
 unfold JO DO
 obtain⟨q,h1,h2⟩:=(Qd.up (body:=λst=>JN e x st) e.length (λst=>st) (λst=>NR (e.take st.toNat) x=false) (Q:=λq:Int⊕Unit=>(∀j,q=.inl j->0<=j/\NR e x=true)/\(q=.inr ()->NR e x=false)) (s0:=(0:Int)) rfl rfl (λi st hi hn hJ=>by
  replace hi:st=(i:Int):=hi
  subst hi
  replace hJ:NR (e.take (i:Int).toNat) x=false:=hJ
  rw[Ye]at hJ
  show Qd (JN e x i) _
  unfold JN Mn
  refine T1 (λhc=>?_) (λhc=>T2 (Qn ⟨λj e=>(by cases e),λ_=>?_⟩))
  ·simp only[QK]at hc
   have i1:i<e.length:=by omega
   have h:=Yf i1
   obtain⟨k1,k2⟩:=hk _ h
   have hkk:(e[i]).toNat<x.length:=by omega
   rw[Xd,Qz i1,Qf,BG k1,Qz hkk]
   simp only[Qf]
   have D:decide (0<(((x[(e[i]).toNat]?).getD []).length:Int))=decide (0<((x[(e[i]).toNat]).length:Int)):=by rw[Qz hkk];rfl
   refine T1 (λhc2=>T2 (Qn ⟨λj e'=>(by cases e';exact⟨by omega,HH.2 ⟨_,h,by rw[D];exact hc2⟩⟩),λe=>by cases e⟩)) λhc2=>?_
   have hw:Qi ((i:Int)+1)=((i+1:Nat):Int):=Qy i1 he
   refine T2 (QO ⟨i1,hw,?_⟩)
   show NR (e.take (Qi ((i:Int)+1)).toNat) x=false
   rw[hw,Ye,Un,Qz i1]
   unfold NR at hJ ⊢
   rw[List.any_append,hJ]
   simp only[Option.toList_some,List.any_cons,List.any_nil,Bool.or_false,Bool.false_or]
   rw[D];exact hc2
  simp only[Xj]at hc
  rwa[Wp (by omega)]at hJ))
 rw[h1]
 rcases q with q | q
 ·have:=h2.1 q rfl
  rw[this.2]
  simp only[Qf,Sum.elim_inl]
  unfold Uc
  rw[Qf,Yw this.1]
 rw[h2.2 rfl];rfl
def Qj5 {n:Qe}{m:L_ Bag}(w D:Int)(h:Xn n)(hg:XZ n m):(∀x∈(DA n w D m).1,XZ n x)/\(DA n w D m).1.length<=XF D/\IC XK (DA n w D m).1/\(0<XF D->∃r,(DA n w D m).1=m::r):=by
 unfold DA
 by_cases c0:XF D=0
 ·rw[if_pos c0]
  exact⟨λx h=>(by cases h),by simp,List.Pairwise.nil,λh=>by omega⟩
 rw[if_neg c0]
 obtain⟨⟨r,hr⟩,h2,h3,h4⟩:=Qk7 (key:=XK) (succ:=OZ n w) (P:=XZ n) (λx hx=>Qlq h hx) (most:=XF D) (XF D+1) (out:=[m]) (a:=0) (by simp;omega) (Tp _ _) λx hx=>by simp at hx;subst hx;exact hg
 exact⟨h4,h2,h3,λ_=>⟨r,hr⟩⟩
def QfT (n:Qe)(m:L_ Bag)(D h:Int):Int:=if (DA n D h m).1.any (NR (NQ n m D))then 0 else if (DA n D h m).2 then 1 else 2
def Qmz {n:Qe}{m:L_ Bag}(task D:Int)(h:Xn n)(hb:Bd n)(hg:XZ n m):Ic n m task D=some (QfT n m task D):=by
 have hpl:=h.pl
 obtain⟨e1,e2,e3⟩:=Qmy n m task h
 obtain⟨r1,r2,_,_⟩:=Qj5 task D h hg
 have hmost:=(Qje D).2
 have hm1:=hg.1.1
 unfold Ic QfT
 rw[e1,Qf,Qj3 task D h hb hg,Qf]
 have hel:(NQ n m task).length<=maxLen:=by
  unfold Ge at e1
  have:∀(l:L_ Int) (a b:Int),l.Pairwise (·<·)->(∀k∈l,a<=k/\k<b)->(l.length:Int)<=max 0 (b-a):=by
   intro l
   induction l with
   | nil=>intro a b _ _;simp;omega
   | cons x l ih=>
    intro a b hp hk
    obtain⟨p1,p2⟩:=Tn.1 hp
    have h1:=hk x XM
    have:=ih (x+1) b p2 λk hk2=>⟨by have:=p1 k hk2;omega,(hk k (XR _ hk2)).2⟩
    simp only[DP];omega
  have:=this _ 0 (m.length:Int) e3 λk hk=>⟨(e2 k hk).1,(e2 k hk).2.1⟩
  unfold maxLen;omega
 have hbk:∀x∈(DA n task D m).1,∀k∈NQ n m task,0<=k/\k<x.length:=λx hx k hk=>by
  have h1:=e2 k hk
  have h2:=(r1 x hx).1.1
  exact⟨h1.1,by have:=h1.2.1;omega⟩
 generalize DA n task D m=R at r1 r2 hbk ⊢
 generalize NQ n m task=E at hel hbk ⊢
 obtain⟨q,h1,h2⟩:=(Qd.up (body:=λst:L_ Int×Int=>AV R st.1 st.2) R.1.length (λst=>st.2) (λst=>st.1=E/\(R.1.take st.2.toNat).any (NR E)=false) (Q:=λq:Unit⊕Unit=>(q=.inl ()->R.1.any (NR E)=true)/\(q=.inr ()->R.1.any (NR E)=false)) (s0:=(E,(0:Int))) rfl ⟨rfl,rfl⟩ (λi st hi hn hJ=>by
  obtain⟨a,x⟩:=st
  replace hi:x=(i:Int):=hi
  subst hi
  obtain⟨j1,j2⟩:a=E/\(R.1.take (i:Int).toNat).any (NR E)=false:=hJ
  subst j1
  rw[Ye]at j2
  show Qd (AV R a i) _
  unfold AV
  refine T1 (λhc=>?_) (λhc=>T2 (Qn ⟨λe=>(by cases e),λ_=>?_⟩))
  ·simp only[QK]at hc
   have i1:i<R.1.length:=by omega
   have hmem:=Yf i1
   rw[Xd,Qz i1,Qf,Qod a _ hel (hbk _ hmem),Qf]
   refine T1 (λhc2=>T2 (Qn ⟨λ_=>HH.2 ⟨_,hmem,hc2⟩,λe=>by cases e⟩)) λhc2=>?_
   have hw:Qi ((i:Int)+1)=((i+1:Nat):Int):=Qy i1 (by unfold maxLen;omega:R.1.length<=maxLen)
   refine T2 (QO ⟨i1,hw,rfl,?_⟩)
   show(R.1.take (Qi ((i:Int)+1)).toNat).any (NR a)=false
   rw[hw,Ye,Un,Qz i1,List.any_append,j2]
   simpa using hc2
  simp only[Xj]at hc
  rwa[Wp (by omega)]at j2))
 rw[h1,Qf]
 rcases q with q | q
 ·rw[h2.1 rfl];rfl
 rw[h2.2 rfl]
 show IW R=_
 unfold IW
 cases R.2<;>rfl
def Ps (n:Qe)(m:L_ Bag)(o:Qj)(h:Int):Int:=if JC n m o=some 0 then(match idx n.Tasks o.Task with
 | some e=>if e.Join=3 then QfT n m o.Task h else 1
 | none=>0)else 0
def Qj6 {n:Qe}{m:L_ Bag}{o:Qj}(h:Xn n)(hm:Xa (Xa λ_=>True) m)(ho:Kv n o)(hc:JC n m o=some 0):∃e,idx n.Tasks o.Task=some e/\e∈n.Tasks:=by
 obtain⟨_,e,D,_,_,_,b,hb,_⟩:=MG.1 ((Qcr h hm ho).1 hc)
 obtain⟨k1,k2,_⟩:=RD h hb
 rw[D]at k1;cases k1
 exact⟨_,D,k2⟩
def Qiv {n:Qe}{m:L_ Bag}(o:Qj)(D:Int)(h:Xn n)(hb:Bd n)(hg:XZ n m)(ho:Kv n o):Ie n m o D=some (Ps n m o D):=by
 unfold Ie Ps
 obtain⟨c,hc,_⟩:=Qjb n m o h (hg.len h) ho
 rw[hc,Qf]
 by_cases c0:c=0
 ·subst c0
  obtain⟨e,he,_⟩:=Qj6 h (hg.len h) ho hc
  rw[if_pos rfl,he]
  simp only[show((0:Int) != 0)=false from rfl,Xw,Qf]
  by_cases cj:e.Join=3
  ·rw[if_pos cj,show(e.Join != 3)=false by simpa using cj,Xw,Qmz o.Task D h hb hg];rfl
  rw[if_neg cj,show(e.Join != 3)=true by simpa using cj];rfl
 rw[if_neg (λe=>c0 (Option.some.inj e)),show(c != 0)=true by simpa using c0];rfl
def QmA (n:Qe)(m:L_ Bag)(D:Int)(hn:Xm n)(hm:Xa (Xa λ_=>True) m):Qd (NI n m D) λr=>r=true->Xn n/\Bd n/\XZ n m/\D<=12:=by
 unfold NI
 refine T0 (Qn7 n m hn hm).self λf hf=>?_
 obtain⟨hfe,hf⟩:=hf
 refine T0 (P:=λr=>r=true->Xn n/\Bd n/\XZ n m/\D<=12) ?_ λr hr=>?_
 ·unfold TX
  refine T1 (λc1=>?_) λ_=>T2 λh=>by cases h
  refine T1 (λc2=>?_) λ_=>T2 λh=>by cases h
  refine T1 (λc3=>?_) λ_=>T2 λh=>by cases h
  obtain⟨h,g1,g2⟩:=hf c1
  subst c1
  rw[QaV h g1 (by omega),Qf]
  exact T2 λ_=>⟨h,Qnq n m h hfe,⟨g1,g2⟩,by simpa using c2⟩
 unfold TY
 exact T2 hr
def Qm5 (x:Int):IntKind.u8.wrap x=x % 256:=rfl
def RG (k:Nat)(x:Int)(h:k<8):IntKind.u8.wrap (Jk .i64 x (Qi (8*(k:Int))))=(x / (2 ^ (8*k):Nat)) % 256:=by
 rw[Qm5,XX (by omega)]
 unfold Jk
 rw[show(8*(k:Int)).toNat=8*k by omega,show min (8*k) (IntKind.bits .i64)=8*k from Cw (by show 8*k<=64;omega),Int.fdiv_eq_ediv_of_nonneg _ (Int.pow_nonneg (by omega))]
 simp
def Qiw (x:Int):XE 2 x=[x / 256 % 256,x % 256]:=by
 simp only[XE,RG 0 x (by omega),RG 1 x (by omega)];simp
def Qix (x:Int):XE 4 x=[x / 16777216 % 256,x / 65536 % 256,x / 256 % 256,x % 256]:=by
 simp only[XE,RG 0 x (by omega),RG 1 x (by omega),RG 2 x (by omega),RG 3 x (by omega)];simp
def QoR {x y:Int}(D:0<=x/\x<65536)(hy:0<=y/\y<65536)(h:XE 2 x=XE 2 y):x=y:=by
 rw[Qiw,Qiw]at h
 simp only[List.cons.injEq,and_true]at h
 omega
def Qm6 {x y:Int}(D:0<=x/\x<4294967296)(hy:0<=y/\y<4294967296)(h:XE 4 x=XE 4 y):x=y:=by
 rw[Qix,Qix]at h
 simp only[List.cons.injEq,and_true]at h
 omega
def QaF {k:Nat}{x:Int}(hk:k<=8):∀b∈XE k x,0<=b/\b<256:=by
 induction k with
 | zero=>intro b h;cases h
 | succ k D=>
  intro b h
  rcases Yg.1 h with rfl | h
  ·rw[Qm5];omega
  exact D (by omega) b h
def Qj7 (p:Int×Int):L_ Int:=XE 4 p.1++XE 4 p.2
def Qiy (p:Int×Int):(Qj7 p).length=8:=by simp[Qj7,JR]
def InP (p:Int×Int):Prop:=(0<=p.1/\p.1<4294967296)/\0<=p.2/\p.2<4294967296
def QmB : ∀(a b:Bag),a.length=b.length->(∀p∈a,InP p)->(∀p∈b,InP p)->a.flatMap Qj7=b.flatMap Qj7->a=b:=by
 intro a
 induction a with
 | nil=>intro b h _ _ _;exact(HK.1 (by simpa using h.symm)).symm
 | cons p a ih=>
  intro b h ha hb e
  cases b with
  | nil=>simp at h
  | cons q b=>
   rw[LA,LA]at e
   obtain⟨e1,e2⟩:=List.append_inj e (by rw[Qiy,Qiy])
   obtain⟨e3,e4⟩:=List.append_inj e1 (by rw[JR,JR])
   have hp:=ha p XM
   have hq:=hb q XM
   have f1:=Qm6 hp.1 hq.1 e3
   have f2:=Qm6 hp.2 hq.2 e4
   rw[Prod.ext f1 f2,ih b (by simpa using h) (λr D=>ha r (XR _ D)) (λr D=>hb r (XR _ D)) e2]
def InB (b:Bag):Prop:=b.length<65536/\∀p∈b,InP p
def QmC : ∀(a b:L_ Bag),a.length=b.length->(∀x∈a,InB x)->(∀x∈b,InB x)->a.flatMap NP=b.flatMap NP->a=b:=by
 intro a
 induction a with
 | nil=>intro b h _ _ _;exact(HK.1 (by simpa using h.symm)).symm
 | cons x a ih=>
  intro b h ha hb e
  cases b with
  | nil=>simp at h
  | cons y b=>
   have hx:=ha x XM
   have hy:=hb y XM
   rw[LA,LA]at e
   have e':=e
   unfold NP at e'
   rw[Wn,Wn]at e'
   have e1:=(List.append_inj e' (by rw[JR,JR])).1
   have D:=QoR (x:=(x.length:Int)) (y:=(y.length:Int)) ⟨by omega,by have:=hx.1;omega⟩ ⟨by omega,by have:=hy.1;omega⟩ e1
   have D:x.length=y.length:=by omega
   obtain⟨f1,f2⟩:=List.append_inj e (by rw[QeF,QeF,D])
   have f3:=(List.append_inj f1 (by rw[JR,JR])).2
   rw[QmB x y D hx.2 hy.2 f3,ih b (by simpa using h) (λr hr=>ha r (XR _ hr)) (λr hr=>hb r (XR _ hr)) f2]
def QfU (l:L_ Int):(Fw l).data.toList=l.map λx=>UInt8.ofNat x.toNat:=by
 unfold Fw
 have:∀(l:L_ Int) (r:ByteArray),(l.foldl (λr n=>r.push (UInt8.ofNat n.toNat)) r).data.toList=r.data.toList++l.map λx=>UInt8.ofNat x.toNat:=by
  intro l
  induction l with
  | nil=>intro r;simp
  | cons x l h=>intro r;rw[Tl,h];simp[ByteArray.push]
 rw[this];rfl
def Qlu {a b:L_ Int}(ha:∀x∈a,0<=x/\x<256)(hb:∀x∈b,0<=x/\x<256)(h:Fw a=Fw b):a=b:=by
 have e:(a.map λx=>UInt8.ofNat x.toNat)=b.map λx=>UInt8.ofNat x.toNat:=by rw[<-QfU,<-QfU,h]
 clear h
 induction a generalizing b with
 | nil=>cases b with
  | nil=>rfl
  | cons y b=>simp at e
 | cons x a ih=>cases b with
  | nil=>simp at e
  | cons y b=>
   simp only[DQ,List.cons.injEq]at e
   have h1:=ha x XM
   have h2:=hb y XM
   have e1:=congrArg UInt8.toNat e.1
   rw[UInt8.toNat_ofNat',UInt8.toNat_ofNat']at e1
   have:x=y:=by omega
   rw[this,ih (λz D=>ha z (XR _ D)) (λz D=>hb z (XR _ D)) e.2]
def Qiz (m:L_ Bag):∀x∈QcP m,0<=x/\x<256:=by
 intro x h
 unfold QcP at h
 rcases YF.1 h with h | h
 ·exact QaF (by omega) x h
 obtain⟨b,_,h⟩:=List.mem_flatMap.1 h
 unfold NP at h
 rcases YF.1 h with h | h
 ·exact QaF (by omega) x h
 obtain⟨p,_,h⟩:=List.mem_flatMap.1 h
 rcases YF.1 h with h | h
 ·exact QaF (by omega) x h
 exact QaF (by omega) x h
def Qjf {n:Qe}{m:L_ Bag}(h:Xn n)(D:XZ n m):∀b∈m,InB b:=λb hb=>by
 obtain⟨hr,hl⟩:=D.1.2 b hb
 refine⟨by omega,λp hp=>?_⟩
 have h1:=hr.2 p hp
 obtain⟨j,hj,rfl⟩:=Fs.1 hb
 have hj2:j<n.Places.length:=by have:=D.1.1;omega
 have h2:=CY hr.1.nd hp
 obtain⟨z,hz,hk⟩:=D.2 j _ _ (Qz hj) (Qz hj2) p.1 (by rw[h2];omega)
 have:=BK (Wt _ _ h.k.1) hz
 exact⟨⟨h1.1,by omega⟩,by omega,by omega⟩
def Qns {n:Qe}{a b:L_ Bag}(h:Xn n)(hp:n.Places.length<=64)(D:XZ n a)(hb:XZ n b)(e:XK a=XK b):a=b:=by
 have ha1:=D.1.1
 have hb1:=hb.1.1
 unfold XK at e
 rw[if_pos (by omega),if_pos (by omega)]at e
 have e:=Qlu (Qiz a) (Qiz b) e
 unfold QcP at e
 exact QmC a b (by omega) (Qjf h D) (Qjf h hb) (List.append_inj e (by rw[JR,JR])).2
def Qnt {a b:Int}(h:a<=b):XF a<=XF b:=by
 unfold XF min2 max2
 repeat' split
 all_goals omega
def QiW {n:Qe}{m:L_ Bag}(w:Int){a b:Int}(D:a<=b):(∃r,(DA n w b m).1=(DA n w a m).1++r)/\((DA n w a m).2=true->DA n w b m=DA n w a m):=by
 have hm:=Qnt D
 unfold DA
 by_cases c0:XF a=0
 ·rw[if_pos c0]
  exact⟨⟨_,(Rh _).symm⟩,λh=>by cases h⟩
 rw[if_neg c0,if_neg (by omega)]
 exact QjS hm _ _ (by simp;omega) (by omega) (by omega)
def Qj8 {n:Qe}{m:L_ Bag}(o:Qj){a b:Int}(hab:a<=b):Ps n m o a≠2->Ps n m o b=Ps n m o a:=by
 unfold Ps
 split
 ·split
  ·split
   ·unfold QfT
    obtain⟨⟨r,hr⟩,h2⟩:=QiW (n:=n) (m:=m) o.Task hab
    intro h
    cases D:(DA n o.Task a m).1.any (NR (NQ n m o.Task))with
    | true=>rw[hr,List.any_append,D];rfl
    | false=>
     rw[D]at h
     cases c2:(DA n o.Task a m).2 with
     | true=>rw[h2 c2,D,c2]
     | false=>rw[c2]at h;exact absurd rfl h
   intro _;rfl
  intro _;rfl
 intro _;rfl
def QmD {n:Qe}{m:L_ Bag}(D:Int)(h:Xn n)(hb:Bd n)(hg:XZ n m):Qd (DK n m D 9223372036854775807) λr=>r.1.length<=4194304/\∀o∈r.1,o∈YM n m:=by
 have hml:=hg.len h
 have hal:=QgL m h hb
 unfold DK
 rw[QeE n m 9223372036854775807 h hml (by omega) (by omega) (.inr (by omega)),Qf]
 have e0:(YM n m).take (9223372036854775807:Int).toNat=YM n m:=Wp (by omega)
 rw[e0]
 have hok:=λo=>Lx (o:=o) h hml
 refine T0 (Qd.up (YM n m).length (λst=>st.2.1) (λst=>(st.2.2.1.length:Int)<=st.2.1/\∀o∈st.2.2.1,o∈YM n m) (Q:=λq:Bool×L_ Qj=>q.2.length<=4194304/\∀o∈q.2,o∈YM n m) rfl ⟨by simp,λo h=>(by cases h)⟩ (λi st hi hn hJ=>?_)) (λq hq=>T2 hq)
 obtain⟨known,x,l,mm⟩:=st
 replace hi:x=(i:Int):=hi
 subst hi
 obtain⟨j1,j2⟩:(l.length:Int)<=(i:Int)/\∀o∈l,o∈YM n m:=hJ
 show Qd (WQ (YM n m) n m D known i l mm) _
 unfold WQ
 refine T1 (λhc=>?_) (λhc=>T2 (Qn ⟨by show l.length<=_;omega,j2⟩))
 simp only[QK]at hc
 have i1:i<(YM n m).length:=by omega
 have hw:Qi ((i:Int)+1)=((i+1:Nat):Int):=Qy i1 (by unfold maxLen;omega:(YM n m).length<=maxLen)
 have ho:=Yf i1
 rw[Xd,Qz i1,Qf]
 generalize (YM n m)[i]=o at ho ⊢
 have k1:∀(known':Bool) l' mm',(l'.length:Int)<=(i:Int)+1->(∀o∈l',o∈YM n m)->Qd (WP i known' l' mm') λr=>(∀s',r=.inl s'->i<(YM n m).length/\s'.2.1=((i+1:Nat):Int)/\(s'.2.2.1.length:Int)<=s'.2.1/\∀o∈s'.2.2.1,o∈YM n m)/\∀q:Bool×L_ Qj,r=.inr q->q.2.length<=4194304/\∀o∈q.2,o∈YM n m:=λknown' l' mm' h1 h2=>by
  unfold WP
  exact T2 (QO (ix:=λst:Bool×Int×L_ Qj×L_ (Int×Int)=>st.2.1) (J:=λst:Bool×Int×L_ Qj×L_ (Int×Int)=>(st.2.2.1.length:Int)<=st.2.1/\∀o∈st.2.2.1,o∈YM n m) ⟨i1,hw,by show(l'.length:Int)<=Qi _;rw[hw];omega,h2⟩)
 have k2:∀mm',Qd (KT o l i known mm') λr=>(∀s',r=.inl s'->i<(YM n m).length/\s'.2.1=((i+1:Nat):Int)/\(s'.2.2.1.length:Int)<=s'.2.1/\∀o∈s'.2.2.1,o∈YM n m)/\∀q:Bool×L_ Qj,r=.inr q->q.2.length<=4194304/\∀o∈q.2,o∈YM n m:=λmm'=>by
  unfold KT
  refine T1 (λc1=>?_) λc1=>T1 (λc2=>k1 _ _ _ (by omega) j2) λc2=>k1 _ _ _ (by omega) j2
  refine T0 (T5 (by simp;omega)) λ_ _=>k1 _ _ _ (by simp;omega) λo' ho'=>?_
  rcases YF.1 ho' with ho' | ho'
  ·exact j2 o' ho'
  simp at ho';subst ho';exact ho
 refine T1 (λc=>?_) λc=>k2 _
 rw[Qiv o D h hb hg (hok o ho),Qf]
 exact k2 _
def YR (n:Qe)(m:L_ Bag)(h:Int):L_ Qj×Bool:=(DK n m h 9223372036854775807).getD ([],false)
def Zz {n:Qe}{m:L_ Bag}(D:Int)(h:Xn n)(hb:Bd n)(hg:XZ n m):DK n m D 9223372036854775807=some (YR n m D)/\(YR n m D).1.length<=4194304/\∀o∈(YR n m D).1,o∈YM n m:=by
 obtain⟨r,h1,h2⟩:=QmD D h hb hg
 unfold YR
 rw[h1];exact⟨rfl,h2⟩
def AF (L:L_ (L_ Bag))(s:ByteArray):O_ Nat:=L.findIdx? λy=>decide (XK y=s)
def FI (mm:L_ (ByteArray×Int))(L:L_ (L_ Bag)):Prop:=∀s,Qq mm s=(AF L s).map λi=>(i:Int)
def QmE (L:L_ (L_ Bag))(y:L_ Bag)(s:ByteArray):AF (L++[y]) s=match AF L s with
  | some i=>some i
  | none=>if XK y=s then some L.length else none:=by
 unfold AF
 rw[List.findIdx?_append]
 cases L.findIdx? λy=>decide (XK y=s)with
 | some i=>rfl
 | none=>
  by_cases c:XK y=s
  ·simp[c,List.findIdx?_cons]
  simp[c,List.findIdx?_cons]
def Qlv {L:L_ (L_ Bag)}{s:ByteArray}{i:Nat}(h:AF L s=some i):∃y,L[i]? = some y/\XK y=s:=by
 unfold AF at h
 obtain⟨D,h2,_⟩:=List.findIdx?_eq_some_iff_getElem.1 h
 exact⟨L[i],Qz D,Xs h2⟩
def Qlw {L:L_ (L_ Bag)}{s:ByteArray}(h:AF L s=none):∀y∈L,XK y≠s:=λy D e=>by
 unfold AF at h
 have:=List.findIdx?_eq_none_iff.1 h y D
 exact absurd (Yw e) (by rw[this];decide)
def FI.add {mm:L_ (ByteArray×Int)}{L:L_ (L_ Bag)}(h:FI mm L){y:L_ Bag}(D:AF L (XK y)=none):FI (XD NV mm (XK y) (L.length:Int)) (L++[y]):=λs=>by
 rw[JJ,QmE]
 by_cases c:s=XK y
 ·subst c
  rw[if_pos rfl,D];simp
 rw[if_neg c,h s]
 cases AF L s with
 | some i=>rfl
 | none=>simp only;rw[if_neg λe=>c e.symm]
def Xg (b:Int):Nat:=(min2 b 4096).toNat
def Qnu {n:Qe}{m:L_ Bag}(h:Xn n)(D:XZ n m):OR m=some (XK m):=QfS h D
def QfV {n:Qe}{mm:L_ (ByteArray×Int)}{L:L_ (L_ Bag)}(b:Int)(E:L_ QZ)(full:Bool){y:L_ Bag}(h:Xn n)(hg:XZ n y)(hI:FI mm L)(hb:0<b):
  ∃k D mm',Wy n.Colours n.Places n.Tasks n.From n.To b mm L E full y=some (k,D,n.Colours,n.Places,n.Tasks,n.From,n.To,b,full,mm')/\FI mm' D/\
   ((∃i:Nat,AF L (XK y)=some i/\k=(i:Int)/\D=L)\/(AF L (XK y)=none/\Xg b<=L.length/\k=-1/\D=L)\/(AF L (XK y)=none/\¬Xg b<=L.length/\k=(L.length:Int)/\D=L++[y])):=by
 have hmost:(Xg b:Int)=min2 b 4096:=by unfold Xg min2;split<;>omega
 have hm2:Xg b<=4096:=by unfold Xg min2;split<;>omega
 unfold Wy
 rw[Qnu h hg,Qf,hI (XK y)]
 cases hp:AF L (XK y)with
 | some i=>exact⟨i,L,mm,rfl,hI,.inl ⟨i,rfl,rfl,rfl⟩⟩
 | none=>
  simp only[Lb,Option.isSome_none,Xw]
  cases hc:decide (min2 b 4096<=(L.length:Int))with
  | true=>exact⟨-1,L,mm,rfl,hI,.inr (.inl ⟨by trivial,by have:=Xs hc;omega,rfl,rfl⟩)⟩
  | false=>
   have hc':=of_decide_eq_false hc
   simp only[Xw,Qf]
   rw[Gr (by simp;omega),Qf]
   exact⟨L.length,L++[y],_,rfl,hI.add hp,.inr (.inr ⟨by trivial,by omega,rfl,rfl⟩)⟩
abbrev NS := L_ (L_ Bag)×L_ QZ×Bool
def Jh (most:Nat)(n:Qe)(x:L_ Bag)(a:Int)(st:NS)(o:Qj):NS:=match Yc n x o with
 | some (y,c)=>if c=0 then(match AF st.1 (XK y)with
   | some k=>(st.1,st.2.1++[QZ.mk a (k:Int) o],st.2.2)
   | none=>if most<=st.1.length then(st.1,st.2.1,false)else(st.1++[y],st.2.1++[QZ.mk a (st.1.length:Int) o],st.2.2))
  else(st.1,st.2.1,false)
 | none=>st
def Qj9 {n:Qe}{mm:L_ (ByteArray×Int)}{L:L_ (L_ Bag)}{E:L_ QZ}{full:Bool}{x:L_ Bag}{a:Nat}(b:Int)(h:Xn n)(hbd:Bd n)(hg:XZ n x)(hI:FI mm L)(hb:0<b)(hx:L[a]? = some x)(hE:E.length<=134217728):
  ∃D,let T:=(YR n x b).1.foldl (Jh (Xg b) n x a) (L,E,full&&(YR n x b).2)
   Gm n.Colours n.Places n.Tasks n.From n.To b mm L E full a=some (T.1,T.2.1,n.Colours,n.Places,n.Tasks,n.From,n.To,b,T.2.2,D)/\FI D T.1:=by
 obtain⟨hf,hfl,hfm⟩:=Zz b h hbd hg
 unfold Gm
 rw[Xd,hx,Qf,show Qe.mk n.Colours n.Places n.Tasks n.From n.To=n from rfl,hf,Qf]
 have g1:EE full (YR n x b)=some (full&&(YR n x b).2):=by
  unfold EE;cases full<;>rfl
 rw[g1,Qf]
 have hok:∀o∈(YR n x b).1,Kv n o:=λo ho=>Lx h (hg.len h) (hfm o ho)
 unfold Dd
 generalize hX:(YR n x b).1=X at hfl hok ⊢
 generalize (full&&(YR n x b).2)=full0
 have main:Qd (QD (λst=>Kt (YR n x b) x a st.1 st.2.1 st.2.2.1 st.2.2.2.1 st.2.2.2.2.1 st.2.2.2.2.2.1 st.2.2.2.2.2.2.1 st.2.2.2.2.2.2.2.1 st.2.2.2.2.2.2.2.2.1 st.2.2.2.2.2.2.2.2.2.1 st.2.2.2.2.2.2.2.2.2.2) ((0:Int),n.Colours,n.Places,n.Tasks,n.From,n.To,b,full0,mm,E,L))
   λq=>∃D,q=(n.Colours,n.Places,n.Tasks,n.From,n.To,b,(X.foldl (Jh (Xg b) n x a) (L,E,full0)).2.2,D,(X.foldl (Jh (Xg b) n x a) (L,E,full0)).2.1,(X.foldl (Jh (Xg b) n x a) (L,E,full0)).1)/\FI D (X.foldl (Jh (Xg b) n x a) (L,E,full0)).1:=by
  refine Qd.up X.length (λst=>st.1) (λst=>st.2.1=n.Colours/\st.2.2.1=n.Places/\st.2.2.2.1=n.Tasks/\st.2.2.2.2.1=n.From/\st.2.2.2.2.2.1=n.To/\st.2.2.2.2.2.2.1=b/\FI st.2.2.2.2.2.2.2.2.1 st.2.2.2.2.2.2.2.2.2.2/\(st.2.2.2.2.2.2.2.2.2.1.length:Int)<=E.length+st.1/\(X.drop st.1.toNat).foldl (Jh (Xg b) n x a) (st.2.2.2.2.2.2.2.2.2.2,st.2.2.2.2.2.2.2.2.2.1,st.2.2.2.2.2.2.2.1)=X.foldl (Jh (Xg b) n x a) (L,E,full0)) rfl ⟨rfl,rfl,rfl,rfl,rfl,rfl,hI,by simp,rfl⟩ (λi st hi hn hJ=>?_)
  obtain⟨i',c,p,t,fr,tz,b',fu,mm,E',L'⟩:=st
  replace hi:i'=(i:Int):=hi
  subst hi
  obtain⟨e1,e2,e3,e4,e5,e6,j1,j2,j3⟩:c=n.Colours/\p=n.Places/\t=n.Tasks/\fr=n.From/\tz=n.To/\b'=b/\FI mm L'/\(E'.length:Int)<=E.length+(i:Int)/\(X.drop (i:Int).toNat).foldl (Jh (Xg b) n x a) (L',E',fu)=X.foldl (Jh (Xg b) n x a) (L,E,full0):=hJ
  subst e1;subst e2;subst e3;subst e4;subst e5;subst e6
  rw[Ye]at j3
  show Qd (Kt (YR n x b') x a i n.Colours n.Places n.Tasks n.From n.To b' fu mm E' L') _
  unfold Kt
  rw[hX]
  refine T1 (λhc=>?_) (λhc=>T2 (Qn ?_))
  ·simp only[QK]at hc
   have i1:i<X.length:=by omega
   have hw:Qi ((i:Int)+1)=((i+1:Nat):Int):=Qy i1 (by unfold maxLen;omega:X.length<=maxLen)
   rw[Xd,Qz i1,Qf,show Qe.mk n.Colours n.Places n.Tasks n.From n.To=n from rfl]
   rw[OH i1,Tl]at j3
   have ho:=hok _ (Yf i1)
   generalize X[i]=o at ho j3 ⊢
   obtain⟨⟨y,cc⟩,hD,_⟩:=QjV n x o 1024 h hg.1 (by omega) ho
   rw[hD,Qf]
   have next:∀(fu':Bool) D E'' L'',FI D L''->(E''.length:Int)<=E.length+((i:Int)+1)->Jh (Xg b') n x a (L',E',fu) o=(L'',E'',fu')->
     Qd (Kr i n.Colours n.Places n.Tasks n.From n.To b' fu' D E'' L'') λr=>(∀s',r=.inl s'->i<X.length/\s'.1=((i+1:Nat):Int)/\(s'.2.1=n.Colours/\s'.2.2.1=n.Places/\s'.2.2.2.1=n.Tasks/\s'.2.2.2.2.1=n.From/\s'.2.2.2.2.2.1=n.To/\s'.2.2.2.2.2.2.1=b'/\FI s'.2.2.2.2.2.2.2.2.1 s'.2.2.2.2.2.2.2.2.2.2/\(s'.2.2.2.2.2.2.2.2.2.1.length:Int)<=E.length+s'.1/\(X.drop s'.1.toNat).foldl (Jh (Xg b') n x a) (s'.2.2.2.2.2.2.2.2.2.2,s'.2.2.2.2.2.2.2.2.2.1,s'.2.2.2.2.2.2.2.1)=X.foldl (Jh (Xg b') n x a) (L,E,full0)))/\
      ∀q,r=.inr q->∃D,q=(n.Colours,n.Places,n.Tasks,n.From,n.To,b',(X.foldl (Jh (Xg b') n x a) (L,E,full0)).2.2,D,(X.foldl (Jh (Xg b') n x a) (L,E,full0)).2.1,(X.foldl (Jh (Xg b') n x a) (L,E,full0)).1)/\FI D (X.foldl (Jh (Xg b') n x a) (L,E,full0)).1:=λfu' D E'' L'' f1 f2 f3=>by
    unfold Kr
    refine T2 ⟨λs' e=>?_,λq e=>by cases e⟩
    cases e
    refine⟨i1,hw,rfl,rfl,rfl,rfl,rfl,rfl,f1,by show(E''.length:Int)<=_+Qi _;rw[hw];omega,?_⟩
    show(X.drop (Qi ((i:Int)+1)).toNat).foldl (Jh (Xg b') n x a) (L'',E'',fu')=_
    rw[hw,Ye,<-j3,f3]
   by_cases c0:cc=0
   ·subst c0
    have hgy:=Zx h hg ho hD
    simp only[show((0:Int)==0)=true from rfl,Xq]
    obtain⟨k,L'',mm'',hs,f1,f2⟩:=QfV b' E' fu h hgy j1 hb
    rw[hs,Qf]
    simp only
    unfold Ks
    rcases f2 with⟨p,p1,rfl,rfl⟩|⟨p1,p2,rfl,rfl⟩|⟨p1,p2,rfl,rfl⟩
    ·rw[KJ (by omega),Xw]
     refine T0 (T5 (by simp;omega)) λ_ _=>next _ _ _ _ f1 (by simp;omega) ?_
     unfold Jh;rw[hD];simp only;rw[if_pos trivial,p1]
    ·rw[show decide ((-1:Int)<0)=true from rfl,Xq]
     refine next _ _ _ _ f1 (by omega) ?_
     unfold Jh;rw[hD];simp only;rw[if_pos trivial,p1];simp only;rw[if_pos p2]
    rw[KJ (by omega),Xw]
    refine T0 (T5 (by simp;omega)) λ_ _=>next _ _ _ _ f1 (by simp;omega) ?_
    unfold Jh;rw[hD];simp only;rw[if_pos trivial,p1];simp only;rw[if_neg p2]
   rw[show(cc==0)=false by simpa using c0,Xw]
   unfold Ks
   rw[show decide ((-1:Int)<0)=true from rfl,Xq]
   refine next _ _ _ _ j1 (by omega) ?_
   unfold Jh;rw[hD];simp only;rw[if_neg c0]
  simp only[Xj]at hc
  rw[QeL (by omega),List.foldl_nil]at j3
  rw[<-j3]
  exact⟨mm,rfl,j1⟩
 obtain⟨q,hq1,D,rfl,hq2⟩:=main
 refine⟨D,?_,hq2⟩
 rw[hq1];rfl
def VO (x:L_ Bag):Int:=Qi (tS x x.length)
def KH (n:Qe)(b tokens:Int):Nat->NS->Nat->NS
 | 0,st,_=>st
 | f+1,st,a=>match st.1[a]? with
  | none=>st
  | some x=>if tokens<VO x then KH n b tokens f (st.1,st.2.1,false) (a+1)
   else KH n b tokens f ((YR n x b).1.foldl (Jh (Xg b) n x a) (st.1,st.2.1,st.2.2&&(YR n x b).2)) (a+1)
def QmF {n:Qe}{x:L_ Bag}{a:Int}{most:Nat}{st:NS}{o:Qj}(h:Xn n)(hg:XZ n x)(ho:Kv n o)(hs:∀y∈st.1,XZ n y):∀y∈(Jh most n x a st o).1,XZ n y:=by
 unfold Jh
 cases hD:Yc n x o with
 | none=>exact hs
 | some r=>
  obtain⟨y,c⟩:=r
  simp only
  by_cases c0:c=0
  ·subst c0
   rw[if_pos rfl]
   cases AF st.1 (XK y)with
   | some k=>exact hs
   | none=>
    simp only
    split
    ·exact hs
    intro z D
    rcases YF.1 D with D | D
    ·exact hs z D
    simp at D;subst D;exact Zx h hg ho hD
  rw[if_neg c0];exact hs
def Qnv {n:Qe}{x:L_ Bag}{a:Int}{most:Nat}{st:NS}{o:Qj}(h:st.1.length<=most):(Jh most n x a st o).1.length<=most/\(Jh most n x a st o).2.1.length<=st.2.1.length+1:=by
 unfold Jh
 cases hD:Yc n x o with
 | none=>exact⟨h,by simp⟩
 | some r=>
  obtain⟨y,c⟩:=r
  simp only
  by_cases D:c=0
  ·rw[if_pos D]
   cases AF st.1 (XK y)with
   | some k=>exact⟨h,by simp⟩
   | none=>
    simp only
    split
    ·exact⟨h,by simp⟩
    exact⟨by simp;omega,by simp⟩
  rw[if_neg D];exact⟨h,by simp⟩
def Qcs {n:Qe}{x:L_ Bag}{a:Int}{most:Nat}(h:Xn n)(hg:XZ n x):∀{X:L_ Qj} {st:NS},(∀o∈X,Kv n o)->(∀y∈st.1,XZ n y)->st.1.length<=most->(∀y∈(X.foldl (Jh most n x a) st).1,XZ n y)/\(X.foldl (Jh most n x a) st).1.length<=most/\(X.foldl (Jh most n x a) st).2.1.length<=st.2.1.length+X.length:=by
 intro X
 induction X with
 | nil=>intro st _ hs D;exact⟨hs,D,by simp⟩
 | cons o X ih=>
  intro st ho hs D
  have h1:=Qnv (n:=n) (x:=x) (a:=a) (o:=o) D
  obtain⟨k1,k2,k3⟩:=ih (st:=Jh most n x a st o) (λo' ho'=>ho o' (XR _ ho')) (QmF h hg (ho o XM) hs) h1.1
  rw[Tl]
  exact⟨k1,k2,by simp;omega⟩
def Qlx {n:Qe}{m:L_ Bag}(b tokens:Int)(h:Xn n)(hbd:Bd n)(hg:XZ n m)(hb:b<=31):
  Hv n m b tokens=some (if b<=0 then QN.mk [] [] false else let r:=KH n b tokens (Xg b+1) ([m],[],true) 0;QN.mk r.1 r.2.1 r.2.2):=by
 have hpl:=h.pl
 have hm1:=hg.1.1
 unfold Hv
 by_cases c0:b<=0
 ·rw[Yw c0,if_pos c0];rfl
 rw[KJ c0,if_neg c0,Xw,NO m (by omega) (λb hb=>by have:=(hg.1.2 b hb).2;omega),Qf]
 have hmost:(Xg b:Int)=b:=by unfold Xg min2;split<;>omega
 obtain⟨k,L',mm',hs,f1,f2⟩:=QfV (mm:=[]) (L:=[]) b [] true h hg (λs=>rfl) (by omega)
 rw[hs,Qf]
 have hL:L'=[m]:=by
  rcases f2 with⟨i,p1,_,_⟩|⟨_,p2,_,_⟩|⟨_,_,_,e⟩
  ·simp[AF]at p1
  ·simp at p2;omega
  simpa using e
 subst hL
 simp only
 generalize hR:KH n b tokens (Xg b+1) ([m],[],true) 0=R
 have main:Qd (QD (λst=>Ad tokens st.1 st.2.1 st.2.2.1 st.2.2.2.1 st.2.2.2.2.1 st.2.2.2.2.2.1 st.2.2.2.2.2.2.1 st.2.2.2.2.2.2.2.1 st.2.2.2.2.2.2.2.2.1 st.2.2.2.2.2.2.2.2.2.1 st.2.2.2.2.2.2.2.2.2.2) ((0:Int),n.Colours,n.Places,n.Tasks,n.From,n.To,b,true,mm',[m],([]:L_ QZ)))
   λq=>∃mm,q=(n.Colours,n.Places,n.Tasks,n.From,n.To,b,R.2.2,mm,R.1,R.2.1):=by
  refine Qd.up (Xg b) (λst=>st.1) (λst=>st.2.1=n.Colours/\st.2.2.1=n.Places/\st.2.2.2.1=n.Tasks/\st.2.2.2.2.1=n.From/\st.2.2.2.2.2.1=n.To/\st.2.2.2.2.2.2.1=b/\FI st.2.2.2.2.2.2.2.2.1 st.2.2.2.2.2.2.2.2.2.1/\(∀y∈st.2.2.2.2.2.2.2.2.2.1,XZ n y)/\st.2.2.2.2.2.2.2.2.2.1.length<=Xg b/\(st.2.2.2.2.2.2.2.2.2.2.length:Int)<=st.1*4194304/\KH n b tokens (Xg b+1-st.1.toNat) (st.2.2.2.2.2.2.2.2.2.1,st.2.2.2.2.2.2.2.2.2.2,st.2.2.2.2.2.2.2.1) st.1.toNat=R) rfl ⟨rfl,rfl,rfl,rfl,rfl,rfl,f1,λy hy=>by simp at hy;subst hy;exact hg,by show 1<=_;omega,by simp,hR⟩ (λi st hi hn hJ=>?_)
  obtain⟨i',c,p,t,fr,tz,D,fu,mm,L,E⟩:=st
  replace hi:i'=(i:Int):=hi
  subst hi
  obtain⟨e1,e2,e3,e4,e5,e6,j1,j2,j3,j4,j5⟩:c=n.Colours/\p=n.Places/\t=n.Tasks/\fr=n.From/\tz=n.To/\D=b/\FI mm L/\(∀y∈L,XZ n y)/\L.length<=Xg b/\(E.length:Int)<=(i:Int)*4194304/\KH n b tokens (Xg b+1-(i:Int).toNat) (L,E,fu) (i:Int).toNat=R:=hJ
  subst e1;subst e2;subst e3;subst e4;subst e5;subst e6
  rw[Ye,show Xg D+1-i=(Xg D-i)+1 by omega,KH]at j5
  show Qd (Ad tokens i n.Colours n.Places n.Tasks n.From n.To D fu mm L E) _
  unfold Ad
  refine T1 (λhc=>?_) (λhc=>T2 (Qn ?_))
  ·simp only[QK]at hc
   have i1:i<L.length:=by omega
   have hx:=Qz i1
   have hgx:=j2 _ (Yf i1)
   rw[Xd,hx,Qf]
   simp only[hx]at j5
   generalize L[i]=x at hx hgx j5 ⊢
   rw[QaV h hgx.1 (by omega),Qf]
   have hw:Qi ((i:Int)+1)=((i+1:Nat):Int):=Qy (by omega:i<Xg D) (by unfold maxLen;omega)
   have next:∀(fu':Bool) mm' L' E',FI mm' L'->(∀y∈L',XZ n y)->L'.length<=Xg D->(E'.length:Int)<=((i:Int)+1)*4194304->KH n D tokens (Xg D-i) (L',E',fu') (i+1)=R->
     Qd (Ac i n.Colours n.Places n.Tasks n.From n.To D fu' mm' L' E') λr=>(∀s',r=.inl s'->i<Xg D/\s'.1=((i+1:Nat):Int)/\(s'.2.1=n.Colours/\s'.2.2.1=n.Places/\s'.2.2.2.1=n.Tasks/\s'.2.2.2.2.1=n.From/\s'.2.2.2.2.2.1=n.To/\s'.2.2.2.2.2.2.1=D/\FI s'.2.2.2.2.2.2.2.2.1 s'.2.2.2.2.2.2.2.2.2.1/\(∀y∈s'.2.2.2.2.2.2.2.2.2.1,XZ n y)/\s'.2.2.2.2.2.2.2.2.2.1.length<=Xg D/\(s'.2.2.2.2.2.2.2.2.2.2.length:Int)<=s'.1*4194304/\KH n D tokens (Xg D+1-s'.1.toNat) (s'.2.2.2.2.2.2.2.2.2.1,s'.2.2.2.2.2.2.2.2.2.2,s'.2.2.2.2.2.2.2.1) s'.1.toNat=R))/\
      ∀q,r=.inr q->∃mm,q=(n.Colours,n.Places,n.Tasks,n.From,n.To,D,R.2.2,mm,R.1,R.2.1):=λfu' mm' L' E' g1 g2 g3 g4 g5=>by
    unfold Ac
    refine T2 ⟨λs' e=>?_,λq e=>by cases e⟩
    cases e
    refine⟨by omega,hw,rfl,rfl,rfl,rfl,rfl,rfl,g1,g2,g3,by show(E'.length:Int)<=Qi _*_;rw[hw];omega,?_⟩
    show KH n D tokens (Xg D+1-(Qi ((i:Int)+1)).toNat) (L',E',fu') (Qi ((i:Int)+1)).toNat=R
    rw[hw,Ye,show Xg D+1-(i+1)=Xg D-i by omega]
    exact g5
   refine T1 (λhc2=>?_) λhc2=>?_
   ·rw[if_pos (show tokens<VO x by simpa[VO] using hc2)]at j5
    exact next _ _ _ _ j1 j2 j3 (by omega) j5
   rw[if_neg (show ¬tokens<VO x by simpa[VO] using hc2)]at j5
   obtain⟨mm',hl,f3⟩:=Qj9 (full:=fu) (E:=E) D h hbd hgx j1 (by omega) hx (by omega)
   rw[hl,Qf]
   obtain⟨q1,q2,q3⟩:=Zz D h hbd hgx
   obtain⟨g1,g2,g3⟩:=Qcs (a:=(i:Int)) (most:=Xg D) h hgx (X:=(YR n x D).1) (st:=(L,E,fu&&(YR n x D).2)) (λo ho=>Lx h (hgx.len h) (q3 o ho)) j2 j3
   exact next _ _ _ _ f3 g1 g2 (by simp only at g3 ⊢;omega) j5
  simp only[Xj]at hc
  rw[ZF (show L.length<=i by omega)]at j5
  rw[<-j5]
  exact⟨mm,rfl⟩
 obtain⟨q,hq1,mm,rfl⟩:=main
 rw[hq1];rfl
end Go.Proofs
