/- A part of the proof; what it holds is told at each theorem. -/
import Derived.Test.YtphohlpbjofddaaGreatDoorO4T2
import Derived.KernelRfl
import Derived.Test.YtphohlpbjofddaaGreatDoorO4P1
import Derived.Test.YtphohlpbjofddaaGreatDoorO4P1
import Derived.Test.YtphohlpbjofddaaGreatDoorO4P1
import Derived.Test.YtphohlpbjofddaaGreatDoorO4P1
import Derived.Test.YtphohlpbjofddaaGreatDoorO4P1
import Derived.Test.YtphohlpbjofddaaGreatDoorO4P1
set_option linter.all false
noncomputable section
namespace Go.Proofs
open Go Go.RowKit Go.Vm
abbrev Bag := L_ (Int×Int)
def Ql7 (how:Bag->Bag->O_ (Bag×Int))(a b r:L_ Bag):Prop:=∀(j:Nat) x y,a[j]? = some x->b[j]? = some y->∃z,r[j]? = some z/\how x y=some (z,0)
def Can (how:Bag->Bag->O_ (Bag×Int))(a b:L_ Bag):Prop:=∀(j:Nat) x y,a[j]? = some x->b[j]? = some y->∃z,how x y=some (z,0)
def Nk {α:Type}{l:L_ α}{i:Nat}(h:i<l.length):l[i]? = some l[i]:=Qy h
def QpA {a b r:Bag}(h:a.length+b.length<=4294967296)(e:Je a b=some (r,0)):Rt a/\Rt b/\Rt r/\∀k,QE r k=QE a k+QE b k:=by
 rcases UG a b h with⟨_,e'⟩|⟨_,_,_,e'⟩|⟨j,D,r',e',h3,h4,_⟩
 ·rw[e]at e';cases e'
 ·rw[e]at e';cases e'
 rw[e]at e';cases e';exact⟨j,D,h3,h4⟩
def QoX {a b r:Bag}(h:a.length+b.length<=4294967296)(e:Jh a b=some (r,0)):Rt a/\Rt b/\Rt r/\(∀k,QE b k<=QE a k)/\∀k,QE r k=QE a k-QE b k:=by
 rcases Fs a b h with⟨_,e'⟩|⟨_,_,_,e'⟩|⟨j,D,h5,r',e',h3,h4,_⟩
 ·rw[e]at e';cases e'
 ·rw[e]at e';cases e'
 rw[e]at e';cases e';exact⟨j,D,h3,h5,h4⟩
def QjE {n:Qn}{c:Nat}{m:L_ Bag}(h:JP n c m){j:Nat}(D:j<n.Places.length):∃b,m[j]? = some b/\Rt b/\b.length<=c:=by
 have:j<m.length:=by have:=h.1;omega
 exact⟨m[j],Nk this,h.2 _ (Xs this)⟩
def Qk3 (n:Qn)(a b:L_ Bag)(c d:Nat)(h:Xd n)(ha:JP n c a)(hb:JP n d b)(hcd:c+d<=1000000):Qg (WI a b) λr=>(r.2=0->r.1.length=n.Places.length/\Ql7 Jh a b r.1)/\(Can Jh a b->r.2=0):=by
 have hpl:=h.pl
 have ha1:=ha.1
 have hb1:=hb.1
 have hmin:min2 (a.length:Int) (b.length:Int)=(n.Places.length:Int):=by unfold min2;split<;>omega
 unfold WI
 rw[hmin]
 refine T0 (T5 (by simp only[QH,QC];omega)) λ_ _=>?_
 refine T0 (Qg.up n.Places.length (λst=>st.1) (λst=>st.2.length=n.Places.length/\∀(j:Nat) x y,(j:Int)<st.1->a[j]? = some x->b[j]? = some y->∃z,st.2[j]? = some z/\Jh x y=some (z,0)) (Q:=λq:Int⊕L_ Bag=>(∀x,q=.inl x->x≠0/\¬Can Jh a b)/\∀m,q=.inr m->m.length=n.Places.length/\Ql7 Jh a b m) rfl ⟨by simp,λj x y hj=>by omega⟩ (λi st hi hn hJ=>?_)) (λq hq=>?_)
 ·obtain⟨x,m⟩:=st
  replace hi:x=(i:Int):=hi
  obtain⟨hJ1,hJ2⟩:m.length=n.Places.length/\∀(j:Nat) u v,(j:Int)<x->a[j]? = some u->b[j]? = some v->∃z,m[j]? = some z/\Jh u v=some (z,0):=hJ
  show Qg (JU a b x m) _
  unfold JU
  rw[hmin]
  refine T1 (λhc=>?_) (λhc=>T2 (Qp ⟨λx e=>(by cases e),λm' e=>(by cases e;exact⟨hJ1,λj u v hu hv=>hJ2 j u v (by
   simp only[QV,RQ]at hc
   have:=(Xe.1 hu).1
   omega) hu hv⟩)⟩))
  simp only[QC,RQ]at hc
  have i1:i<a.length:=by omega
  have i2:i<b.length:=by omega
  rw[hi,QR,Nk i1,Qd,QR,Nk i2,Qd]
  have hu2:=ha.2 _ (Xs i1)
  have hv2:=hb.2 _ (Xs i2)
  have key:∃s,Jh a[i] b[i]=some s:=by
   rcases Fs a[i] b[i] (by omega)with⟨_,e⟩|⟨_,_,_,e⟩|⟨_,_,_,r,e,h1,_,h2⟩
   ·exact⟨_,e⟩
   ·exact⟨_,e⟩
   exact⟨_,e⟩
  obtain⟨s,es⟩:=key
  rw[es,Qd]
  refine T0 (T4 (by omega) (by omega)) λ_ _=>?_
  refine T1 (λD=>T2 (Qp ⟨λx e=>(by cases e;exact⟨by simpa using D,λhcan=>by
   obtain⟨z,hz⟩:=hcan i _ _ (Nk i1) (Nk i2)
   rw[es]at hz
   cases hz
   simp at D⟩),λm' e=>(by cases e)⟩)) λD=>?_
  simp only[KI]at D
  refine T2 (QG ⟨by omega,Qr (by omega) (by unfold maxLen;omega:n.Places.length<=maxLen),by simpa using hJ1,λj u v hj hu hv=>?_⟩)
  have hj:(j:Int)<Qj ((i:Int)+1):=hj
  rw[Qr (show i<n.Places.length by omega) (by unfold maxLen;omega)]at hj
  show ∃z,(m.set (i:Int).toNat s.1)[j]? = some z/\_
  by_cases cj:j=i
  ·subst cj
   rw[Nk i1]at hu;rw[Nk i2]at hv
   cases hu;cases hv
   refine⟨s.1,by rw[show((j:Int)).toNat=j from XH j];exact Qc9 (by omega),?_⟩
   rw[es,<-D]
  obtain⟨z,h1,h2⟩:=hJ2 j u v (by omega) hu hv
  exact⟨z,by rw[Qc8 (by simp;omega)];exact h1,h2⟩
 rcases q with q | q
 ·have:=hq.1 q rfl
  exact T2 ⟨λh=>absurd h this.1,λh=>absurd h this.2⟩
 exact T2 ⟨λ_=>hq.2 q rfl,λ_=>rfl⟩
def Qkr (n:Qn)(a b:L_ Bag)(c d:Nat)(h:Xd n)(ha:JP n c a)(hb:JP n d b)(hcd:c+d<=1000000):Qg (JV a b) λr=>(r.2=0->r.1.length=n.Places.length/\Ql7 Je a b r.1)/\(Can Je a b->r.2=0):=by
 have hpl:=h.pl
 have ha1:=ha.1
 have hb1:=hb.1
 have hmin:min2 (a.length:Int) (b.length:Int)=(n.Places.length:Int):=by unfold min2;split<;>omega
 unfold JV
 rw[hmin]
 refine T0 (T5 (by simp only[QH,QC];omega)) λ_ _=>?_
 refine T0 (Qg.up n.Places.length (λst=>st.1) (λst=>st.2.length=n.Places.length/\∀(j:Nat) x y,(j:Int)<st.1->a[j]? = some x->b[j]? = some y->∃z,st.2[j]? = some z/\Je x y=some (z,0)) (Q:=λq:Int⊕L_ Bag=>(∀x,q=.inl x->x≠0/\¬Can Je a b)/\∀m,q=.inr m->m.length=n.Places.length/\Ql7 Je a b m) rfl ⟨by simp,λj x y hj=>by omega⟩ (λi st hi hn hJ=>?_)) (λq hq=>?_)
 ·obtain⟨x,m⟩:=st
  replace hi:x=(i:Int):=hi
  obtain⟨hJ1,hJ2⟩:m.length=n.Places.length/\∀(j:Nat) u v,(j:Int)<x->a[j]? = some u->b[j]? = some v->∃z,m[j]? = some z/\Je u v=some (z,0):=hJ
  show Qg (YR a b x m) _
  unfold YR
  rw[hmin]
  refine T1 (λhc=>?_) (λhc=>T2 (Qp ⟨λx e=>(by cases e),λm' e=>(by cases e;exact⟨hJ1,λj u v hu hv=>hJ2 j u v (by
   simp only[QV,RQ]at hc
   have:=(Xe.1 hu).1
   omega) hu hv⟩)⟩))
  simp only[QC,RQ]at hc
  have i1:i<a.length:=by omega
  have i2:i<b.length:=by omega
  rw[hi,QR,Nk i1,Qd,QR,Nk i2,Qd]
  have hu2:=ha.2 _ (Xs i1)
  have hv2:=hb.2 _ (Xs i2)
  have key:∃s,Je a[i] b[i]=some s:=by
   rcases UG a[i] b[i] (by omega)with⟨_,e⟩|⟨_,_,_,e⟩|⟨_,_,r,e,h1,_,h2⟩
   ·exact⟨_,e⟩
   ·exact⟨_,e⟩
   exact⟨_,e⟩
  obtain⟨s,es⟩:=key
  rw[es,Qd]
  refine T0 (T4 (by omega) (by omega)) λ_ _=>?_
  refine T1 (λD=>T2 (Qp ⟨λx e=>(by cases e;exact⟨by simpa using D,λhcan=>by
   obtain⟨z,hz⟩:=hcan i _ _ (Nk i1) (Nk i2)
   rw[es]at hz
   cases hz
   simp at D⟩),λm' e=>(by cases e)⟩)) λD=>?_
  simp only[KI]at D
  refine T2 (QG ⟨by omega,Qr (by omega) (by unfold maxLen;omega:n.Places.length<=maxLen),by simpa using hJ1,λj u v hj hu hv=>?_⟩)
  have hj:(j:Int)<Qj ((i:Int)+1):=hj
  rw[Qr (show i<n.Places.length by omega) (by unfold maxLen;omega)]at hj
  show ∃z,(m.set (i:Int).toNat s.1)[j]? = some z/\_
  by_cases cj:j=i
  ·subst cj
   rw[Nk i1]at hu;rw[Nk i2]at hv
   cases hu;cases hv
   refine⟨s.1,by rw[show((j:Int)).toNat=j from XH j];exact Qc9 (by omega),?_⟩
   rw[es,<-D]
  obtain⟨z,h1,h2⟩:=hJ2 j u v (by omega) hu hv
  exact⟨z,by rw[Qc8 (by simp;omega)];exact h1,h2⟩
 rcases q with q | q
 ·have:=hq.1 q rfl
  exact T2 ⟨λh=>absurd h this.1,λh=>absurd h this.2⟩
 exact T2 ⟨λ_=>hq.2 q rfl,λ_=>rfl⟩
def Ql8 {n:Qn}{m t:L_ Bag}{o:Qh}(h:GF n m o=some (t,0)):Ye n m o=some 0/\∃j,WA n o=some (j,0)/\WI m j=some (t,0):=by
 unfold GF at h
 obtain⟨x,D,h⟩:=Qw h
 rcases Xr h with⟨c,h⟩|⟨c,h⟩
 ·simp only[Option.some.injEq,Prod.mk.injEq]at h
  rw[h.2]at c;cases c
 simp only[KI]at c
 subst c
 obtain⟨y,hy,h⟩:=Qw h
 obtain⟨y1,y2⟩:=y
 rcases Xr h with⟨c,h⟩|⟨c,h⟩
 ·simp only[Option.some.injEq,Prod.mk.injEq]at h
  simp only[h.2]at c;cases c
 simp only[KI]at c
 subst c
 obtain⟨z,hz,h⟩:=Qw h
 obtain⟨z1,z2⟩:=z
 simp only[Option.some.injEq,Prod.mk.injEq]at h
 obtain⟨rfl,rfl⟩:=h
 exact⟨D,y1,hy,hz⟩
def Qoh {n:Qn}{m x:L_ Bag}{o:Qh}(h:Wp n m o=some (x,0)):∃t,GF n m o=some (t,0)/\Dp n t o=some (x,0):=by
 unfold Wp at h
 obtain⟨y,j,h⟩:=Qw h
 obtain⟨y1,y2⟩:=y
 rcases Xr h with⟨c,h⟩|⟨c,h⟩
 ·simp only[Option.some.injEq,Prod.mk.injEq]at h
  simp only[h.2]at c;cases c
 simp only[KI]at c
 subst c
 obtain⟨z,D,h⟩:=Qw h
 obtain⟨z1,z2⟩:=z
 simp only[Option.some.injEq,Prod.mk.injEq]at h
 obtain⟨rfl,rfl⟩:=h
 exact⟨y1,j,D⟩
def Rl : Bag->Int
 | []=>0
 | p::l=>p.2+Rl l
def Qm9 {l m:Bag}(h:l.Perm m):Rl l=Rl m:=by
 induction h with
 | nil=>rfl
 | cons p _ ih=>simp only[Rl,ih]
 | swap p q l=>simp only[Rl];omega
 | trans _ _ j D=>rw[j,D]
def Qks (b:Bag)(hr:Rt b)(h:b.length<=maxLen):Pv b=some (Qj (Rl b)):=by
 unfold Pv
 rw[Zc b h,YF.2 hr]
 show IN b=_
 unfold IN
 have j:∀(l:Bag) (s:Int),WL (λst (p:Int×Int)=>Gm st p.1 p.2) (Qj s) l=some (.inl (Qj (s+Rl l))):=by
  intro l
  induction l with
  | nil=>intro s;simp[WL,Rl]
  | cons p l ih=>
   intro s
   simp only[WL]
   rw[show Gm (Qj s) p.1 p.2=some (.inl (Qj (s+p.2)))from by unfold Gm;rw[Qis]]
   simp only[Qd,Sum.elim_inl]
   rw[ih,Rl,Int.add_assoc]
 have D:CX (λst (p:Int×Int)=>Gm st p.1 p.2) (0:Int) b=some (.inl (Qj (Rl b))):=by
  have e0:(0:Int)=Qj 0:=by decide
  rw[e0]
  refine Il.2 ⟨λl' hp=>?_,by rw[j];simp⟩
  rw[j,j,Qm9 hp]
 rw[D];rfl
def tS (m:L_ Bag):Nat->Int
 | 0=>0
 | i+1=>tS m i+Rl (m.getD i [])
def Qju {n:Qn}{c:Nat}{m:L_ Bag}(h:Xd n)(hm:JP n c m)(hc:c<=1000000):Om m=some (Qj (tS m m.length)):=by
 have hpl:=h.pl
 have hm1:=hm.1
 unfold Om
 obtain⟨r,h1,h2⟩:=(Qg.up (body:=λst=>Hl m st.1 st.2) m.length (λst=>st.2) (λst=>st.1=Qj (tS m st.2.toNat)) (Q:=λq=>q=Qj (tS m m.length)) (s0:=((0:Int),(0:Int))) rfl (by show(0:Int)=Qj 0;decide) (λi st hi hn D=>by
  obtain⟨a,x⟩:=st
  replace hi:x=(i:Int):=hi
  replace D:a=Qj (tS m x.toNat):=D
  subst hi
  show Qg (Hl m a i) _
  unfold Hl
  refine T1 (λhc=>?_) (λhc=>T2 (Qp ?_))
  ·simp only[QC]at hc
   have j:i<m.length:=by omega
   have hb:=hm.2 _ (Xs j)
   rw[QR,Nk j,Qd,Qks _ hb.1 (by have:=hb.2;unfold maxLen;omega),Qd]
   have hw:Qj ((i:Int)+1)=((i+1:Nat):Int):=Qr j (by unfold maxLen;omega)
   refine T2 (QG ⟨j,hw,?_⟩)
   show Qj (a+Qj (Rl m[i]))=Qj (tS m (Qj ((i:Int)+1)).toNat)
   rw[hw,D,Qis,Int.add_comm,Qis,XH,XH,tS,List.getD_eq_getElem?_getD,Nk j,Int.add_comm];rfl
  simp only[QV]at hc
  rw[D,show(i:Int).toNat=m.length by omega]))
 rw[h1,h2];rfl
def Qoi (n:Qn)(m:L_ Bag)(o:Qh)(c:Nat)(h:Xd n)(hm:JP n c m)(hl:Hv n m)(hc:c<=900000)(ho:YQ n o):Qg (Dp n m o) λr=>r.2=0->Hv n r.1:=by
 have hpl:=h.pl
 have hm1:=hm.1
 unfold Dp
 refine T0 (QiA n o h ho) λy hy=>?_
 refine T1 (λhc=>T2 λh=>absurd h (by simpa using hc)) λhc2=>?_
 obtain⟨⟨hy,hyl⟩,h1,h2⟩:=hy (by simpa using hc2)
 rw[OE m (by omega) (λb D=>by have:=(hm.2 b D).2;omega),Qd]
 refine T0 (T4 h1 h2) λe he=>?_
 have hcl:=(h.tk e he).2.2.2
 refine T0 (Qg.up e.Cancel.length (λst=>st.1) (λst=>JP n c st.2/\Hv n st.2) (Q:=λq=>JP n c q/\Hv n q) rfl ⟨hm,hl⟩ (λi st hi hn hJ=>?_)) (λq hq=>?_)
 ·obtain⟨x,l⟩:=st
  replace hi:x=(i:Int):=hi
  replace hJ:JP n c l/\Hv n l:=hJ
  show Qg (YL e x l) _
  unfold YL
  refine T1 (λhc=>?_) (λ_=>T2 (Qp hJ))
  simp only[QC]at hc
  refine T0 (T4 (by omega) (by omega)) λk _=>?_
  have next:∀l,JP n c l/\Hv n l->Qg (Da x l) λo=>(∀s',o=.inl s'->i<e.Cancel.length/\s'.1=((i+1:Nat):Int)/\JP n c s'.2/\Hv n s'.2)/\∀r:L_ QBg,o=.inr r->JP n c r/\Hv n r:=λl hl=>by
   unfold Da
   exact T2 (QG (ix:=λst:Int×L_ QBg=>st.1) (J:=λst:Int×L_ QBg=>JP n c st.2/\Hv n st.2) ⟨by omega,by subst hi;exact Qr (by omega) (by unfold maxLen;omega:e.Cancel.length<=maxLen),hl⟩)
  refine T1 (λhc3=>?_) λ_=>next l hJ
  simp only[QH,QC]at hc3
  refine T0 (T4 hc3.1 hc3.2) λ_ _=>?_
  refine next _ ⟨⟨by simpa using hJ.1.1,λb D=>?_⟩,λj b p D hp k' hk=>?_⟩
  ·rcases Pf D with rfl | D
   ·exact⟨Rt.nil,by simp⟩
   exact hJ.1.2 b D
  by_cases cj:k.toNat=j
  ·subst cj
   rw[Qc9 (by omega)]at D
   cases D
   simp[QE,QW]at hk
  rw[Qc8 cj]at D
  exact hJ.2 j b p D hp k' hk
 show Qg (Gk y q) _
 unfold Gk
 refine T0 (Qkr n q y.1 c 20 h hq.1 hy (by omega)) λz hz=>T2 λhz0=>?_
 obtain⟨zl,ze⟩:=hz.1 hz0
 intro j b p D hp k hk
 have hj:j<n.Places.length:=(Xe.1 hp).1
 obtain⟨u,hu,hu1,hu2⟩:=QjE hq.1 hj
 obtain⟨v,hv,hv1,hv2⟩:=QjE hy hj
 obtain⟨s,hs1,hs2⟩:=ze j u v hu hv
 have hs1:z.1[j]? = some s:=hs1
 have D:z.1[j]? = some b:=D
 rw[D]at hs1;cases hs1
 have q:=(QpA (by omega) hs2).2.2.2 k
 by_cases c0:0<QE u k
 ·exact hq.2 j u p hu hp k c0
 exact hyl j v p hv hp k (by omega)
def XE (n:Qn)(t:QL):L_ Int:=t.Vars.map λv=>(Yl n.Colours v.Colour).getD 0
def Ca (b:QX)(r:L_ Int):Bool:=decide (XN b r=some 0)
def WC (n:Qn)(m:L_ QBg)(h:Int)(j outs:L_ (L_ Int))(p:L_ Int):L_ Qh:=match YE n m h p with
 | some (c,b)=>if c=0/\Xu b=some 0 then j.flatMap λe=>if Xo b e=some 0 then(outs.filter (Ca b)).map λo=>Qh.mk h p e o else []else []
 | none=>[]
def ne0 (g:Int):(g != 0)=!decide (some g=some (0:Int)):=by by_cases h:g=0<;>simp[h]
def QiW (t:QL)(n:Qn)(l:L_ Int)(h:Xl n)(hl:l.length=t.Vars.length)(hv:t.Vars.length<=16)(hd:∀d∈l,0<=d/\d<=1024):
  Qg (Qs (λst=>Jf t n st.1 st.2) ((Qj ((l.length:Int)-1)),l)) λq=>(-1<=q.1/\q.1<l.length/\q.2=l.take (q.1+1).toNat++List.replicate (l.length-(q.1+1).toNat) 0)/\(∀(j:Nat) x s,q.1<(j:Int)->l[j]? = some x->(XE n t)[j]? = some s->¬x+1<s)/\∀x s,0<=q.1->l[q.1.toNat]? = some x->(XE n t)[q.1.toNat]? = some s->x+1<s/\x<1024:=by
 have hw:Qj ((l.length:Int)-1)=(l.length:Int)-1:=Xv (by omega)
 refine Qg.up l.length (λst=>(l.length:Int)-1-st.1) (λst=>st.2=l.take (st.1+1).toNat++List.replicate (l.length-(st.1+1).toNat) 0/\∀(j:Nat) x s,st.1<(j:Int)->l[j]? = some x->(XE n t)[j]? = some s->¬x+1<s) (by rw[hw];omega) ⟨by
  rw[hw]
  show l=_
  rw[show((l.length:Int)-1+1).toNat=l.length by omega,FQ,Nat.sub_self];simp,λj x s hj hx=>by
  replace hj:Qj ((l.length:Int)-1)<(j:Int):=hj
  have:=(Xe.1 hx).1
  omega⟩ (λi st hi hn hJ=>?_)
 obtain⟨a,d⟩:=st
 replace hi:(l.length:Int)-1-a=i:=hi
 obtain⟨hJ,hJ2⟩:d=l.take (a+1).toNat++List.replicate (l.length-(a+1).toNat) 0/\∀(j:Nat) x s,a<(j:Int)->l[j]? = some x->(XE n t)[j]? = some s->¬x+1<s:=hJ
 have hdl:d.length=l.length:=by rw[hJ];simp;omega
 show Qg (Jf t n a d) _
 unfold Jf
 refine T0 (P:=λx=>(x=true->0<=a/\∀e s,l[a.toNat]? = some e->(XE n t)[a.toNat]? = some s->¬e+1<s)/\(x=false->∀e s,0<=a->l[a.toNat]? = some e->(XE n t)[a.toNat]? = some s->e+1<s/\e<1024)) ?_ λx hx=>?_
 ·unfold Ct
  refine T1 (λD=>?_) λD=>T2 ⟨λh=>(by cases h),λ_ e s he=>?_⟩
  ·simp only[QC]at D
   have hlt:a.toNat<l.length:=by omega
   have hlv:a.toNat<t.Vars.length:=by omega
   have ed:idx d a=some l[a.toNat]:=by
    rw[Wu D,hJ,YY (by simp;omega),JQ,if_pos (by omega),Qy hlt]
   have ev:idx t.Vars a=some t.Vars[a.toNat]:=by rw[Wu D,Qy hlv]
   rw[ed,Qd,ev,Qd]
   refine T0 (Wq _ _ h.1).self λz hz=>?_
   obtain⟨hze,hz⟩:=hz
   have hsz:(XE n t)[a.toNat]? = some z:=by
    unfold XE
    rw[Ya,Qy hlv,WU,hze];rfl
   have h2:=hd _ (Xs hlt)
   rw[Xv (by omega)]
   refine T2 ⟨λht=>⟨D,λe s he hs=>?_⟩,λhf e s _ he hs=>?_⟩
   ·rw[Qy hlt]at he
    cases he
    rw[hsz]at hs;cases hs
    simp only[QC]at ht
    omega
   rw[Qy hlt]at he
   cases he
   rw[hsz]at hs;cases hs
   simp only[QV]at hf
   omega
  simp only[QV]at D;omega
 unfold EQ
 refine T1 (λD=>?_) λD=>?_
 ·obtain⟨ha,ha2⟩:=hx.1 D
  refine T0 (T4 ha (by omega)) λ_ _=>?_
  have hw2:Qj (a-1)=a-1:=Xv (by omega)
  refine T2 (QG ⟨by omega,?_,?_,λj x s hj hx hs=>?_⟩)
  ·show(l.length:Int)-1-Qj (a-1)=_
   rw[hw2];omega
  ·show d.set a.toNat 0=l.take (Qj (a-1)+1).toNat++List.replicate (l.length-(Qj (a-1)+1).toNat) 0
   rw[hw2,hJ,show(a+1).toNat=a.toNat+1 by omega,Qf1 (by omega),show(a-1+1).toNat=a.toNat by omega]
   rw[show l.length-a.toNat=(l.length-(a.toNat+1))+1 by omega,List.replicate_succ]
  replace hj:Qj (a-1)<(j:Int):=hj
  rw[hw2]at hj
  by_cases c:a<(j:Int)
  ·exact hJ2 j x s c hx hs
  have:a.toNat=j:=by omega
  subst this
  exact ha2 x s hx hs
 exact T2 (Qp ⟨⟨by omega,by omega,hJ⟩,hJ2,hx.2 D⟩)
def Qk4 (n:Qn)(m:L_ QBg)(b:QX)(l:L_ (L_ Int))(h:Xd n)(hb:BOk n m b)(hl:Ia l):Qg (KF l b) λr=>(r=-1/\∀row∈l,Ca b row=true)\/∃i:Nat,r=(i:Int)/\i<l.length/\(∀row∈l.take i,Ca b row=true)/\∀row,l[i]? = some row->Ca b row=false:=by
 have hl1:=hl.1
 unfold KF
 refine T0 (Qg.up l.length (λst=>st) (λst=>∀row∈l.take st.toNat,Ca b row=true) (Q:=λq:Int⊕Unit=>(∀x,q=.inl x->∃i:Nat,x=(i:Int)/\i<l.length/\(∀row∈l.take i,Ca b row=true)/\∀row,l[i]? = some row->Ca b row=false)/\(q=.inr ()->∀row∈l,Ca b row=true)) rfl (λrow h=>by cases h) (λi st hi hn hJ=>?_)) (λq hq=>?_)
 ·replace hi:st=(i:Int):=hi
  subst hi
  replace hJ:∀row∈l.take (i:Int).toNat,Ca b row=true:=hJ
  rw[XH]at hJ
  show Qg (WN l b i) _
  unfold WN BM
  refine T1 (λhc=>?_) (λhc=>T2 (Qp ⟨λx h=>(by cases h),λ_=>?_⟩))
  ·simp only[QC]at hc
   have j:i<l.length:=by omega
   rw[QR,Qy j,Qd]
   have:=hl.2 _ (Xs j)
   refine T0 (P:=λc:Bool=>c=!Ca b l[i]) ?_ λc hcc=>?_
   ·refine T0 (Qiy n m b l[i] h hb (by omega)).self λg hg=>T2 ?_
    unfold Ca
    rw[hg.1];exact ne0 g
   subst hcc
   refine T1 (λhc2=>T2 (Qp ⟨λx e=>(by cases e;exact⟨i,rfl,j,hJ,λrow D=>by rw[Qy j]at D;cases D;simpa using hc2⟩),λe=>by cases e⟩)) λhc2=>?_
   have hw:Qj ((i:Int)+1)=((i+1:Nat):Int):=Qr j (by unfold maxLen;omega:l.length<=maxLen)
   refine T2 (QG ⟨j,hw,?_⟩)
   show ∀row∈l.take (Qj ((i:Int)+1)).toNat,Ca b row=true
   rw[hw,XH,GZ,Qy j]
   intro row D
   rcases YM.1 D with D | D
   ·exact hJ row D
   simp at D;subst D;simpa using hc2
  simp only[QV]at hc
  rwa[KE (by omega)]at hJ
 rcases q with q | q
 ·exact T2 (.inr (hq.1 q rfl))
 exact T2 (.inl ⟨rfl,hq.2 rfl⟩)
def Qk5 (n:Qn)(m:L_ QBg)(b:QX)(l:L_ (L_ Int))(h:Xd n)(hb:BOk n m b)(hl:Ia l):Qg (Kt l b) λr=>r=l.filter (Ca b):=by
 have hl1:=hl.1
 unfold Kt
 refine T0 (Qk4 n m b l h hb hl) λx hx=>?_
 rcases hx with⟨rfl,hx⟩|⟨D,rfl,hi0,hx1,hx2⟩
 ·exact T1 (λ_=>T2 (List.filter_eq_self.2 hx).symm) λhc=>by simp at hc
 refine T1 (λhc=>by simp at hc) λ_=>?_
 have hw:Qj ((D:Int)+1)=(D:Int)+1:=Xv (by omega)
 have hbad:=hx2 _ (Qy hi0)
 refine T0 (Qg.up (l.length-(D+1)) (λst=>st.2.1-((D:Int)+1)) (λst=>0<=st.1/\st.1<st.2.1/\st.2.2.length=l.length/\st.2.2.take st.1.toNat=(l.take st.2.1.toNat).filter (Ca b)/\st.2.2.drop st.2.1.toNat=l.drop st.2.1.toNat) (Q:=λq:Int×L_ (L_ Int)=>0<=q.1/\q.1<=(l.length:Int)/\q.2.length=l.length/\q.2.take q.1.toNat=l.filter (Ca b)) (by show Qj ((D:Int)+1)-((D:Int)+1)=0;omega) ⟨by show(0:Int)<=D;omega,by show(D:Int)<Qj ((D:Int)+1);omega,rfl,?_,rfl⟩ (λi st hi hn hJ=>?_)) (λq hq=>?_)
 ·show l.take (D:Int).toNat=(l.take (Qj ((D:Int)+1)).toNat).filter (Ca b)
  rw[hw,XH,show((D:Int)+1).toNat=D+1 by omega,GZ,Qy hi0,List.filter_append,List.filter_eq_self.2 hx1]
  show l.take D=l.take D++List.filter (Ca b) [l[D]]
  rw[Mb,hbad]
  exact(Qal _).symm
 ·obtain⟨a,j,l2⟩:=st
  replace hi:j-((D:Int)+1)=i:=hi
  obtain⟨j1,j2,j3,j4,j5⟩:0<=a/\a<j/\l2.length=l.length/\l2.take a.toNat=(l.take j.toNat).filter (Ca b)/\l2.drop j.toNat=l.drop j.toNat:=hJ
  show Qg (JG b a j l2) _
  unfold JG BM
  refine T1 (λhc=>?_) (λhc=>T2 (Qp ⟨j1,?_,j3,?_⟩))
  ·simp only[QC]at hc
   have hj:j.toNat<l2.length:=by omega
   have hj':j.toNat<l.length:=by omega
   have ej:l2[j.toNat]=l[j.toNat]:=by
    have:=congrArg List.head? j5
    rw[Nt hj,Nt hj']at this
    exact Option.some.inj this
   have ej5:l2.drop (j.toNat+1)=l.drop (j.toNat+1):=by
    have:=congrArg List.tail j5
    simpa using this
   rw[LY (by omega) (by omega),Qd]
   have:=hl.2 _ (Xs hj')
   have hw2:Qj (j+1)=j+1:=Xv (by omega)
   have hw3:Qj (a+1)=a+1:=Xv (by omega)
   have tk:l.take (j+1).toNat=l.take j.toNat++[l[j.toNat]]:=by
    rw[show(j+1).toNat=j.toNat+1 by omega,GZ,Qy hj'];rfl
   refine T0 (P:=λc:Bool=>c=!Ca b l[j.toNat]) ?_ λc hcc=>?_
   ·rw[ej]
    refine T0 (Qiy n m b l[j.toNat] h hb (by omega)).self λg hg=>T2 ?_
    unfold Ca
    rw[hg.1];exact ne0 g
   subst hcc
   refine T1 (λhc2=>?_) λhc2=>?_
   ·have hc2:Ca b l[j.toNat]=true:=by simpa using hc2
    refine T0 (T4 (by omega) (by omega)) λ_ _=>?_
    refine T2 (QG ⟨by omega,by show Qj (j+1)-((D:Int)+1)=_;omega,by show 0<=Qj (a+1);omega,by show Qj (a+1)<Qj (j+1);omega,by simpa using j3,?_,?_⟩)
    ·show(l2.set a.toNat l2[j.toNat]).take (Qj (a+1)).toNat=(l.take (Qj (j+1)).toNat).filter (Ca b)
     rw[hw2,hw3,tk,List.filter_append,<-j4,show(a+1).toNat=a.toNat+1 by omega,GZ,Qc9 (by omega),List.take_set_of_le (JE _),ej]
     simp[hc2]
    show(l2.set a.toNat l2[j.toNat]).drop (Qj (j+1)).toNat=l.drop (Qj (j+1)).toNat
    rw[hw2,show(j+1).toNat=j.toNat+1 by omega,List.drop_set_of_lt (by omega),ej5]
   have hc2:Ca b l[j.toNat]=false:=by simpa using hc2
   refine T2 (QG ⟨by omega,by show Qj (j+1)-((D:Int)+1)=_;omega,j1,by show a<Qj (j+1);omega,j3,?_,?_⟩)
   ·show l2.take a.toNat=(l.take (Qj (j+1)).toNat).filter (Ca b)
    rw[hw2,tk,List.filter_append,<-j4]
    simp[hc2]
   show l2.drop (Qj (j+1)).toNat=l.drop (Qj (j+1)).toNat
   rw[hw2,show(j+1).toNat=j.toNat+1 by omega,ej5]
  ·simp only[QV]at hc
   show a<=_
   omega
  simp only[QV]at hc
  show l2.take a.toNat=_
  rw[j4,KE (by omega)]
 obtain⟨q1,q2⟩:=q
 obtain⟨h1,h2,h3,h4⟩:0<=q1/\q1<=l.length/\q2.length=l.length/\q2.take q1.toNat=l.filter (Ca b):=hq
 show Qg (JH q1 q2) _
 unfold JH
 refine T0 (T5 (by simp only[QH,QC];omega)) λ_ _=>?_
 refine T0 (T5 (by simp only[QH,QC,Ju,Wm,RQ];omega)) λ_ _=>?_
 refine T2 ?_
 rw[Qdc (by simp;omega),List.take_take,Nat.min_self,h4]
def Ql9 (n:Qn)(m:L_ QBg)(task most:Int)(l5 l8:L_ Qh)(D outs:L_ (L_ Int))(p:L_ Int)(h:Xd n)(hm:QO (QO λ_=>True) m)(hmost:most<=4294967296\/l8.length+(WC n m task D outs p).length<=4294967296)
  (hi:Ia D) (ho:Ia outs) (hp:p.length<=16) (ha:(l8.length:Int)<most):
  Qg (Ee n m task most l5 D outs l8 p) λr=>r=YI most.toNat l8 (WC n m task D outs p):=by
 have hil:=hi.1
 have hol:=ho.1
 unfold Ee
 refine T0 (Qlg n m task p h).self λx hx=>?_
 obtain⟨c,b⟩:=x
 obtain⟨hxe,hx⟩:=hx
 refine T0 (P:=λy=>(y=true->WC n m task D outs p=[])/\(y=false->BOk n m b/\c=0/\Xu b=some 0)) ?_ λy hy=>?_
 ·unfold HJ
  refine T1 (λhc=>T2 ⟨λ_=>?_,λh=>by cases h⟩) λhc=>?_
  ·unfold WC
   rw[hxe]
   simp only
   rw[if_neg λe=>by simp[e.1]at hc]
  have hc:c=0:=by simpa using hc
  have hb:=hx hc
  refine T0 (QiU n m b h hb).self λg hg=>T2 ⟨λhg2=>?_,λhg2=>⟨hb,hc,?_⟩⟩
  ·unfold WC
   rw[hxe]
   simp only
   rw[if_neg λe=>by rw[hg.1]at e;simp at e;simp[e.2]at hg2]
  rw[hg.1];simpa using hg2
 unfold DA
 refine T1 (λhc=>T2 ?_) λhc=>?_
 ·rw[hy.1 hc,Np (by omega)]
 obtain⟨hb,hc0,hgd⟩:=hy.2 hc
 refine T0 (P:=λz=>z=outs) (by unfold Dg;exact T0 (T5 (by simp;omega)) λ_ _=>T2 rfl) λx19 h19=>?_
 rw[h19]
 refine T0 (Qk5 n m b outs h hb ho) λx20 h20=>?_
 have h20l:x20.length<=16:=by rw[h20];exact Jn (Qda _ _) ho.1
 have h20e:∀r∈x20,r.length<=16:=λr hr=>by rw[h20]at hr;exact ho.2 r (Mc.1 hr).1
 have hR:WC n m task D outs p=D.flatMap λe=>if Xo b e=some 0 then x20.map (λo=>Qh.mk task p e o)else []:=by
  unfold WC
  rw[hxe]
  simp only
  rw[if_pos ⟨hc0,hgd⟩,h20]
 rw[hR]at hmost ⊢
 generalize hg:(λe=>if Xo b e=some 0 then x20.map (λo=>Qh.mk task p e o)else [])=g at hmost ⊢
 refine T0 (Qg.up D.length (λst=>st.1) (λst=>(st.2.length:Int)<most/\YI most.toNat st.2 ((D.drop st.1.toNat).flatMap g)=YI most.toNat l8 (D.flatMap g)/\st.2.length+((D.drop st.1.toNat).flatMap g).length=l8.length+(D.flatMap g).length) (Q:=λq=>q=YI most.toNat l8 (D.flatMap g)) rfl ⟨ha,rfl,rfl⟩ (λi st hi2 hn hJ=>?_)) (λq hq=>?_)
 ·obtain⟨j,l⟩:=st
  replace hi2:j=(i:Int):=hi2
  subst hi2
  obtain⟨hJ1,hJ2,hJ3⟩:(l.length:Int)<most/\YI most.toNat l ((D.drop (i:Int).toNat).flatMap g)=YI most.toNat l8 (D.flatMap g)/\l.length+((D.drop (i:Int).toNat).flatMap g).length=l8.length+(D.flatMap g).length:=hJ
  rw[XH]at hJ2 hJ3
  show Qg (Dz D (c,b) x20 p task most i l) _
  unfold Dz
  refine T1 (λhc=>?_) (λhc=>T2 (Qp ?_))
  ·simp only[QC]at hc
   have hlt:i<D.length:=by omega
   have hel:=hi.2 _ (Xs hlt)
   rw[QR,Qy hlt,Qd]
   rw[Nt hlt,GY,Qdm]at hJ2
   rw[Nt hlt,GY,Ju]at hJ3
   have next:∀l',(l'.length:Int)<most->YI most.toNat l' ((D.drop (i+1)).flatMap g)=YI most.toNat l8 (D.flatMap g)->l'.length+((D.drop (i+1)).flatMap g).length=l8.length+(D.flatMap g).length->Qg (KK i l') λo=>(∀s',o=.inl s'->i<D.length/\s'.1=((i+1:Nat):Int)/\(s'.2.length:Int)<most/\YI most.toNat s'.2 ((D.drop s'.1.toNat).flatMap g)=YI most.toNat l8 (D.flatMap g)/\s'.2.length+((D.drop s'.1.toNat).flatMap g).length=l8.length+(D.flatMap g).length)/\∀r:L_ Qh⊕L_ Qh,o=.inr r->r=YI most.toNat l8 (D.flatMap g):=λl' hl1 hl2 hl3=>by
    have hw:Qj ((i:Int)+1)=((i+1:Nat):Int):=Qr hlt (by unfold maxLen;omega:D.length<=maxLen)
    unfold KK
    exact T2 (QG (ix:=λst:Int×L_ Qh=>st.1) (J:=λst:Int×L_ Qh=>(st.2.length:Int)<most/\YI most.toNat st.2 ((D.drop st.1.toNat).flatMap g)=YI most.toNat l8 (D.flatMap g)/\st.2.length+((D.drop st.1.toNat).flatMap g).length=l8.length+(D.flatMap g).length) ⟨hlt,hw,hl1,by
     show YI most.toNat l' ((D.drop (Qj ((i:Int)+1)).toNat).flatMap g)=_/\l'.length+((D.drop (Qj ((i:Int)+1)).toNat).flatMap g).length=_
     rw[hw,XH];exact⟨hl2,hl3⟩⟩)
   refine T0 (Qlh n m b D[i] h hb hm (by omega)).self λz hz=>?_
   refine T1 (λhc2=>?_) λhc2=>?_
   ·have:g D[i]=[]:=by
     rw[<-hg];simp only
     rw[if_neg λe=>by rw[hz.1]at e;simp at e;simp[e]at hc2]
    rw[this,Np (by omega)]at hJ2
    rw[this]at hJ3
    exact next l hJ1 hJ2 (by simpa using hJ3)
   have hge:g D[i]=x20.map (λo=>Qh.mk task p D[i] o):=by
    rw[<-hg];simp only
    rw[if_pos (by rw[hz.1];simpa using hc2)]
   rw[hge]at hJ2 hJ3
   rw[Ii]at hJ3
   refine T0 (Qg.up x20.length (λst=>st.1) (λst=>(st.2.length:Int)<most/\YI most.toNat st.2 ((x20.drop st.1.toNat).map λo=>Qh.mk task p D[i] o)=YI most.toNat l (x20.map λo=>Qh.mk task p D[i] o)/\(st.2.length:Int)=l.length+st.1) (Q:=λq=>q=YI most.toNat l (x20.map λo=>Qh.mk task p D[i] o)) rfl ⟨hJ1,rfl,by simp⟩ (λi2 st hi3 hn2 hK=>?_)) (λq hq=>?_)
   ·obtain⟨j2,l2⟩:=st
    replace hi3:j2=(i2:Int):=hi3
    subst hi3
    obtain⟨hK1,hK2,hK3⟩:(l2.length:Int)<most/\YI most.toNat l2 ((x20.drop (i2:Int).toNat).map λo=>Qh.mk task p D[i] o)=YI most.toNat l (x20.map λo=>Qh.mk task p D[i] o)/\(l2.length:Int)=l.length+(i2:Int):=hK
    rw[XH]at hK2
    show Qg (Dy x20 p D[i] task most i2 l2) _
    unfold Dy
    refine T1 (λhc=>?_) (λhc=>T2 (Qp ?_))
    ·simp only[QC]at hc
     have hlt2:i2<x20.length:=by omega
     have hel2:=h20e _ (Xs hlt2)
     rw[QR,Qy hlt2,Qd]
     rw[Nt hlt2,EJ,Qob]at hK2
     rw[Nq p (by omega),Qd,Nq D[i] (by omega),Qd,Nq x20[i2] (by omega),Qd]
     refine T0 (T5 (by simp;omega)) λ_ _=>?_
     refine T1 (λhc2=>T2 (Qp ?_)) λhc2=>?_
     ·simp only[beq_iff_eq,Ju,FP]at hc2
      rw[Qoa (by simp;omega)]at hK2
      exact hK2
     simp only[beq_eq_false_iff_ne,Ju,FP]at hc2
     have hw:Qj ((i2:Int)+1)=((i2+1:Nat):Int):=Qr hlt2 (by unfold maxLen;omega:x20.length<=maxLen)
     refine T2 (QG ⟨hlt2,hw,by show((l2++[_]).length:Int)<most;simp;omega,?_,by show((l2++[_]).length:Int)=l.length+Qj ((i2:Int)+1);rw[hw];simp;omega⟩)
     show YI most.toNat (l2++[_]) ((x20.drop (Qj ((i2:Int)+1)).toNat).map _)=_
     rw[hw,XH];exact hK2
    simp only[QV]at hc
    rw[Qf8 (by omega),List.map_nil,Np (by omega)]at hK2
    exact hK2
   rw[<-hq]at hJ2
   rcases q with q | q
   ·exact T2 (Qp hJ2)
   exact next q (by have:=Qhe hq.symm;omega) hJ2 (by
    have e:=congrArg List.length (Qdn hq.symm)
    rw[Ju,Ii]at e
    omega)
  simp only[QV]at hc
  rw[Qf8 (by omega),List.flatMap_nil,Np (by omega)]at hJ2
  exact hJ2
 rcases q with q | q
 ·exact T2 hq
 exact T2 hq
def Qjv (n:Qn)(m:L_ QBg)(D most:Int)(l5:L_ Qh)(ins outs:L_ (L_ Int))(t:QL)(h:Xd n)(hm:QO (QO λ_=>True) m)(hmost:most<=4294967296\/((binds (XE n t)).flatMap (WC n m D ins outs)).length<=4294967296)(h1:1<=most)
  (hi:Ia ins) (ho:Ia outs) (ht:t∈n.Tasks):Qg (Bp n m D most l5 ins outs [] t n) λr=>∀a,r=.inl a\/r=.inr a->a=((binds (XE n t)).flatMap (WC n m D ins outs)).take most.toNat:=by
 have hv:=(h.tk t ht).1
 have hsz:(XE n t).length=t.Vars.length:=by simp[XE]
 generalize hrl:WC n m D ins outs=rl at hmost ⊢
 have fin:∀q:L_ Qh⊕L_ Qh,q.swap=YI most.toNat [] ((binds (XE n t)).flatMap rl)->∀a,q=.inl a\/q=.inr a->a=((binds (XE n t)).flatMap rl).take most.toNat:=λq hq a ha=>by
  rw[<-Qkh (by omega:0<most.toNat),<-hq]
  rcases ha with rfl | rfl<;>rfl
 unfold Bp
 refine T0 (T5 (by simp only[QH,QC];omega)) λ_ _=>?_
 refine T0 (QiV (λst=>(YU (XE n t) st.1).length) (λst=>st.1.length=t.Vars.length/\(∀d∈st.1,0<=d/\d<=1024)/\(st.2.length:Int)<most/\YI most.toNat st.2 ((st.1::YU (XE n t) st.1).flatMap rl)=YI most.toNat [] ((binds (XE n t)).flatMap rl)/\st.2.length+((st.1::YU (XE n t) st.1).flatMap rl).length=((binds (XE n t)).flatMap rl).length) (Q:=λq:L_ Qh⊕L_ Qh=>q.swap=YI most.toNat [] ((binds (XE n t)).flatMap rl))
  ⟨by simp,λd hd=>by have:=Pk hd;omega,by simp;omega,?_⟩ (λst hJ=>?_)) (λq hq=>?_)
 ·show YI most.toNat [] ((List.replicate (t.Vars.length:Int).toNat 0::YU (XE n t) (List.replicate (t.Vars.length:Int).toNat 0)).flatMap rl)=_/\0+((List.replicate (t.Vars.length:Int).toNat 0::YU (XE n t) (List.replicate (t.Vars.length:Int).toNat 0)).flatMap rl).length=_
  rw[ZB (XE n t),Fl,hsz,XH,BA]
  exact⟨rfl,rfl⟩
 ·obtain⟨d,l⟩:=st
  obtain⟨j1,j2,j3,j4,j5⟩:d.length=t.Vars.length/\(∀d'∈d,0<=d'/\d'<=1024)/\(l.length:Int)<most/\YI most.toNat l ((d::YU (XE n t) d).flatMap rl)=YI most.toNat [] ((binds (XE n t)).flatMap rl)/\l.length+((d::YU (XE n t) d).flatMap rl).length=((binds (XE n t)).flatMap rl).length:=hJ
  rw[GY,Ju]at j5
  show Qg (ET n m D most l5 ins outs t n d l) _
  unfold ET
  rw[Nq d (by omega),Qd]
  refine T0 (Ql9 n m D most l5 l ins outs d h hm (by rw[hrl];omega) hi ho (by omega) j3) λr hr=>?_
  rw[hrl]at hr
  rw[GY,Qdm,<-hr]at j4
  rcases r with r | r
  ·exact T2 ⟨λs' e=>(by cases e),λq e=>(by cases e;exact j4)⟩
  have hacc:=Qhe hr.symm
  have hlen:=congrArg List.length (Qdn hr.symm)
  rw[Ju]at hlen
  replace j4:YI most.toNat r ((YU (XE n t) d).flatMap rl)=YI most.toNat [] ((binds (XE n t)).flatMap rl):=j4
  show Qg (ES t n d r) _
  unfold ES
  refine T0 (QiW t n d h.k j1 hv j2) λq hq=>?_
  obtain⟨a,d2⟩:=q
  obtain⟨⟨q1,q2,q3⟩,q4,q5⟩:(-1<=a/\a<d.length/\d2=d.take (a+1).toNat++List.replicate (d.length-(a+1).toNat) 0)/\(∀(j:Nat) x s,a<(j:Int)->d[j]? = some x->(XE n t)[j]? = some s->¬x+1<s)/\∀x s,0<=a->d[a.toNat]? = some x->(XE n t)[a.toNat]? = some s->x+1<s/\x<1024:=hq
  have hnx:=Qhd (XE n t) d
  show Qg (ER r a d2) _
  unfold ER
  refine T1 (λhc=>T2 ⟨λs' e=>(by cases e),λq e=>(by
   cases e
   simp only[QC]at hc
   rw[QcM (XE n t) d λj x s=>q4 j x s (by omega)]at hnx
   simp only at hnx
   rw[hnx,List.flatMap_nil,Np hacc]at j4
   exact j4)⟩) λhc=>?_
  simp only[QV]at hc
  have hlt:a.toNat<d.length:=by omega
  have hls:a.toNat<(XE n t).length:=by omega
  have ed:idx d2 a=some d[a.toNat]:=by
   rw[Wu (by omega),q3,YY (by simp;omega),JQ,if_pos (by omega),Qy hlt]
  rw[ed,Qd,Qd]
  have h9:=q5 _ _ (by omega) (Qy hlt) (Qy hls)
  have h10:=j2 _ (Xs hlt)
  rw[Xv (by omega)]
  have e3:d2.set a.toNat (d[a.toNat]+1)=d.take a.toNat++(d[a.toNat]+1)::List.replicate (d.length-(a.toNat+1)) 0:=by
   rw[q3,show(a+1).toNat=a.toNat+1 by omega,Qf1 hlt]
  rw[e3]
  have hd3:∀x∈d.take a.toNat++(d[a.toNat]+1)::List.replicate (d.length-(a.toNat+1)) 0,0<=x/\x<=1024:=λx hx=>by
   rcases YM.1 hx with hx | hx
   ·exact j2 x (UI hx)
   rcases Yt.1 hx with rfl | hx
   ·omega
   have:=Pk hx;omega
  have hlen2:(d.take a.toNat++(d[a.toNat]+1)::List.replicate (d.length-(a.toNat+1)) 0).length=t.Vars.length:=by simp;omega
  rw[Qld a.toNat (XE n t) d _ _ (by omega) (Qy hlt) (Qy hls) h9.1 λj y z hj=>q4 j y z (by omega)]at hnx
  simp only at hnx
  rw[hnx]at j4
  exact T2 ⟨λs' e=>(by
   cases e
   refine⟨?_,hlen2,hd3,by show(r.length:Int)<most;omega,j4,by show r.length+(List.flatMap rl (_::_)).length=_;rw[<-hnx];omega⟩
   show(YU (XE n t) (d.take a.toNat++(d[a.toNat]+1)::List.replicate (d.length-(a.toNat+1)) 0)).length<(YU (XE n t) d).length
   rw[hnx,DX];omega),λq e=>(by cases e)⟩
 rcases q with q | q
 ·exact T2 λa ha=>fin _ hq a (by rcases ha with ha | ha<;>cases ha;exact .inl rfl)
 exact T2 λa ha=>fin _ hq a (by rcases ha with ha | ha<;>cases ha;exact .inr rfl)
def DT (j h:Int):L_ (L_ Int):=(Yx j h).getD []
def XP (n:Qn)(m:L_ QBg)(h:Int):L_ Qh:=match idx n.Tasks h with
 | some t=>(binds (XE n t)).flatMap (WC n m h (DT t.Join t.Ins.length) (DT t.Split t.Outs.length))
 | none=>[]
def Qbb (n:Qn)(m:L_ QBg)(j most:Int)(h:Xd n)(hm:QO (QO λ_=>True) m)(hmost:most<=4294967296\/(XP n m j).length<=4294967296):BO n m j most=some ((XP n m j).take most.toNat):=by
 have key:Qg (BO n m j most) λr=>r=(XP n m j).take most.toNat:=by
  unfold BO
  refine T1 (λD=>T2 ?_) λD=>?_
  ·simp only[Kh,QC]at D
   rcases D with D | D | D
   ·unfold XP idx
    rw[if_neg (by omega)];simp
   ·unfold XP idx
    rw[if_pos (by omega),Vi (by omega)];simp
   rw[show most.toNat=0 by omega,Qan]
  simp only[Kn,QV]at D
  refine T0 (T4 (by omega) (by omega)).self λe he=>?_
  refine T0 (Zd _ _).self λx hx=>?_
  refine T0 (Zd _ _).self λy hy=>?_
  refine T0 (P:=λz=>z=(n,e)) (T2 rfl) λz hz=>?_
  subst hz
  have hml:XP n m j=(binds (XE n e)).flatMap (WC n m j x y):=by
   unfold XP DT
   rw[he.1]
   simp only
   rw[hx.1,hy.1];rfl
  refine T0 (Qjv n m j most [] x y e h hm (by rw[<-hml];exact hmost) (by omega) hx.2 hy.2 he.2) λr hr=>?_
  rw[hml]
  rcases r with r | r
  ·exact T2 (hr r (.inl rfl))
  exact T2 (hr r (.inr rfl))
 obtain⟨r,h1,h2⟩:=key
 rw[h1,h2]
def GB (n:Qn)(m:L_ QBg):L_ Qh:=(List.range n.Tasks.length).flatMap λ(k:Nat)=>XP n m (k:Int)
def Qoj {α:Type}(f:Nat->L_ α)(N:Nat):∀k,k<=N->∃r,(List.range N).flatMap f=(List.range k).flatMap f++r:=by
 induction N with
 | zero=>intro k h;exact⟨[],by rw[show k=0 by omega];rfl⟩
 | succ N D=>
  intro k h
  by_cases c:k=N+1
  ·subst c;exact⟨[],by simp⟩
  obtain⟨r,j⟩:=D k (by omega)
  exact⟨r++f N,by rw[List.range_succ,Qc7,List.flatMap_singleton,j,WD]⟩
def Qbc (n:Qn)(m:L_ QBg)(most:Int)(h:Xd n)(hm:QO (QO λ_=>True) m)(h0:0<=most)(h1:most<=9223372036854775807)(hmost:most<=4294967296\/(GB n m).length<=4294967296):EU n m most=some ((GB n m).take most.toNat):=by
 have key:Qg (EU n m most) λr=>r=(GB n m).take most.toNat:=by
  unfold EU
  refine T0 (Qg.up n.Tasks.length (λst=>st.1) (λst=>st.2=((List.range st.1.toNat).flatMap λ(k:Nat)=>XP n m (k:Int)).take most.toNat) (Q:=λq=>q=(GB n m).take most.toNat) rfl (by simp) (λi st hi hn j=>?_)) (λq hq=>T2 hq)
  obtain⟨x,l⟩:=st
  replace hi:x=(i:Int):=hi
  subst hi
  replace j:l=((List.range (i:Int).toNat).flatMap λ(k:Nat)=>XP n m (k:Int)).take most.toNat:=j
  rw[XH]at j
  show Qg (DR n m most i l) _
  unfold DR
  refine T1 (λhc=>?_) (λhc=>T2 (Qp ?_))
  ·simp only[QC]at hc
   have hll:l.length<=most.toNat:=by rw[j];exact List.length_take_le _ _
   have hw:Qj (most-(l.length:Int))=most-(l.length:Int):=Xv (by omega)
   obtain⟨rest,D⟩:=Qoj (λ(k:Nat)=>XP n m (k:Int)) n.Tasks.length (i+1) (by omega)
   have hle:((List.range i).flatMap λ(k:Nat)=>XP n m (k:Int)).length+(XP n m (i:Int)).length<=(GB n m).length:=by
    unfold GB
    rw[D,List.range_succ,Qc7,List.flatMap_singleton];simp
   have hl2:l.length<=((List.range i).flatMap λ(k:Nat)=>XP n m (k:Int)).length:=by rw[j];exact List.length_take_le' _ _
   rw[hw,Qbb n m i _ h hm (by omega),Qd]
   have e:l++(XP n m (i:Int)).take (most-(l.length:Int)).toNat=((List.range (i+1)).flatMap λ(k:Nat)=>XP n m (k:Int)).take most.toNat:=by
    rw[List.range_succ,Qc7,List.flatMap_singleton,List.take_append,<-j]
    congr 1
    by_cases c:((List.range i).flatMap λ(k:Nat)=>XP n m (k:Int)).length<=most.toNat
    ·have:l.length=((List.range i).flatMap λ(k:Nat)=>XP n m (k:Int)).length:=by rw[j,Wm];omega
     congr 1;omega
    have:l.length=most.toNat:=by rw[j,Wm];omega
    rw[show(most-(l.length:Int)).toNat=0 by omega,show most.toNat-((List.range i).flatMap λ(k:Nat)=>XP n m (k:Int)).length=0 by omega]
   rw[e]
   refine T0 (T5 (by
    have:=List.length_take_le (most-(l.length:Int)).toNat (XP n m (i:Int))
    have:=List.length_take_le' (most-(l.length:Int)).toNat (XP n m (i:Int))
    simp only[QC];omega)) λ_ _=>?_
   have hw2:Qj ((i:Int)+1)=((i+1:Nat):Int):=Qr (by omega:i<n.Tasks.length) h.k.2.2.1.1
   refine T2 (QG ⟨by omega,hw2,?_⟩)
   show _=((List.range (Qj ((i:Int)+1)).toNat).flatMap λ(k:Nat)=>XP n m (k:Int)).take most.toNat
   rw[hw2,XH]
  simp only[QV]at hc
  rw[j,show i=n.Tasks.length by omega];rfl
 obtain⟨r,h1,h2⟩:=key
 rw[h1,h2]
def Qna {n:Qn}{m:L_ QBg}{j:Int}{D outs:L_ (L_ Int)}{p:L_ Int}{o:Qh}:
  o∈WC n m j D outs p↔o.Task=j/\o.Vars=p/\o.Ins∈D/\o.Outs∈outs/\∃b,YE n m j p=some (0,b)/\Xu b=some 0/\Xo b o.Ins=some 0/\XN b o.Outs=some 0:=by
 unfold WC
 cases hb:YE n m j p with
 | none=>simp
 | some x=>
  obtain⟨c,b⟩:=x
  simp only
  by_cases hc:c=0/\Xu b=some 0
  ·rw[if_pos hc]
   obtain⟨rfl,hg⟩:=hc
   simp only[List.mem_flatMap]
   constructor
   ·rintro ⟨e,he,h⟩
    by_cases ht:Xo b e=some 0
    ·rw[if_pos ht]at h
     obtain⟨r,hr,rfl⟩:=YN.1 h
     obtain⟨h1,h2⟩:=Mc.1 hr
     exact⟨rfl,rfl,he,h1,b,rfl,hg,ht,Xn h2⟩
    rw[if_neg ht]at h;cases h
   rintro ⟨h1,h2,h3,h4,b',h5,h6,h7,h8⟩
   cases h5
   refine⟨o.Ins,h3,?_⟩
   rw[if_pos h7]
   refine YN.2 ⟨o.Outs,Mc.2 ⟨h4,QB h8⟩,?_⟩
   cases o
   simp only at h1 h2
   subst h1;subst h2;rfl
  rw[if_neg hc]
  constructor
  ·intro h;cases h
  rintro ⟨_,_,_,_,b',h5,h6,_⟩
  cases h5
  exact absurd ⟨rfl,h6⟩ hc
def Ci {n:Qn}{m:L_ QBg}{h:Int}{o:Qh}:
  o∈XP n m h↔o.Task=h/\∃e,idx n.Tasks h=some e/\inB (XE n e) o.Vars/\o.Ins∈DT e.Join e.Ins.length/\o.Outs∈DT e.Split e.Outs.length/\∃b,YE n m h o.Vars=some (0,b)/\Xu b=some 0/\Xo b o.Ins=some 0/\XN b o.Outs=some 0:=by
 unfold XP
 cases he:idx n.Tasks h with
 | none=>simp
 | some e=>
  simp only[List.mem_flatMap,Qm2,Qna,Option.some.injEq,exists_eq_left']
  constructor
  ·rintro ⟨p,j,D,rfl,h3,h4,h5⟩
   exact⟨D,j,h3,h4,h5⟩
  rintro ⟨j,D,h3,h4,h5⟩
  exact⟨o.Vars,D,j,rfl,h3,h4,h5⟩
def Qli {n:Qn}{m:L_ QBg}{o:Qh}:o∈GB n m↔o∈XP n m o.Task:=by
 unfold GB
 simp only[List.mem_flatMap,Au]
 constructor
 ·rintro ⟨k,hk,h⟩
  have:=(Ci.1 h).1
  rwa[this]
 intro h
 obtain⟨_,e,j,_⟩:=Ci.1 h
 have D:0<=o.Task:=by
  unfold idx at j
  split at j
  ·assumption
  cases j
 rw[Wu D]at j
 have:=(Xe.1 j).1
 exact⟨o.Task.toNat,this,by rwa[show((o.Task.toNat:Nat):Int)=o.Task by omega]⟩
def Qht (a b:L_ Int)(ha:a.length<=maxLen):Jk a b=some (decide (a=b)):=by
 have key:Qg (Jk a b) λr=>r=decide (a=b):=by
  unfold Jk
  refine T1 (λhc=>T2 ?_) λhc=>?_
  ·rw[QF λe=>by subst e;simp at hc]
  simp only[KI]at hc
  have hc:a.length=b.length:=by omega
  refine T0 (Qg.up a.length (λst=>st) (λst=>a.take st.toNat=b.take st.toNat) (Q:=λq:Unit⊕Unit=>(q=.inl ()->a≠b)/\(q=.inr ()->a=b)) rfl rfl (λi st hi hn D=>?_)) (λq hq=>?_)
  ·replace hi:st=(i:Int):=hi
   subst hi
   replace D:a.take (i:Int).toNat=b.take (i:Int).toNat:=D
   rw[XH]at D
   show Qg (Ku a b i) _
   unfold Ku
   refine T1 (λj=>?_) (λj=>T2 (Qp ⟨λe=>(by cases e),λ_=>?_⟩))
   ·simp only[QC]at j
    have i1:i<a.length:=by omega
    have i2:i<b.length:=by omega
    rw[QR,Qy i1,Qd,QR,Qy i2,Qd]
    refine T1 (λh=>T2 (Qp ⟨λ_ e=>?_,λe=>by cases e⟩)) λh=>?_
    ·subst e;simp at h
    have hw:Qj ((i:Int)+1)=((i+1:Nat):Int):=Qr i1 ha
    refine T2 (QG ⟨i1,hw,?_⟩)
    show a.take (Qj ((i:Int)+1)).toNat=b.take (Qj ((i:Int)+1)).toNat
    rw[hw,XH,GZ,GZ,D,Qy i1,Qy i2]
    simp only[KI]at h
    rw[h]
   simp only[QV]at j
   rwa[KE (by omega),KE (by omega)]at D
  rcases q with q | q
  ·exact T2 (QF (hq.1 rfl)).symm
  exact T2 (QB (hq.2 rfl)).symm
 obtain⟨r,h1,h2⟩:=key
 rw[h1,h2]
def Ma (j h:Int):Yx j h=some (DT j h)/\Ia (DT j h):=by
 obtain⟨r,D,h2⟩:=Zd j h
 unfold DT
 rw[D]
 exact⟨rfl,h2⟩
def Fw (j h:Int)(row:L_ Int):DS j h row=some (decide (row∈DT j h)):=by
 have key:Qg (DS j h row) λr=>r=decide (row∈DT j h):=by
  unfold DS KH KG
  obtain⟨e,hx⟩:=Ma j h
  rw[e,Qd]
  generalize DT j h=x at hx
  have hl:=hx.1
  have key:Qg ((Qs (λst=>Yi x row st) 0)) λq:Int⊕Unit=>(∀k,q=.inl k->0<=k/\row∈x)/\(q=.inr ()->row ∉ x):=by
   refine Qg.up x.length (λst=>st) (λst=>row ∉ x.take st.toNat) rfl (by simp) (λi st hi hn hJ=>?_)
   replace hi:st=(i:Int):=hi
   subst hi
   replace hJ:row ∉ x.take (i:Int).toNat:=hJ
   rw[XH]at hJ
   show Qg (Yi x row i) _
   unfold Yi FW
   refine T1 (λhc=>?_) (λhc=>T2 (Qp ⟨λk e=>(by cases e),λ_=>?_⟩))
   ·simp only[QC]at hc
    have i1:i<x.length:=by omega
    have:=hx.2 _ (Xs i1)
    rw[QR,Qy i1,Qd,Qht _ _ (by unfold maxLen;omega)]
    simp only[Qd]
    refine T1 (λD=>T2 (Qp ⟨λk e=>(by cases e;exact⟨by omega,by rw[<-Xn D];exact Xs i1⟩),λe=>by cases e⟩)) λD=>?_
    have hw:Qj ((i:Int)+1)=((i+1:Nat):Int):=Qr i1 (by unfold maxLen;omega:x.length<=maxLen)
    refine T2 (QG ⟨i1,hw,?_⟩)
    show row ∉ x.take (Qj ((i:Int)+1)).toNat
    rw[hw,XH,GZ,Qy i1]
    simp only[Option.toList_some,YM,Nw,not_or]
    exact⟨hJ,λe=>of_decide_eq_false D e.symm⟩
   simp only[QV]at hc
   rwa[KE (by omega)]at hJ
  obtain⟨q,hq1,hq2⟩:=key
  rw[hq1]
  rcases q with q | q
  ·have:=hq2.1 q rfl
   refine T2 ?_
   rw[QB this.2]
   exact QB this.1
  refine T2 ?_
  rw[QF (hq2.2 rfl)];rfl
 obtain⟨r,h1,h2⟩:=key
 rw[h1,h2]
def Qnb (l:L_ QM)(k m:Int)(hl:QO YJ l):Qg (Wn l k m) λr=>r.2=true->0<=m/\∃z,Yl l k=some z/\m<z:=by
 unfold Wn Yl
 refine T0 (Fp l k hl).self λx hx=>?_
 obtain⟨hxe,hx⟩:=hx
 refine T0 (P:=λr=>r=false->x.1=true/\0<=m/\∃h:0<=k/\k<(x.2.sizes.length:Int),m<x.2.sizes[k.toNat]'(by omega)) ?_ λr hr=>?_
 ·unfold Ax
  refine T1 (λ_=>T2 λh=>by cases h) λj=>?_
  have j:x.1=true:=by simpa using j
  have h:=hx.2 j
  have hk:k.toNat<x.2.sizes.length:=by omega
  have ei:idx x.2.sizes k=some x.2.sizes[k.toNat]:=LY h.1.1 h.1.2
  refine T0 (P:=λy=>y=true->0<=m/\m<x.2.sizes[k.toNat]) ?_ λy hy=>T2 λhf=>?_
  ·unfold JT
   refine T0 (P:=λy=>y=true->0<=m/\m<x.2.sizes[k.toNat]) ?_ λy hy=>T2 hy
   unfold Ga
   refine T1 (λhc2=>?_) λ_=>T2 λh=>by cases h
   rw[h.2.1,ei,Qd]
   exact T2 λh=>⟨by simpa using hc2,by simpa using h⟩
  have:=hy (by simpa using hf)
  exact⟨j,this.1,h.1,this.2⟩
 unfold Ay
 refine T1 (λ_=>T2 λh=>by cases h) λj=>?_
 obtain⟨h1,h2,h3,h4⟩:=hr j
 have h:=hx.2 h1
 have D:0<=m/\∃z,((Ww l k).bind λx5=>bif (!x5.1)then some 0 else(idx x5.2.sizes k).bind λe7=>some e7)=some z/\m<z:=⟨h2,x.2.sizes[k.toNat]'(by omega),by
  rw[hxe,Qd,h1]
  simp only[DW,Qq]
  rw[LY h3.1 h3.2];rfl,h4⟩
 refine T0 (BZ x.2 (by omega)) λ_ _=>?_
 refine T1 (λ_=>?_) λ_=>T2 λ_=>D
 exact T0 (BZ x.2 (by omega)) λ_ _=>T2 λ_=>D
def QpB {l d:L_ Int}(h:d.length=l.length)(D:∀(j:Nat) x s,d[j]? = some x->l[j]? = some s->0<=x/\x<s):inB l d:=by
 induction l generalizing d with
 | nil=>cases d with
  | nil=>trivial
  | cons x d=>simp at h
 | cons s r ih=>cases d with
  | nil=>simp at h
  | cons x d=>
   have:=D 0 x s rfl rfl
   exact⟨this.1,.inr this.2,ih (by simpa using h) λj y z h1 h2=>D (j+1) y z (by simpa using h1) (by simpa using h2)⟩
def QpC (n:Qn)(task:Int)(D:L_ Int)(h:Xd n):Qg (WH n task D) λr=>r.2=0->∃e,idx n.Tasks task=some e/\e∈n.Tasks/\inB (XE n e) D/\∀s∈XE n e,0<s:=by
 unfold WH
 refine T1 (λ_=>T2 λh=>by cases h) λhc=>?_
 simp only[Kn,QV]at hc
 refine T0 (T4 (by omega) (by omega)).self λe he=>?_
 have hv:=(h.tk e he.2).1
 have ke:=h.k.2.2.1.2 e he.2
 refine T1 (λ_=>T2 λh=>by cases h) λhl=>?_
 simp only[KI]at hl
 have hl:D.length=e.Vars.length:=by omega
 refine T0 (T5 (by simp only[QH,QC];omega)) λ_ _=>?_
 refine T0 (Qg.up e.Vars.length (λst=>st.1) (λst=>st.2.length=e.Vars.length/\∀(j:Nat) x s,(j:Int)<st.1->D[j]? = some x->(XE n e)[j]? = some s->0<=x/\x<s) (Q:=λq:Unit⊕L_ Int=>∀out,q=.inr out->inB (XE n e) D/\∀s∈XE n e,0<s) rfl ⟨by simp,λj x s hj=>by simp at hj;omega⟩ (λi st hi hn hJ=>?_)) (λq hq=>?_)
 ·obtain⟨x,l⟩:=st
  replace hi:x=(i:Int):=hi
  subst hi
  obtain⟨hJ,hJ2⟩:l.length=e.Vars.length/\∀(j:Nat) x s,(j:Int)<(i:Int)->D[j]? = some x->(XE n e)[j]? = some s->0<=x/\x<s:=hJ
  show Qg (WG e D n i l) _
  unfold WG
  refine T1 (λhc=>?_) (λhc=>T2 (Qp λout _=>?_))
  ·simp only[QC]at hc
   have i1:i<e.Vars.length:=by omega
   have i2:i<D.length:=by omega
   rw[QR,Qy i1,Qd,QR,Qy i2,Qd]
   refine T0 (Qnb _ _ _ h.k.1) λc hc3=>?_
   refine T1 (λ_=>T2 (Qp λout e=>by cases e)) λhc4=>?_
   obtain⟨h1,z,h2,h3⟩:=hc3 (by simpa using hc4)
   refine T0 (T4 (by omega) (by omega)) λd _=>?_
   have hw:Qj ((i:Int)+1)=((i+1:Nat):Int):=Qr i1 (by unfold maxLen;omega:e.Vars.length<=maxLen)
   refine T2 (QG ⟨i1,hw,by simpa using hJ,λj x s hj hx hs=>?_⟩)
   replace hj:(j:Int)<Qj ((i:Int)+1):=hj
   rw[hw]at hj
   by_cases cj:j=i
   ·subst cj
    rw[Qy i2]at hx
    cases hx
    unfold XE at hs
    rw[Ya,Qy i1,WU,h2]at hs
    cases hs
    exact⟨h1,h3⟩
   exact hJ2 j x s (by omega) hx hs
  simp only[QV]at hc
  have hb:∀(j:Nat) x s,D[j]? = some x->(XE n e)[j]? = some s->0<=x/\x<s:=λj x s hx hs=>hJ2 j x s (by have:=(Xe.1 hx).1;omega) hx hs
  refine⟨QpB (by simp[XE,hl]) hb,λs hs=>?_⟩
  obtain⟨j,hj,rfl⟩:=Nv.1 hs
  have hj2:j<D.length:=by simp[XE]at hj;omega
  have:=hb j _ _ (Qy hj2) (Qy hj)
  omega
 rcases q with q | q
 ·exact T2 λh=>by cases h
 exact T2 λ_=>⟨e,he.1,he.2,hq q rfl⟩
def La {n:Qn}{m:L_ QBg}{j:Int}{D:L_ Int}{b:QX}(h:Xd n)(e:YE n m j D=some (0,b)):idx n.Tasks j=some b.task/\b.task∈n.Tasks/\b.net=n/\b.m=m/\(inB (XE n b.task) D/\∀s∈XE n b.task,0<s)/\WH n j D=some (b.env,0):=by
 unfold YE at e
 obtain⟨x,hx,e⟩:=Qw e
 obtain⟨x1,x2⟩:=x
 rcases Xr e with⟨c,e⟩|⟨c,e⟩
 ·simp only[Option.some.injEq,Prod.mk.injEq]at e
  simp only[e.1]at c;cases c
 simp only[KI]at c
 subst c
 obtain⟨t,ht,h1,h2⟩:=GA (QpC n j D h) hx rfl
 rw[ht,Qd]at e
 simp only[Option.some.injEq,Prod.mk.injEq,true_and]at e
 subst e
 exact⟨ht,h1,rfl,rfl,h2,hx⟩
def Ze {n:Qn}{m:L_ QBg}{o:Qh}(h:Xd n)(hm:QO (QO λ_=>True) m)(ho:YQ n o):Ye n m o=some 0↔o∈XP n m o.Task:=by
 rw[Ci]
 constructor
 ·intro e
  unfold Ye at e
  obtain⟨x,hx,e⟩:=Qw e
  obtain⟨c,b⟩:=x
  have k3:∀g,Jg (c,b) o g=some 0->g=0/\o.Ins∈DT b.task.Join b.task.Ins.length/\o.Outs∈DT b.task.Split b.task.Outs.length/\Xo b o.Ins=some 0/\XN b o.Outs=some 0:=λg e=>by
   unfold Jg at e
   rcases Xr e with⟨c2,e⟩|⟨c2,e⟩
   ·simp only[Option.some.injEq]at e;rw[e]at c2;cases c2
   simp only[KI]at c2
   obtain⟨y,j,e⟩:=Qw e
   unfold Az at j
   rw[Fw,Qd]at j
   unfold AA at e
   rcases Xr e with⟨_,e⟩|⟨c3,e⟩
   ·cases e
   subst c3
   rcases Xr j with⟨_,j⟩|⟨c4,j⟩
   ·cases j
   rw[Fw,Qd]at j
   simp only[Bj,QC]at c4
   simp only[Option.some.injEq,Bj,QC]at j
   obtain⟨z,hz,e⟩:=Qw e
   rcases Xr e with⟨c5,e⟩|⟨c5,e⟩
   ·simp only[Option.some.injEq]at e;rw[e]at c5;cases c5
   simp only[KI]at c5
   subst c5
   obtain⟨w,hw,e⟩:=Qw e
   simp only[Option.some.injEq]at e
   subst e
   exact⟨c2,c4,j,hz,hw⟩
  have fin:c=0->Xu b=some 0->(o.Ins∈DT b.task.Join b.task.Ins.length/\o.Outs∈DT b.task.Split b.task.Outs.length/\Xo b o.Ins=some 0/\XN b o.Outs=some 0)->o.Task=o.Task/\∃e,idx n.Tasks o.Task=some e/\inB (XE n e) o.Vars/\o.Ins∈DT e.Join e.Ins.length/\o.Outs∈DT e.Split e.Outs.length/\∃b,YE n m o.Task o.Vars=some (0,b)/\Xu b=some 0/\Xo b o.Ins=some 0/\XN b o.Outs=some 0:=λhc hg q=>by
   subst hc
   obtain⟨h1,_,_,_,h2,_⟩:=La h hx
   exact⟨rfl,b.task,h1,h2.1,q.1,q.2.1,b,hx,hg,q.2.2.1,q.2.2.2⟩
  rcases Xr e with⟨D,e⟩|⟨D,e⟩
  ·simp only[beq_iff_eq]at D
   obtain⟨g,hg,e⟩:=Qw e
   obtain⟨rfl,q⟩:=k3 g e
   exact fin D hg q
  have e1:=(k3 _ e).1
  simp only[beq_eq_false_iff_ne]at D
  exact absurd e1 D
 rintro ⟨_,e,he,h1,h2,h3,b,hb,hg,ht,hv⟩
 obtain⟨k1,k2,_⟩:=La h hb
 rw[he]at k1;cases k1
 unfold Ye
 rw[hb,Qd]
 simp only[show((0:Int)==0)=true from rfl,Qx,hg,Qd]
 unfold Jg
 simp only[show((0:Int) != 0)=false from rfl,Qq]
 unfold Az
 rw[Fw,Qd,QB h2]
 simp only[DW,Qq]
 rw[Fw,Qd,QB h3,Qd]
 unfold AA
 simp only[DW,Qq,ht,Qd,show((0:Int) != 0)=false from rfl,hv]
def Qok {n:Qn}{m:L_ QBg}{j:Int}{o:Qh}(h:Xd n)(hm:QO (QO λ_=>True) m)(ho:o∈XP n m j):YQ n o:=by
 obtain⟨_,e,D,h1,h2,h3,_⟩:=Ci.1 ho
 have hem:e∈n.Tasks:=by
  unfold idx at D
  split at D
  ·exact XF D
  cases D
 have hv:=(h.tk e hem).1
 have hl:=QoS h1
 have h4:=(Ma e.Join e.Ins.length).2.2 _ h2
 have h5:=(Ma e.Split e.Outs.length).2.2 _ h3
 have:(XE n e).length=e.Vars.length:=by simp[XE]
 exact⟨by omega,by omega,by omega⟩
def Qhu {n:Qn}{m:L_ QBg}{o:Qh}(h:Xd n)(j:QO (QO λ_=>True) m)(D:o∈GB n m):YQ n o:=Qok h j (Qli.1 D)
def Xy (a:Int):Prop:=-9223372036854775808<=a/\a<=9223372036854775807
instance (a : Int):Decidable (Xy a):=by unfold Xy;infer_instance
def Sj (x:Int):IntKind.u64.wrap x=x % 18446744073709551616:=rfl
def CS {x:Int}(h:0<=x/\x<18446744073709551616):IntKind.u64.wrap x=x:=by rw[Sj];omega
def Qhv {x:Int}(h:0<=x):YW .u64 x 32=x / 4294967296:=by
 unfold YW
 rw[show min ((32:Int).toNat) (IntKind.bits .u64)=32 from rfl,Int.fdiv_eq_ediv_of_nonneg _ (by decide)]
 rfl
def Qma {x:Int}(h:0<=x/\x<18446744073709551616):Dh .u64 x 4294967295=x % 4294967296:=by
 unfold Dh
 have e:((BitVec.ofInt (IntKind.bits .u64) x &&& BitVec.ofInt (IntKind.bits .u64) 4294967295).toNat:Int)=x % 4294967296:=by
  rw[BitVec.toNat_and,BitVec.toNat_ofInt,BitVec.toNat_ofInt]
  have j:(x % ((2:Nat) ^ (IntKind.bits .u64):Nat)).toNat=x.toNat:=by
   show(x % 18446744073709551616).toNat=x.toNat
   omega
  have D:((4294967295:Int) % ((2:Nat) ^ (IntKind.bits .u64):Nat)).toNat=2 ^ 32-1:=by decide
  rw[j,D,Nat.and_two_pow_sub_one_eq_mod]
  omega
 rw[e]
 exact CS (by omega)
def Qhw {x y:Int}(j:0<=x/\x<=4294967295)(h:0<=y/\y<=4294967295):0<=x*y/\x*y<=18446744065119617025:=by
 refine⟨Int.mul_nonneg j.1 h.1,?_⟩
 have:=Int.mul_le_mul j.2 h.2 h.1 (by decide)
 omega
def Qmb {x y:Int}(h:0<=x/\x<18446744073709551616)(j:0<=y/\y<18446744073709551616):DH x y=some (x*y / 18446744073709551616,x*y % 18446744073709551616):=by
 unfold DH
 rw[Qhv h.1,Qhv j.1,Qma h,Qma j,Sj (x*y)]
 have e:x*y=(x / 4294967296)*(y / 4294967296)*18446744073709551616+((x / 4294967296)*(y % 4294967296)+(x % 4294967296)*(y / 4294967296))*4294967296+(x % 4294967296)*(y % 4294967296):=by
  have D:x=(x / 4294967296)*4294967296+x % 4294967296:=by omega
  have h2:y=(y / 4294967296)*4294967296+y % 4294967296:=by omega
  generalize x / 4294967296=a at *
  generalize x % 4294967296=b at *
  generalize y / 4294967296=c at *
  generalize y % 4294967296=d at *
  subst D h2
  grind
 rw[e]
 have b1:=Qhw (x:=x / 4294967296) (y:=y / 4294967296) (by omega) (by omega)
 have b2:=Qhw (x:=x / 4294967296) (y:=y % 4294967296) (by omega) (by omega)
 have b3:=Qhw (x:=x % 4294967296) (y:=y / 4294967296) (by omega) (by omega)
 have b4:=Qhw (x:=x % 4294967296) (y:=y % 4294967296) (by omega) (by omega)
 generalize x / 4294967296*(y / 4294967296)=p at *
 generalize x / 4294967296*(y % 4294967296)=q at *
 generalize x % 4294967296*(y / 4294967296)=r at *
 generalize x % 4294967296*(y % 4294967296)=s at *
 rw[CS (x:=s) (by omega),Qhv (x:=s) (by omega),CS (x:=q) (by omega),CS (x:=q+s / 4294967296) (by omega),Qhv (x:=q+s / 4294967296) (by omega),Qma (x:=q+s / 4294967296) (by omega),CS (x:=r) (by omega),CS (x:=p) (by omega),
  CS (x:=(q+s / 4294967296) % 4294967296+r) (by omega),Qhv (x:=(q+s / 4294967296) % 4294967296+r) (by omega),CS (x:=p+(q+s / 4294967296) / 4294967296) (by omega),CS (by omega)]
 congr 2
 omega
def GC (a:Int):Int:=if a<0 then -a else a
def QiX {a:Int}(h:Xy a):AU a=some (GC a):=by
 unfold AU GC Xy at *
 by_cases c:a<0
 ·rw[QB c,Qx,if_pos c,Sj,Sj];congr 1;omega
 rw[QF c,Qq,if_neg c,Sj];congr 1;omega
def Qlj (a b:Int):GC a*GC b=GC (a*b):=by
 unfold GC
 by_cases h:a<0<;>by_cases j:b<0
 ·rw[if_pos h,if_pos j,if_neg (by have:=Int.mul_pos_of_neg_of_neg h j;omega),Int.neg_mul_neg]
 ·rw[if_pos h,if_neg j]
  by_cases D:b=0
  ·subst D;simp
  rw[if_pos (Int.mul_neg_of_neg_of_pos h (by omega)),Int.neg_mul]
 ·rw[if_neg h,if_pos j]
  by_cases D:a=0
  ·subst D;simp
  rw[if_pos (Int.mul_neg_of_pos_of_neg (by omega) j),Int.mul_neg]
 rw[if_neg h,if_neg j,if_neg (by have:=Int.mul_nonneg (show 0<=a by omega) (show 0<=b by omega);omega)]
def Pg (a b:Int):Int×Int:=if Xy (a*b)then(a*b,0)else(0,6)
def Qc0 {a b:Int}(ha:Xy a)(hb:Xy b):Uh a b=some (Pg a b):=by
 unfold Uh
 have h1:0<=GC a/\GC a<=9223372036854775808:=by unfold GC Xy at *;split<;>omega
 have h2:0<=GC b/\GC b<=9223372036854775808:=by unfold GC Xy at *;split<;>omega
 have h3:0<=GC a*GC b:=Int.mul_nonneg h1.1 h2.1
 rw[QiX ha,Qd,QiX hb,Qd,Qmb (by omega) (by omega),Qd]
 rw[Qlj]at h3 ⊢
 have sg:(decide (a<0) != decide (b<0))=true\/(decide (a<0) != decide (b<0))=false:=by cases (decide (a<0) != decide (b<0))<;>simp
 have hsg:(decide (a<0) != decide (b<0))=true->a*b<=0:=λh=>by
  by_cases c1:a<0<;>by_cases c2:b<0<;>simp[c1,c2]at h
  ·exact Int.mul_nonpos_of_nonpos_of_nonneg (by omega) (by omega)
  exact Int.mul_nonpos_of_nonneg_of_nonpos (by omega) (by omega)
 have D:(decide (a<0) != decide (b<0))=false->0<=a*b:=λh=>by
  by_cases c1:a<0<;>by_cases c2:b<0<;>simp[c1,c2]at h
  ·have:=Int.mul_pos_of_neg_of_neg c1 c2;omega
  exact Int.mul_nonneg (by omega) (by omega)
 have hw:Xy (a*b)->Qj (a*b)=a*b:=λh=>Xv h
 generalize hm:a*b=m at *
 unfold Pg
 rw[hm]
 unfold GC at h3 ⊢
 rcases sg with c | c
 ·rw[c,Qx]
  have:=hsg c
  unfold Wh
  rw[hm,Sj]
  simp only
  by_cases j:Xy m
  ·rw[if_pos j,hw j]
   unfold Xy at j
   rw[QF (by split<;>omega),QF (by split<;>omega)];rfl
  rw[if_neg j]
  have:decide (0<(if m<0 then -m else m) / 18446744073709551616)=true\/decide ((9223372036854775807+1) % 18446744073709551616<(if m<0 then -m else m) % 18446744073709551616)=true:=by
   unfold Xy at j
   rw[QC,QC]
   split<;>omega
  rcases this with h | h
  ·rw[h];rfl
  rw[h,Bool.or_true];rfl
 rw[c,Qq]
 have:=D c
 unfold Wh
 rw[hm]
 simp only
 by_cases j:Xy m
 ·rw[if_pos j,hw j]
  unfold Xy at j
  rw[QF (by split<;>omega),QF (by split<;>omega)];rfl
 rw[if_neg j]
 have:decide (0<(if m<0 then -m else m) / 18446744073709551616)=true\/decide ((9223372036854775807:Int)<(if m<0 then -m else m) % 18446744073709551616)=true:=by
  unfold Xy at j
  rw[QC,QC]
  split<;>omega
 rcases this with h | h
 ·rw[h];rfl
 rw[h,Bool.or_true];rfl
def Qkt (a b:Int):Int×Int:=if Xy (a+b)then(a+b,0)else(0,6)
def Qol {a b:Int}(ha:Xy a)(hb:Xy b):Cr a b=some (Qkt a b):=by
 unfold Cr Qkt
 by_cases D:Xy (a+b)
 ·rw[if_pos D,Xv D]
  have:((decide (a<0)==decide (b<0))&&(decide (a+b<0) != decide (a<0)))=false:=by
   by_cases h:a<0<;>by_cases j:b<0<;>simp[h,j]<;>omega
  rw[this];rfl
 rw[if_neg D]
 have hw:Qj (a+b)=if a+b<0 then a+b+18446744073709551616 else a+b-18446744073709551616:=by
  rw[Pc];unfold wrap64 Xy at *;split<;>omega
 have:((decide (a<0)==decide (b<0))&&(decide (Qj (a+b)<0) != decide (a<0)))=true:=by
  rw[hw]
  unfold Xy at *
  by_cases h:a<0<;>by_cases j:b<0<;>by_cases c3:a+b<0<;>simp[h,j,c3]<;>omega
 rw[this];rfl
def QpD {a b:Int}(h:Xy a)(j:Xy b):Js 3 a b=some (Pg a b):=by
 unfold Js
 rw[show((3:Int)==1)=false from rfl,Qq,show((3:Int)==2)=false from rfl,Qq,show((3:Int)==3)=true from rfl,Qx,Qc0 h j];rfl
def QpE {a b:Int}(h:Xy a)(j:Xy b):Js 1 a b=some (Qkt a b):=by
 unfold Js
 rw[show((1:Int)==1)=true from rfl,Qx,Qol h j];rfl
def QoY {a b:Int}(j:Xy a)(D:Xy b):WK 1 a b=some (Qkt a b):=by
 unfold WK
 show(Pw a b).bind _=_
 unfold Pw Qkt
 have h:(bif (decide (0<b))then((decide ((Qj (9223372036854775807-b))<a))||((decide (b<0))&&(decide (a<(Qj ((-9223372036854775808)-b))))))else((decide (b<0))&&(decide (a<(Qj ((-9223372036854775808)-b))))))=decide (¬Xy (a+b)):=by
  unfold Xy at *
  by_cases b1:0<b
  ·rw[QB b1,Qx,QF (by omega:¬b<0),Pi,Vh,Xv (by omega)]
   exact decide_eq_decide.2 (by omega)
  rw[QF b1,Qq]
  by_cases b2:b<0
  ·rw[QB b2,RO,Xv (by omega)]
   exact decide_eq_decide.2 (by omega)
  rw[QF b2,Pi,eq_comm,QV]
  omega
 rw[h]
 by_cases c:Xy (a+b)
 ·rw[QF (by simpa using c),Qq,Xv c,if_pos c];rfl
 rw[QB c,Qx,if_neg c];rfl
def Qnc {x y a b:Int}(hx:0<=x/\x<=9223372036854775807)(hy:0<y/\y<=9223372036854775807)(ha:x=GC a)(hb:y=GC b)(ha0:a≠0):(BT x a b y).bind (λx16=>Aj x16.1 x16.2)=some (Pg a b):=by
 have hm:x*y=GC (a*b):=by rw[ha,hb,Qlj]
 unfold BT
 rw[PA (by simpa using (by omega:y≠0)),Qd,Int.tdiv_eq_ediv_of_nonneg (by decide)]
 have d1:0<=9223372036854775807 / y:=Int.ediv_nonneg (by decide) (by omega)
 have d2:9223372036854775807 / y<=9223372036854775807:=Int.ediv_le_self _ (by decide)
 rw[Xv (by omega)]
 have le1:x<=9223372036854775807 / y↔x*y<=9223372036854775807:=Int.le_ediv_iff_mul_le hy.1
 by_cases c:x<=9223372036854775807 / y
 ·have:=le1.1 c
  have hin:Xy (a*b):=by unfold Xy GC at *;split at hm<;>omega
  rw[QB c,Qx,Xv hin]
  unfold Pg;rw[if_pos hin];rfl
 have:=λh=>c (le1.2 h)
 rw[QF c,Qq]
 unfold ZV
 have sg:(bif (decide (a<0))then((decide (0<b))||((decide (0<a))&&(decide (b<0))))else((decide (0<a))&&(decide (b<0))))=decide (a*b<0):=by
  have hb0:b≠0:=by intro h;subst h;unfold GC at hb;simp at hb;omega
  by_cases D:a<0<;>by_cases c2:b<0
  ·have:=Int.mul_pos_of_neg_of_neg D c2
   rw[QB D,QF (by omega:¬0<b),QF (by omega:¬0<a),QF (by omega:¬a*b<0)];rfl
  ·have:=Int.mul_neg_of_neg_of_pos D (by omega:0<b)
   rw[QB D,QB (by omega:0<b),QB this];rfl
  ·have:=Int.mul_neg_of_pos_of_neg (by omega:0<a) c2
   rw[QF D,QB (by omega:0<a),QB c2,QB this];rfl
  have:=Int.mul_nonneg (by omega:0<=a) (by omega:0<=b)
  rw[QF D,QF c2,QF (by omega:¬a*b<0),Bool.and_false];rfl
 rw[sg]
 by_cases c3:a*b<0
 ·rw[QB c3,Qx,PA (by simpa using (by omega:y≠0)),Qd,Xv (by omega:-9223372036854775808<=y-1/\y-1<=9223372036854775807),Xv (by omega:-9223372036854775808<=9223372036854775807-(y-1)/\9223372036854775807-(y-1)<=9223372036854775807),Xv (by omega:-9223372036854775808<=x-1/\x-1<=9223372036854775807),Int.tdiv_eq_ediv_of_nonneg (by omega)]
  have d3:0<=(9223372036854775807-(y-1)) / y:=Int.ediv_nonneg (by omega) (by omega)
  have d4:(9223372036854775807-(y-1)) / y<=9223372036854775807-(y-1):=Int.ediv_le_self _ (by omega)
  rw[Xv (by omega)]
  have j:x-1<=(9223372036854775807-(y-1)) / y↔(x-1)*y<=9223372036854775807-(y-1):=Int.le_ediv_iff_mul_le hy.1
  have e3:(x-1)*y=x*y-y:=by rw[Int.sub_mul,Int.one_mul]
  rw[e3]at j
  unfold GC at hm
  rw[if_pos c3]at hm
  unfold Pg
  by_cases c4:x-1<=(9223372036854775807-(y-1)) / y
  ·have h4:=j.1 c4
   have e4:x*y=9223372036854775808:=by omega
   rw[QB c4,Qx,e4,if_pos (by unfold Xy;omega),show a*b=-9223372036854775808 by omega]
   rfl
  have h4:=λh=>c4 (j.2 h)
  rw[QF c4,Qq,if_neg (by unfold Xy;omega)]
  rfl
 rw[QF c3,Qq]
 unfold GC at hm
 rw[if_neg c3]at hm
 unfold Pg
 rw[if_neg (by unfold Xy;omega)]
 rfl
def QoZ {a b:Int}(ha:Xy a)(hb:Xy b):WK 3 a b=some (Pg a b):=by
 unfold WK
 show(Py a b).bind _=_
 unfold Py
 by_cases z:a=0\/b=0
 ·rw[show((a==0)||(b==0))=true by simpa using z,Qx]
  have:a*b=0:=Int.mul_eq_zero.2 z
  unfold Pg
  rw[this];rfl
 rw[show((a==0)||(b==0))=false by simpa using z,Qq]
 simp only[not_or]at z
 by_cases m:a=-9223372036854775808\/b=-9223372036854775808
 ·rw[show((a==(-9223372036854775808))||(b==(-9223372036854775808)))=true by simpa using m,Qx]
  by_cases o:a=1\/b=1
  ·rw[show((a==1)||(b==1))=true by simpa using o,Qx]
   have h:Xy (a*b):=by
    rcases o with rfl | rfl
    ·rwa[Int.one_mul]
    rwa[Int.mul_one]
   rw[Xv h]
   unfold Pg;rw[if_pos h];rfl
  rw[show((a==1)||(b==1))=false by simpa using o,Qq]
  simp only[not_or]at o
  have h:¬Xy (a*b):=by
   unfold Xy
   rcases m with rfl | rfl
   ·omega
   omega
  unfold Pg;rw[if_neg h];rfl
 rw[show((a==(-9223372036854775808))||(b==(-9223372036854775808)))=false by simpa using m,Qq]
 simp only[not_or]at m
 unfold Xy at ha hb
 have k4:∀x,0<=x/\x<=9223372036854775807->x=GC a->(BU b a x).bind (λj=>Aj j.1 j.2)=some (Pg a b):=λx hx D=>by
  unfold BU
  by_cases c:b<0
  ·rw[QB c,Qx,Xv (by omega)]
   exact Qnc hx (by omega) D (by unfold GC;rw[if_pos c];omega) z.1
  rw[QF c,Qq]
  exact Qnc hx (by omega) D (by unfold GC;rw[if_neg c]) z.1
 by_cases c:a<0
 ·rw[QB c,Qx,Xv (by omega)]
  exact k4 _ (by omega) (by unfold GC;rw[if_pos c];omega)
 rw[QF c,Qq]
 exact k4 _ (by omega) (by unfold GC;rw[if_neg c])
def eqO {o p:O_ QLL}(h:decide (o=p)=true):o=p:=Xn h
set_option maxRecDepth 100000 in
def TR (j h:Int):DC j h=Yx j h:=by
 by_cases hg:((decide (h<0))||((decide (16<h))||((j==3)&&(decide (4<h)))))=true
 ·unfold Yx DC
  rw[hg,Qx,Qx]
 have D:=hg
 simp only[Kh,QH,QC,beq_iff_eq,not_or,not_and]at hg
 obtain⟨h0,h1,h2⟩:=hg
 by_cases e1:j=1
 ·subst e1
  rcases Qko h0 h1 with rfl | rfl | rfl | rfl | rfl | rfl | rfl | rfl | rfl | rfl | rfl | rfl | rfl | rfl | rfl | rfl | rfl<;>exact eqO (by kernel_rfl)
 by_cases e2:j=2
 ·subst e2
  rcases Qko h0 h1 with rfl | rfl | rfl | rfl | rfl | rfl | rfl | rfl | rfl | rfl | rfl | rfl | rfl | rfl | rfl | rfl | rfl<;>exact eqO (by kernel_rfl)
 by_cases e3:j=3
 ·subst e3
  have h3:=h2 rfl
  have:h=0\/h=1\/h=2\/h=3\/h=4:=by omega
  rcases this with rfl | rfl | rfl | rfl | rfl<;>exact eqO (by kernel_rfl)
 have f1:(j==1)=false:=by simpa using e1
 have f2:(j==2)=false:=by simpa using e2
 have f3:(j==3)=false:=by simpa using e3
 have t0:∃l,Qs (λst=>PQ h st.1 st.2) (0,([]:L_ Int))=some l:=by
  rcases Qko h0 h1 with rfl | rfl | rfl | rfl | rfl | rfl | rfl | rfl | rfl | rfl | rfl | rfl | rfl | rfl | rfl | rfl | rfl<;>exact Option.isSome_iff_exists.1 (by kernel_rfl)
 obtain⟨l,hl⟩:=t0
 rw[FN]at D
 unfold Yx DC
 rw[D,Qq,Qq,hl,Qd]
 unfold OK
 rw[f1,f2,f3]
 rfl
def Qo0 {a b:Int}(D:Xy a)(hb:Xy b):WK 2 a b=Js 2 a b:=by
 unfold WK Js
 show(Px a b).bind _=(Wg a b).bind _
 unfold Px Wg
 have h:(bif (decide (b<0))then((decide ((Qj (9223372036854775807+b))<a))||((decide (0<b))&&(decide (a<(Qj ((-9223372036854775808)+b))))))else((decide (0<b))&&(decide (a<(Qj ((-9223372036854775808)+b))))))=decide (¬Xy (a-b)):=by
  unfold Xy at *
  by_cases b1:b<0
  ·rw[QB b1,Qx,QF (by omega:¬0<b),Pi,Vh,Xv (by omega)]
   exact decide_eq_decide.2 (by omega)
  rw[QF b1,Qq]
  by_cases b2:0<b
  ·rw[QB b2,RO,Xv (by omega)]
   exact decide_eq_decide.2 (by omega)
  rw[QF b2,Pi,eq_comm,QV]
  omega
 have j:(((decide (a<0)) != (decide (b<0)))&&((decide ((Qj (a-b))<0)) != (decide (a<0))))=decide (¬Xy (a-b)):=by
  have e:Qj (a-b)=wrap64 (a-b):=Pc _
  rw[e]
  unfold wrap64 Xy at *
  apply Vf.2
  simp only[QH,bne_iff_ne,ne_eq,decide_eq_decide,QC]
  omega
 rw[h,j]
 by_cases c:Xy (a-b)
 ·rw[QF (by simpa using c),Qq,Qq];rfl
 rw[QB c,Qx,Qx];rfl
def Qnd {op a b:Int}(h:Xy a)(j:Xy b):WK op a b=Js op a b:=by
 by_cases D:op=1
 ·subst D;rw[QoY h j,QpE h j]
 by_cases h2:op=2
 ·subst h2;exact Qo0 h j
 by_cases h3:op=3
 ·subst h3;rw[QoZ h j,QpD h j]
 unfold WK Js
 have b1:(op==1)=false:=by simpa using D
 have b2:(op==2)=false:=by simpa using h2
 have b3:(op==3)=false:=by simpa using h3
 have y:∀c:Bool,Dq c=some (bif c then 1 else 0)/\Jy c=some (bif c then 1 else 0,0):=λc=>by cases c<;>exact⟨rfl,rfl⟩
 rw[b1,b2,b3]
 simp only[Qq]
 by_cases h4:op=4
 ·subst h4
  unfold Ak Ks
  rw[show((4:Int)==4)=true from rfl,Qx,Qx,Qx]
  by_cases c:b=0
  ·subst c;rfl
  rw[show(b==0)=false by simpa using c,Qq,Qq,PA (by simpa using c)]
  cases ((a==(-9223372036854775808))&&(b==(-1)))<;>rfl
 by_cases h5:op=5
 ·subst h5
  unfold Ak Ks
  rw[show((5:Int)==4)=false from rfl,show((5:Int)==5)=true from rfl,Qq,Qx,Qx,Qq,Qq]
  by_cases c:b=0
  ·subst c;rfl
  rw[show(b==0)=false by simpa using c,Qq,Qq,PA (by simpa using c)]
  cases ((a==(-9223372036854775808))&&(b==(-1)))<;>rfl
 have b4:(op==4)=false:=by simpa using h4
 have b5:(op==5)=false:=by simpa using h5
 rw[b4,b5]
 unfold Ak Qbu Qbv Qbw Qbx NM SQ NN SR
 simp only[Qq,λc=>(y c).1,λc=>(y c).2,Qd]
 cases (op==6)<;>cases (op==7)<;>cases (op==8)<;>cases (op==9)<;>cases (op==10)<;>cases (op==11)<;>cases (a != 0)<;>rfl
def QjF (x:Int):Xy (Qj x):=by
 have e:Qj x=wrap64 x:=Pc _
 rw[e];unfold wrap64 Xy;omega
def QoC {op a b:Int}(ha:Xy a)(hb:Xy b){r:Int×Int}(h:Js op a b=some r):Xy r.1:=by
 have z:Xy 0:=by unfold Xy;omega
 have o:Xy 1:=by unfold Xy;omega
 have y:∀c:Bool,∃n,Jy c=some (n,0)/\Xy n:=λc=>by cases c;exact⟨0,rfl,z⟩;exact⟨1,rfl,o⟩
 have yy:∀(c:Bool) {r:Int×Int},((Jy c).bind λx=>some (x.1,x.2))=some r->Xy r.1:=λc r h=>by
  obtain⟨n,e,hn⟩:=y c
  rw[e]at h;cases h;exact hn
 have tm:Xy (Int.tmod a b):=by
  by_cases D:b=0
  ·subst D;rw[Int.tmod_zero];exact ha
  unfold Xy at *
  have h2:(Int.tmod a b).natAbs<b.natAbs:=by rw[Int.natAbs_tmod];exact Nat.mod_lt _ (by omega)
  omega
 have q:∀{r:Int×Int×Int},Ks a b=some r->Xy r.1/\Xy r.2.1:=λ{r} h=>by
  unfold Ks at h
  rcases Xr h with⟨_,h⟩|⟨_,h⟩
  ·cases h;exact⟨z,z⟩
  rcases Xr h with⟨_,h⟩|⟨_,h⟩
  ·cases h;exact⟨z,z⟩
  obtain⟨_,_,h⟩:=Qw h
  obtain⟨_,_,h⟩:=Qw h
  cases h;exact⟨QjF _,tm⟩
 unfold Js at h
 rcases Xr h with⟨_,h⟩|⟨_,h⟩
 ·obtain⟨x,j,h⟩:=Qw h
  cases h
  unfold Cr at j
  rcases Xr j with⟨_,h⟩|⟨_,h⟩<;>cases h
  ·exact z
  exact QjF _
 rcases Xr h with⟨_,h⟩|⟨_,h⟩
 ·obtain⟨x,j,h⟩:=Qw h
  cases h
  unfold Wg at j
  rcases Xr j with⟨_,h⟩|⟨_,h⟩<;>cases h
  ·exact z
  exact QjF _
 rcases Xr h with⟨_,h⟩|⟨_,h⟩
 ·obtain⟨x,j,h⟩:=Qw h
  cases h
  rw[Qc0 ha hb]at j
  unfold Pg at j
  split at j<;>cases j
  ·assumption
  exact z
 rcases Xr h with⟨_,h⟩|⟨_,h⟩
 ·obtain⟨x,j,h⟩:=Qw h
  cases h;exact(q j).1
 rcases Xr h with⟨_,h⟩|⟨_,h⟩
 ·obtain⟨x,j,h⟩:=Qw h
  cases h;exact(q j).2
 iterate 4
  rcases Xr h with⟨_,h⟩|⟨_,h⟩
  ·exact yy _ h
 rcases Xr h with⟨_,h⟩|⟨_,h⟩
 ·obtain⟨x,j,h⟩:=Qw h
  cases h
  unfold NM at j
  rcases Xr j with⟨_,h⟩|⟨_,h⟩<;>exact yy _ h
 rcases Xr h with⟨_,h⟩|⟨_,h⟩
 ·obtain⟨x,j,h⟩:=Qw h
  cases h
  unfold NN at j
  rcases Xr j with⟨_,h⟩|⟨_,h⟩<;>exact yy _ h
 cases h;exact z
def Qne {α:Type}{l:L_ α}(p:α->Bool){body:Int->O_ (Int⊕(Int⊕Unit))}(j:∀(i:Nat) x,i<l.length->l[i]? = some x->body (i:Int)=some (bif p x then .inr (.inl (i:Int))else .inl ((i+1:Nat):Int)))(h:body (l.length:Int)=some (.inr (.inr ()))):
  Qs body 0=some ((IU (λ_ x=>p x) 0 l).elim (Sum.inr ()) λi=>Sum.inl (i:Int)):=
 QmX (λi:Nat=>(i:Int)) (λ_ x=>p x) (λi=>Sum.inl (i:Int)) (Sum.inr ()) j h rfl
def QoD {α:Type}(p:α->Bool)(l:L_ α):decide (0<=(IU (λ_ x=>p x) 0 l).elim (-1:Int) λi=>(i:Int))=l.any p:=by
 cases h:IU (λ_ x=>p x) 0 l with
 | none=>
  have:=Ql1 h
  symm
  rw[show decide ((0:Int)<=(none:O_ Nat).elim (-1:Int) λi=>(i:Int))=false from rfl,List.any_eq_false]
  intro x hx
  obtain⟨i,hi⟩:=Md.1 hx
  simpa using this i x hi
 | some n=>
  obtain⟨i,x,h1,j,D⟩:=Ql0 h
  symm
  rw[show decide ((0:Int)<=(some n).elim (-1:Int) λi=>(i:Int))=true from QB (Int.natCast_nonneg n),GX]
  exact⟨x,XF j,D⟩
def Qlk {α:Type}(f:α->Bool):∀(l:L_ α) (k:Nat) (t:Bool),AN (λ(_:Nat) (t:Bool) x=>(bif t then .inl (f x)else .inr t:Bool⊕Bool)) (λt=>t) k t l=(t&&l.all f)
 | [],_,t=>by simp[AN]
 | x::l,k,t=>by
  rw[AN]
  cases t with
  | true=>rw[Qx,Sum.elim_inl,Qlk f l];simp
  | false=>rfl
def Qmc (n:Nat)(e:Qi):DD n e=Kk n e:=by
 have:∀n,DD n=Kk n:=λn=>by
  induction n with
  | zero=>rfl
  | succ n h=>
   funext e
   show Ou (DD n) e=Iu (Kk n) e
   rw[h];rfl
 rw[this]
def Qnf (n:Nat)(e:Qi):Gq n e=KQ n e:=by
 have:∀n,Gq n=KQ n:=λn=>by
  induction n with
  | zero=>rfl
  | succ n h=>
   funext e
   show Pb (Gq n) e=Mh (KQ n) e
   rw[h];rfl
 rw[this]
def Qmd {e:Qi}{j:Qi->Int->O_ Bool}{v:Int}{p:Qi->Bool}(hl:e.Kids.length<=maxLen)(h:∀k∈e.Kids,j k v=some (p k))(ok:Bool):Ka e j v ok=some (ok&&e.Kids.all p):=by
 unfold Ka
 rw[No (body:=λst=>Gr e j v st.1 st.2) (l:=e.Kids) (λi (t:Bool)=>(t,(i:Int))) (λ_ t x=>bif t then .inl (p x)else .inr t) (λt=>t) (λi t x hi D=>by
  show Gr e j v t (i:Int)=_
  unfold Gr
  rw[QB (by omega),RO]
  cases t with
  | false=>rfl
  | true=>rw[Qx,QR,D,Qd,h x (XF D),Qd,Qr hi hl];rfl) (λt=>by
  show Gr e j v t (e.Kids.length:Int)=_
  unfold Gr
  rw[QF (by omega),Pi];rfl) ok (s0:=(ok,0)) rfl,Qlk]
 rfl
def Qng {l:L_ Qi}{j:Qi->Int->O_ Bool}{v:Int}{p:Qi->Bool}(hl:l.length<=maxLen)(h:∀k∈l,j k v=some (p k)):XC j l v=some (!(l.all p)):=by
 unfold XC Jd
 rw[Qne (l:=l) (λk=>!p k) (λi x hi D=>by
  show XB l j v i=_
  unfold XB Iv
  rw[QB (by omega),Qx,QR,D,Qd,h x (XF D),Qd,Qd,Qr hi hl]
  cases p x<;>rfl) (by
  show XB l j v l.length=_
  unfold XB
  rw[QF (by omega),Qq])]
 have e:(!(l.all p))=l.any λk=>!p k:=by rw[List.all_eq_not_any_not,Bool.not_not]
 rw[e,<-QoD]
 cases IU (λ_ k=>!p k) 0 l<;>rfl
def Qhx : ∀(n:Nat) (e:Qi) (v:Int),KD e->SizeOf.sizeOf e<=n->DE n e v=Yy n e v
 | 0,e,_,_,h=>absurd e.pos (by omega)
 | n+1,e,v,he,h=>by
  have hkl:=(KO he).1
  have tot:∀k∈e.Kids,Yy n k v=some ((Yy n k v).getD false):=λk D=>by
   obtain⟨r,hr,_⟩:=Ni n k v ((KO he).2 k D) (by have:=PT D;omega)
   rw[hr];rfl
  have tot2:∀k∈e.Kids,DE n k v=some ((Yy n k v).getD false):=λk D=>by
   rw[Qhx n k v ((KO he).2 k D) (by have:=PT D;omega)];exact tot k D
  show Hn (DE n) e v=BK (Yy n) e v
  have k3:=Qmd hkl tot2
  generalize hp:(λk=>(Yy n k v).getD false)=p at *
  have c3:XC (Yy n) e.Kids v=some (!(e.Kids.all p)):=Qng hkl λk D=>by rw[<-hp];exact tot k D
  unfold Hn CG Tr Ts BK NH NI Rj HG LN Ug Uf
  rw[c3]
  simp only[k3,Qd]
  by_cases h1:e.Kind=1
  ·simp only[h1,show((1:Int)==1)=true from rfl,show((1:Int)==2)=false from rfl,show((1:Int)==5)=false from rfl,Qx,Qq,Qd,Pi]
   by_cases c:(e.Kids.length:Int)=0
   ·rw[show((e.Kids.length:Int)==0)=true by simpa using c,show((e.Kids.length:Int) != 0)=false by simpa using c];simp
   rw[show((e.Kids.length:Int)==0)=false by simpa using c,show((e.Kids.length:Int) != 0)=true by simpa using c];rfl
  by_cases h2:e.Kind=2
  ·simp only[h2,show((2:Int)==1)=false from rfl,show((2:Int)==2)=true from rfl,show((2:Int)==5)=false from rfl,Qx,Qq,Qd,RO]
   by_cases c:(e.Kids.length:Int)=0
   ·rw[show((e.Kids.length:Int)==0)=true by simpa using c,show((e.Kids.length:Int) != 0)=false by simpa using c]
    by_cases d:0<=e.Num
    ·by_cases f:e.Num<v
     ·rw[QB d,QB f,QF (by omega:¬e.Num<0),QF (by omega:¬v<=e.Num)];simp
     rw[QB d,QF f,QF (by omega:¬e.Num<0),QB (by omega:v<=e.Num)];simp
    rw[QF d,QB (by omega:e.Num<0)];simp
   rw[show((e.Kids.length:Int)==0)=false by simpa using c,show((e.Kids.length:Int) != 0)=true by simpa using c];simp
  have b1:(e.Kind==1)=false:=by simpa using h1
  have b2:(e.Kind==2)=false:=by simpa using h2
  simp only[b1,b2,Qq,Pi]
  have j:∀(m:Int) (q:Bool),((bif ((e.Kids.length:Int) != m)then some false else(bif q then some false else some (!(!(e.Kids.all p))))):O_ Bool)=some ((((e.Kids.length:Int)==m)&&!q)&&e.Kids.all p):=λm q=>by
   by_cases c:(e.Kids.length:Int)=m
   ·rw[show((e.Kids.length:Int)==m)=true by simpa using c,show((e.Kids.length:Int) != m)=false by simpa using c];cases q<;>simp
   rw[show((e.Kids.length:Int)==m)=false by simpa using c,show((e.Kids.length:Int) != m)=true by simpa using c];rfl
  have neg:((e.Kids.length:Int) != -1)=true:=by simp
  by_cases h3:e.Kind=3
  ·have:=j 1 false
   simp only[h3,show((3:Int)==3)=true from rfl,show((3:Int)==5)=false from rfl,Qx,Qq,Qd]at this ⊢
   rw[this];simp
  by_cases h4:e.Kind=4
  ·have:=j 1 false
   simp only[h4,show((4:Int)==3)=false from rfl,show((4:Int)==4)=true from rfl,show((4:Int)==5)=false from rfl,Qx,Qq,Qd]at this ⊢
   rw[this];simp
  have b3:(e.Kind==3)=false:=by simpa using h3
  have b4:(e.Kind==4)=false:=by simpa using h4
  simp only[b3,b4,Qq]
  by_cases h5:e.Kind=5
  ·have:=j 2 (!((decide (1<=e.Num))&&(decide (e.Num<=11))))
   simp only[h5,show((5:Int)==5)=true from rfl,Qx,Qq,Qd]at this ⊢
   rw[this]
   cases ((e.Kids.length:Int)==2)<;>simp
  have b5:(e.Kind==5)=false:=by simpa using h5
  simp only[b5,Qq]
  by_cases h6:e.Kind=6
  ·have:=j 3 false
   simp only[h6,show((6:Int)==6)=true from rfl,Qx,Qq,Qd]at this ⊢
   rw[this];simp
  have b6:(e.Kind==6)=false:=by simpa using h6
  simp only[b6,Qq,Qd,neg,Qx,Pi]
def Qme (e:Qi)(v:Int)(h:KD e):Ms e v=GP e v:=by
 unfold Ms GP Tt NK Ri NG Tq Pq Rk NJ
 rw[Qmc,Qnf,Qhx _ e v h (JE _)]
 rfl
inductive RE : Qi->Prop where
 | mk (e:Qi):Xy e.Num->(∀k∈e.Kids,RE k)->RE e
def QiY : ∀(n:Nat) (v:L_ Int) (e:Qi),VZ v.length e->RE e->(∀x∈v,Xy x)->SizeOf.sizeOf e<=n->∃r,Xx n v e=some r/\Gs n e v=some r/\Xy r.1
 | 0,_,e,_,_,_,h=>absurd e.pos (by omega)
 | n+1,v,e,he,hr,hv,h=>by
  cases he with
  | mk _ hk h2 h3 h5 h6 hp=>
  cases hr with
  | mk _ hnum hkr=>
  have z:Xy 0:=by unfold Xy;omega
  have o:Xy 1:=by unfold Xy;omega
  have sub:∀(j:Nat) (hj:j<e.Kids.length),∃r,Xx n v (e.Kids[j])=some r/\Gs n (e.Kids[j]) v=some r/\Xy r.1:=λj hj=>
   QiY n v _ (hp _ (Xs hj)) (hkr _ (Xs hj)) hv (by have:=PT (Xs hj);omega)
  have kid:∀(j:Nat) (hj:j<e.Kids.length),idx e.Kids (j:Int)=some e.Kids[j]:=λj hj=>by rw[QR,Qy hj]
  show ∃r,EF (Xx n) v e=some r/\IR (Gs n) e v=some r/\Xy r.1
  unfold EF IR Kr JM
  by_cases k1:e.Kind=1
  ·rw[k1]
   exact⟨(e.Num,0),rfl,rfl,hnum⟩
  by_cases k2:e.Kind=2
  ·have hh:=h2 k2
   have hx:idx v e.Num=some (v[e.Num.toNat]'(by omega)):=LY hh.1 hh.2
   rw[k2]
   refine⟨(v[e.Num.toNat]'(by omega),0),?_,?_,hv _ (Xs _)⟩
   ·show(WX e v)=_
    unfold WX UK
    rw[hx];rfl
   show(idx v e.Num).bind _=_
   rw[hx];rfl
  have b1:(e.Kind==1)=false:=by simpa using k1
  have b2:(e.Kind==2)=false:=by simpa using k2
  have l1:1<=e.Kids.length:=by
   by_cases k3:e.Kind=3\/e.Kind=4
   ·have:=h3 k3;omega
   by_cases k5:e.Kind=5
   ·have:=h5 k5;omega
   have:=h6 (by omega);omega
  obtain⟨a,a1,a2,a3⟩:=sub 0 (by omega)
  have D:idx e.Kids 0=some (e.Kids[0]'(by omega)):=kid 0 (by omega)
  rw[b1,b2]
  simp only[Qq,D,Qd,a2]
  by_cases k34:e.Kind=3\/e.Kind=4
  ·have ed:((bif e.Kind==3 then bif e.Kind==3 then some (.inr (.inr (.inl v)))else bif e.Kind==5 then some (.inr (.inr (.inr (.inl v))))else some (.inr (.inr (.inr (.inr v))))else bif e.Kind==4 then some (.inr (.inr (.inl v)))else bif e.Kind==5 then some (.inr (.inr (.inr (.inl v))))else some (.inr (.inr (.inr (.inr v))))):O_ ((L_ Int)⊕((L_ Int)⊕((L_ Int)⊕((L_ Int)⊕(L_ Int))))))=some (.inr (.inr (.inl v))):=by
    rcases k34 with k | k<;>rw[k]<;>rfl
   rw[ed]
   show ∃r,JN (Xx n) e v=some r/\_
   unfold JN EE
   rw[D,Qd,a1,Qd]
   cases hz:(a.2 != 0)with
   | true=>exact⟨(0,a.2),rfl,rfl,z⟩
   | false=>
    simp only[Qq]
    rcases k34 with k | k
    ·rw[k]
     simp only[show((3:Int)==3)=true from rfl,Qx]
     unfold NP
     rw[Qnd z a3]
     have hd:=Bg 2 0 a.1
     obtain⟨d,hd,_⟩:=hd
     rw[hd]
     exact⟨d,rfl,rfl,QoC z a3 hd⟩
    rw[k]
    simp only[show((4:Int)==3)=false from rfl,show((4:Int)==4)=true from rfl,Qx,Qq]
    by_cases c:a.1=0
    ·rw[c];exact⟨(1,0),rfl,rfl,o⟩
    have:(a.1==0)=false:=by simpa using c
    rw[this]
    refine⟨(0,0),?_,rfl,z⟩
    show(((Jy (a.1==0)).bind _).bind _).bind _=_
    rw[this];rfl
  have n3:¬e.Kind=3:=λk=>k34 (.inl k)
  have n4:¬e.Kind=4:=λk=>k34 (.inr k)
  have b3:(e.Kind==3)=false:=by simpa using n3
  have b4:(e.Kind==4)=false:=by simpa using n4
  rw[b3,b4]
  simp only[Qq]
  by_cases k5:e.Kind=5
  ·have hl:=h5 k5
   obtain⟨b,c1,c2,c3⟩:=sub 1 (by omega)
   have kid1:idx e.Kids 1=some (e.Kids[1]'(by omega)):=kid 1 (by omega)
   rw[k5]
   show ∃r,WY (Xx n) e v=some r/\_
   unfold WY Iw Wi
   simp only[D,kid1,Qd,a1,c1,c2,show((5:Int)==6)=false from rfl,Qq]
   cases hz:(a.2 != 0)with
   | true=>exact⟨(0,a.2),rfl,rfl,z⟩
   | false=>
    simp only[Qq]
    cases hq:((e.Num==10)&&(a.1==0))with
    | true=>
     have:a.1=0:=by simp at hq;exact hq.2
     rw[this];exact⟨(0,0),rfl,rfl,z⟩
    | false=>
     simp only[Qq]
     have rest:∃r,((bif (b.2 != 0)then some (0,b.2)else(Js e.Num a.1 b.1).bind λx16=>some (x16.1,x16.2)):O_ (Int×Int))=some r/\((bif (b.2 != 0)then some (0,b.2)else(WK e.Num a.1 b.1).bind λx16=>some (x16.1,x16.2)):O_ (Int×Int))=some r/\Xy r.1:=by
      rw[Qnd a3 c3]
      obtain⟨d,hd,_⟩:=Bg e.Num a.1 b.1
      rw[hd]
      cases (b.2 != 0)with
      | true=>exact⟨(0,b.2),rfl,rfl,z⟩
      | false=>exact⟨d,rfl,rfl,QoC a3 c3 hd⟩
     obtain⟨r,r1,r2,r3⟩:=rest
     cases h11:(e.Num==11)with
     | false=>
      simp only[Qq,Pi]
      exact⟨r,by rw[r1];rfl,r2,r3⟩
     | true=>
      simp only[Qx,RO]
      cases ha:(a.1 != 0)with
      | true=>
       refine⟨(1,0),?_,rfl,o⟩
       simp only[Qx]
       show(((Jy (a.1 != 0)).bind _).bind _).bind _=_
       rw[ha];rfl
      | false=>
       simp only[Qq]
       exact⟨r,by rw[r1];rfl,r2,r3⟩
  have k6:e.Kind=6:=by omega
  have hl:=h6 k6
  obtain⟨b,c1,c2,c3⟩:=sub 1 (by omega)
  obtain⟨d,d1,d2,d3⟩:=sub 2 (by omega)
  have kid1:idx e.Kids 1=some (e.Kids[1]'(by omega)):=kid 1 (by omega)
  have kid2:idx e.Kids 2=some (e.Kids[2]'(by omega)):=kid 2 (by omega)
  rw[k6]
  show ∃r,WZ (Xx n) e v=some r/\_
  unfold WZ Bo
  simp only[D,kid1,kid2,Qd,a1,c1,c2,d1,d2,show((6:Int)==6)=true from rfl,Qx]
  cases hz:(a.2 != 0)with
  | true=>exact⟨(0,a.2),rfl,rfl,z⟩
  | false=>
   simp only[Qq]
   cases (a.1 != 0)with
   | true=>exact⟨b,rfl,rfl,c3⟩
   | false=>exact⟨d,rfl,rfl,d3⟩
def QiZ {e:Qi}{v:L_ Int}(h:KD e)(hr:RE e)(hv:∀x∈v,Xy x):∃r,AV e v=some r/\HV e v=some r/\Xy r.1:=by
 unfold AV HV FV Tu
 rw[Qme e _ h]
 obtain⟨b,D,j⟩:=IZ e v.length h
 rw[D,Qd,Qd]
 cases b with
 | false=>exact⟨(0,1),rfl,rfl,by unfold Xy;decide⟩
 | true=>
  obtain⟨r,r1,r2,r3⟩:=QiY _ v e (j rfl) hr hv (JE _)
  rw[r1,r2]
  exact⟨r,rfl,rfl,r3⟩
def TS {σ τ ρ π:Type}{b1:σ->O_ (σ⊕ρ)}{b2:τ->O_ (τ⊕π)}(n:Nat)(I:Nat->σ->τ->Prop)(j:ρ->π->Prop)
  (D:∀i s t,i<=n->I i s t->(i<n/\∃s' t',b1 s=some (.inl s')/\b2 t=some (.inl t')/\I (i+1) s' t')\/∃r q,b1 s=some (.inr r)/\b2 t=some (.inr q)/\j r q):∀s t,I 0 s t->∃r q,Qs b1 s=some r/\Qs b2 t=some q/\j r q:=by
 have key:∀k i s t,i+k=n->I i s t->∃r q,Qs b1 s=some r/\Qs b2 t=some q/\j r q:=by
  intro k
  induction k with
  | zero=>
   intro i s t hk hI
   rcases D i s t (by omega) hI with⟨h,_⟩|⟨r,q,h1,h2,h3⟩
   ·omega
   exact⟨r,q,by rw[Yz,h1];rfl,by rw[Yz,h2];rfl,h3⟩
  | succ k ih=>
   intro i s t hk hI
   rcases D i s t (by omega) hI with⟨_,s',t',h1,h2,h3⟩|⟨r,q,h1,h2,h3⟩
   ·obtain⟨r,q,e1,e2,e3⟩:=ih (i+1) s' t' (by omega) h3
    exact⟨r,q,by rw[Yz,h1];exact e1,by rw[Yz,h2];exact e2,e3⟩
   exact⟨r,q,by rw[Yz,h1];rfl,by rw[Yz,h2];rfl,h3⟩
 exact λs t h=>key n 0 s t (by omega) h
def Qc1 {a b:ByteArray}:JF a b=true↔a=b:=by
 unfold JF
 rw[beq_iff_eq,ByteArray.toList_eq,ByteArray.toList_eq]
 exact⟨λh=>ByteArray.ext (Array.toList_inj.1 h),λh=>by rw[h]⟩
def Qku (a b:ByteArray):JF a b=decide (a=b):=by
 by_cases h:a=b
 ·rw[QB h];exact Qc1.2 h
 rw[QF h,<-FN,Qc1];exact h
def Qi0 (s:ByteArray):HU s=WF s:=by
 have e0:decide ((s.size:Int)<1)=JF s (⟨#[]⟩:ByteArray):=by
  rw[Qku]
  apply decide_eq_decide.2
  constructor
  ·intro h
   obtain⟨a⟩:=s
   have:a=#[]:=Qlq (by have h:((a.size:Nat):Int)<1:=h;omega)
   rw[this]
  intro h;subst h;decide
 have g1:Oq s=Cq s:=by
  unfold Oq Cq
  rw[e0];rfl
 have l4:∀i,Hm s i=Gh s i:=λi=>by
  unfold Hm Gh VH
  cases h:sidx s i with
  | none=>rfl
  | some c=>
   simp only[Qd]
   congr 1
   unfold MC IP Ed Rh VI ME
   simp only[Qd]
   generalize (bif (decide (97<=c))then((decide (c<=122))||((decide (65<=c))&&(decide (c<=90))))else((decide (65<=c))&&(decide (c<=90))))=q
   cases q with
   | true=>rfl
   | false=>
    by_cases j:c<48
    ·rw[QB j,QF (by omega:¬48<=c)];rfl
    rw[QF j,QB (by omega:48<=c)]
    by_cases D:57<c
    ·rw[QB D,QF (by omega:¬c<=57)];rfl
    rw[QF D,QB (by omega:c<=57)];rfl
 unfold HU WF VJ MH
 rw[g1,show(λst=>Hm s st)=λst=>Gh s st from funext l4]
 rfl
def QiB {α:Type}(f:α->Bool):∀(l:L_ α) (k:Nat) (t:Bool),AN (λ(_:Nat) (t:Bool) x=>(.inl (t&&f x):Bool⊕Bool)) (λt=>t) k t l=(t&&l.all f)
 | [],_,t=>by simp[AN]
 | x::l,k,t=>by rw[AN,Sum.elim_inl,QiB f l];simp[Bool.and_assoc]
def Had (m:L_ (ByteArray×Bool))(l:L_ ByteArray):Prop:=∀k,(QW m k).getD false=l.any λe=>JF e k
def Had.add {m:L_ (ByteArray×Bool)}{l:L_ ByteArray}(h:Had m l)(x:ByteArray):Had (Ja Rm m x true) (l++[x]):=λk=>by
 rw[AM,List.any_append,<-h k]
 by_cases e:k=x
 ·subst e
  rw[if_pos rfl]
  have:JF k k=true:=Qc1.2 rfl
  simp[this]
 rw[if_neg e]
 have:JF x k=false:=by rw[Qku];exact QF λh=>e h.symm
 simp[this]
def Qmf {l:L_ ByteArray}(h:QO Es l):∃b,Ue l=some b/\Mq l=some b:=by
 have nm:∀x∈l,∃b,WF x=some b:=λx hx=>(AO x (h.2 x hx)).tot
 obtain⟨r,q,e1,e2,e3⟩:=TS (b1:=λst:Int×L_ (ByteArray×Bool)=>We l st.1 st.2) (b2:=λst:Int=>UA l st) l.length (λi s t=>s.1=(i:Int)/\t=(i:Int)/\Had s.2 (l.take i)) (λr q=>r=q) (λi s t hi hI=>by
  obtain⟨a,m⟩:=s
  obtain⟨h1,h2,h3⟩:=hI
  replace h1:a=(i:Int):=h1
  subst h1 h2
  replace h3:Had m (l.take i):=h3
  show(i<l.length/\∃s' t',We l i m=_/\UA l i=_/\_)\/∃r q,We l i m=_/\UA l i=_/\_
  unfold We UA Lh Li
  by_cases j:i<l.length
  ·have hx:l[i]? = some l[i]:=Qy j
   obtain⟨b,hb⟩:=nm _ (Xs j)
   have il:=No (body:=λst:Bool×Int=>Gn i l st.1 st.2) (l:=l.take i) (λk (t:Bool)=>(t,(k:Int))) (λ_ t e=>.inl (t&&!JF e l[i])) (λt=>t) (λk t x hk D=>by
    rw[Wm]at hk
    have D:l[k]? = some x:=by rw[JQ,if_pos (by omega)]at D;exact D
    show Gn i l t (k:Int)=_
    unfold Gn Tk Tl
    rw[QB (by omega),Qx,QR,D,QR,hx,Qr j h.1 |> λ_=>Qr (show k<l.length by omega) h.1]
    cases t<;>rfl) (λt=>by
    show Gn i l t ((l.take i).length:Int)=_
    unfold Gn
    rw[Wm,QF (by omega)];rfl) b (s0:=(b,0)) rfl
   rw[QiB]at il
   rw[QB (show(i:Int)<(l.length:Int) by omega),Qx,Qx,QR,hx,Qd,Qd,Qi0,hb,Qd,Qd,il,Qd,Qr j h.1]
   unfold Tm
   rw[h3 l[i],Qr j h.1]
   have ea:(l.take i).all (λe=>!JF e l[i])=!((l.take i).any λe=>JF e l[i]):=by rw[List.not_any_eq_all_not]
   rw[ea]
   cases b with
   | false=>right;exact⟨_,_,rfl,rfl,rfl⟩
   | true=>
    cases hq:(l.take i).any λe=>JF e l[i]with
    | true=>right;exact⟨_,_,rfl,rfl,rfl⟩
    | false=>
     left
     refine⟨j,_,_,rfl,rfl,rfl,rfl,?_⟩
     rw[GZ,hx]
     exact h3.add _
  right
  rw[QF (show ¬(i:Int)<(l.length:Int) by omega)]
  exact⟨_,_,rfl,rfl,rfl⟩) (0,[]) 0 ⟨rfl,rfl,λk=>rfl⟩
 subst e3
 unfold Ue Mq
 rw[e1,e2]
 rcases r with r | r
 ·exact⟨false,rfl,rfl⟩
 exact⟨true,rfl,rfl⟩
structure Qc2 (c:QM) (s:Int):Prop where
 b:1<=s/\s<=1024
 i:c.Kind=1->c.Lo<=c.Hi/\s=c.Hi-c.Lo+1
def IC (c:QM):Prop:=Xy c.Lo/\Xy c.Hi
def Qo1 {D j:Int}(hl:Xy D)(hh:Xy j):Ag D j=some (if j<D then 0 else if j-D<1024 then j-D+1 else 1025):=by
 unfold Ag
 by_cases h:j<D
 ·rw[QB h,if_pos h];rfl
 rw[QF h,if_neg h,Qq]
 have e:IntKind.u64.wrap (IntKind.u64.wrap j-IntKind.u64.wrap D)=j-D:=by
  rw[Sj,Sj,Sj];unfold Xy at *;omega
 rw[e]
 unfold min2
 by_cases h2:j-D<1024
 ·rw[if_pos h2]
  by_cases h3:1024<j-D
  ·omega
  rw[if_neg h3,Xv (n:=j-D) (by omega),Xv (by omega)]
 rw[if_neg h2]
 split
 ·rfl
 have:j-D=1024:=by omega
 rw[this];rfl
def Ib (n:Int):Bool:=decide (n<1)||decide (1024<n)
def Qll {n:Int}(h:Ib n=false):1<=n/\n<=1024:=by
 unfold Ib at h
 simp only[Kn,QV]at h
 omega
def Qp8 {c:QM}{out:L_ Int}{i:Nat}(hc:IC c)(hN:QO Es c.Names)(ho:out.length=i):∃n n',Ah c out=some n/\(∀ok,MX c out (i:Int) ok=Jm ok out i n')/\((n'=n/\(Ib n=false->Qc2 c n))\/(Ib n=true/\Ib n'=true)):=by
 unfold Ah MX
 have z:Ib 0=true:=rfl
 by_cases k1:c.Kind=1
 ·rw[show(c.Kind==1)=true by simpa using k1]
  simp only[Qx]
  rw[Qo1 hc.1 hc.2,Qd]
  obtain⟨c1,c2⟩:=hc
  unfold Xy at c1 c2
  by_cases a1:c.Hi<c.Lo
  ·rw[if_pos a1,QF (by omega:¬c.Lo<=c.Hi),Pi]
   exact⟨0,0,rfl,λ_=>rfl,.inr ⟨z,z⟩⟩
  rw[if_neg a1,QB (by omega:c.Lo<=c.Hi),RO]
  by_cases a2:0<=c.Lo\/c.Hi<c.Lo+1024
  ·have j:(decide (0<=c.Lo)||decide (c.Hi<Qj (c.Lo+1024)))=true:=by
    by_cases a3:0<=c.Lo
    ·rw[QB a3,Bool.true_or]
    rw[Xv (by omega),QB (by omega:c.Hi<c.Lo+1024),Bool.or_true]
   rw[j]
   simp only[Qx]
   have e1:Qj (c.Hi-c.Lo)=c.Hi-c.Lo:=Xv (by omega)
   rw[e1]
   unfold min2
   by_cases a4:c.Hi-c.Lo<1024
   ·rw[if_pos a4,if_neg (by omega:¬1024<c.Hi-c.Lo),Xv (by omega)]
    exact⟨_,_,rfl,λ_=>rfl,.inl ⟨rfl,λD=>⟨Qll D,λ_=>⟨by omega,rfl⟩⟩⟩⟩
   rw[if_neg a4]
   refine⟨_,_,rfl,λ_=>rfl,.inr ⟨rfl,?_⟩⟩
   have:(if (1024:Int)<c.Hi-c.Lo then 1024 else c.Hi-c.Lo)=1024:=by split<;>omega
   rw[this];rfl
  rw[QF (by omega:¬0<=c.Lo),RM,Xv (by omega),QF (by omega:¬c.Hi<c.Lo+1024),if_neg (by omega)]
  exact⟨_,_,rfl,λ_=>rfl,.inr ⟨rfl,z⟩⟩
 rw[show(c.Kind==1)=false by simpa using k1]
 simp only[Qq]
 have nk:∀n,Ib n=false->Qc2 c n:=λn D=>⟨Qll D,λh=>absurd h k1⟩
 by_cases k2:c.Kind=2
 ·rw[show(c.Kind==2)=true by simpa using k2]
  simp only[Qx]
  obtain⟨b,b1,b2⟩:=Qmf hN
  rw[b1,b2]
  cases b with
  | true=>exact⟨_,_,rfl,λ_=>rfl,.inl ⟨rfl,nk _⟩⟩
  | false=>exact⟨0,0,rfl,λ_=>rfl,.inr ⟨z,z⟩⟩
 rw[show(c.Kind==2)=false by simpa using k2]
 simp only[Qq]
 by_cases k3:c.Kind=3
 ·rw[show(c.Kind==3)=true by simpa using k3]
  simp only[Qx]
  have j:((decide (0<=min2 c.First c.Then))&&(decide (max2 c.First c.Then<(out.length:Int))))=((decide (0<=c.First))&&((decide (c.First<(i:Int)))&&((decide (0<=c.Then))&&(decide (c.Then<(i:Int)))))):=by
   apply Vf.2
   simp only[QH,QC,IV,IW,ho]
   omega
  rw[j]
  cases hq:((decide (0<=c.First))&&((decide (c.First<(i:Int)))&&((decide (0<=c.Then))&&(decide (c.Then<(i:Int))))))with
  | false=>exact⟨0,0,rfl,λ_=>rfl,.inr ⟨z,z⟩⟩
  | true=>
   simp only[QH,QC]at hq
   simp only[Qx]
   rw[LY hq.1 (by omega),LY hq.2.2.1 (by omega)]
   exact⟨_,_,rfl,λ_=>rfl,.inl ⟨rfl,nk _⟩⟩
 rw[show(c.Kind==3)=false by simpa using k3]
 exact⟨0,0,rfl,λ_=>rfl,.inr ⟨z,z⟩⟩
def Qmg {l:L_ QM}(h:QO YJ l)(hc:∀c∈l,IC c):∃x b,Gi l=some (x,b)/\Mr l=some x/\(b=false->x=[])/\(b=true->x.length=l.length/\∀(j:Nat) c s,l[j]? = some c->x[j]? = some s->Qc2 c s):=by
 unfold Gi Mr
 by_cases h32:32<l.length
 ·rw[QB (show(32:Int)<(l.length:Int) by omega)]
  exact⟨[],false,rfl,rfl,λ_=>rfl,λh=>by cases h⟩
 rw[QF (show ¬(32:Int)<(l.length:Int) by omega),Qq,Qq]
 have hm:(2048:Nat)<=maxLen:=by decide
 obtain⟨r,q,e1,e2,e3⟩:=TS (b1:=λst:Int×L_ (ByteArray×Bool)×L_ Int=>Wf l st.1 st.2.1 st.2.2) (b2:=λst:Int×L_ Int=>UB l st.1 st.2) l.length
  (λi s t=>s.1=(i:Int)/\t=((i:Int),s.2.2)/\Had s.2.1 ((l.take i).map QM.Name)/\s.2.2.length=i/\∀(j:Nat) c z,l[j]? = some c->s.2.2[j]? = some z->Qc2 c z)
  (λr q=>r=q/\∀x,r=.inr x->x.length=l.length/\∀(j:Nat) c z,l[j]? = some c->x[j]? = some z->Qc2 c z) (λi s t hi hI=>by
  obtain⟨a,m,out⟩:=s
  obtain⟨h1,h2,h3,h4,h5⟩:=hI
  replace h1:a=(i:Int):=h1
  subst h1 h2
  replace h3:Had m ((l.take i).map QM.Name):=h3
  replace h4:out.length=i:=h4
  replace h5:∀(j:Nat) c z,l[j]? = some c->out[j]? = some z->Qc2 c z:=h5
  show(i<l.length/\∃s' t',Wf l i m out=_/\UB l i out=_/\_)\/∃r q,Wf l i m out=_/\UB l i out=_/\_
  unfold Wf UB Ll Lm
  by_cases D:i<l.length
  ·have hx:l[i]? = some l[i]:=Qy D
   have hmem:=Xs D
   obtain⟨b,hb,_⟩:=AO l[i].Name (h.2 _ hmem).1
   have il:=No (body:=λst:Bool×Int=>Gp i l l[i] st.1 st.2) (l:=l.take i) (λk (t:Bool)=>(t,(k:Int))) (λ_ t e=>.inl (t&&!JF e.Name l[i].Name)) (λt=>t) (λk t x hk hkx=>by
    rw[Wm]at hk
    have hkx:l[k]? = some x:=by rw[JQ,if_pos (by omega)]at hkx;exact hkx
    show Gp i l l[i] t (k:Int)=_
    unfold Gp Tn Tp
    rw[QB (by omega),Qx,QR,hkx,Qr (show k<l.length by omega) h.1]
    cases t<;>rfl) (λt=>by
    show Gp i l l[i] t ((l.take i).length:Int)=_
    unfold Gp
    rw[Wm,QF (by omega)];rfl) b (s0:=(b,0)) rfl
   rw[QiB]at il
   rw[QB (show(i:Int)<(l.length:Int) by omega),Qx,Qx,QR,hx,Qd,Qd,Qi0,hb]
   have ea:(l.take i).all (λe=>!JF e.Name l[i].Name)=!(((l.take i).map QM.Name).any λe=>JF e l[i].Name):=by rw[List.any_map,List.not_any_eq_all_not];rfl
   generalize hq:((l.take i).map QM.Name).any (λe=>JF e l[i].Name)=had
   obtain⟨n,n',s1,s2,s3⟩:=Qp8 (i:=i) (hc _ hmem) (h.2 _ hmem).2.2.2.2.1 h4
   rw[s1]
   simp only[Qd]
   rw[il]
   simp only[Qd]
   rw[h3 l[i].Name,ea,hq,s2]
   unfold Jm
   have hbs:∀n,((decide (n<1))||(decide (1024<n)))=Ib n:=λ_=>rfl
   rw[hbs]
   have ebad:((bif !b then some true else bif had then some true else bif decide (n<1)then some true else some (decide (1024<n))):O_ Bool)=some (!b||(had||Ib n)):=by
    unfold Ib
    cases b<;>cases had<;>cases decide (n<1)<;>rfl
   rw[ebad,Qd]
   have stop:∀n n':Int,Ib n'=true\/(b&&!had)=false->(!b||(had||Ib n))=true->∃(r:Unit⊕L_ Int) (q:Unit⊕L_ Int),((bif (!b||(had||Ib n))then some (.inr (.inl ()))else(chk (decide (out.length+[n].length<=4294967296))).bind λ_=>some (.inl (Qj ((i:Int)+1),Ja Rm m l[i].Name true,out++[n]))):O_ ((Int×L_ (ByteArray×Bool)×L_ Int)⊕(Unit⊕L_ Int)))=some (.inr r)/\((bif (!(b&&!had)||Ib n')then some (.inr (.inl ()))else(chk (decide (out.length+[n'].length<=4294967296))).bind λ_=>some (.inl (Qj ((i:Int)+1),out++[n']))):O_ ((Int×L_ Int)⊕(Unit⊕L_ Int)))=some (.inr q)/\r=q/\∀x,r=.inr x->x.length=l.length/\∀(j:Nat) c z,l[j]? = some c->x[j]? = some z->Qc2 c z:=λn n' h1 h2=>by
    refine⟨.inl (),.inl (),by rw[h2];rfl,?_,rfl,λx hx=>by cases hx⟩
    rcases h1 with h1 | h1<;>rw[h1]<;>simp
   by_cases hg:b=true/\had=false/\Ib n=false
   ·obtain⟨g1,g2,g3⟩:=hg
    rcases s3 with⟨s4,s5⟩|⟨s4,_⟩
    ·subst s4 g1 g2
     rw[g3]
     simp only[DW,Bool.not_false,Bool.and_true,Vh,Qq]
     left
     rw[GJ (by simp;omega),Qd,Qd]
     refine⟨D,_,_,rfl,rfl,Qr D h.1,by rw[Qr D h.1],?_,by simp;omega,λj c z hj hz=>?_⟩
     ·rw[GZ,hx,List.map_append]
      exact h3.add _
     replace hz:(out++[n'])[j]? = some z:=hz
     by_cases hjl:j<out.length
     ·rw[YY hjl]at hz
      exact h5 j c z hj hz
     rw[Ko (by omega)]at hz
     have:j=i:=by
      have:=(Xe.1 hz).1
      simp at this;omega
     subst this
     rw[hx]at hj
     cases hj
     rw[h4,Nat.sub_self]at hz
     cases hz
     exact s5 g3
    rw[g3]at s4;cases s4
   right
   refine stop n n' ?_ ?_
   ·rcases s3 with⟨s4,_⟩|⟨_,s4⟩
    ·subst s4
     cases b<;>cases had<;>cases hb2:Ib n'<;>simp_all
    exact .inl s4
   cases b<;>cases had<;>cases hb2:Ib n<;>simp_all
  right
  rw[QF (show ¬(i:Int)<(l.length:Int) by omega)]
  exact⟨_,_,rfl,rfl,rfl,λx hx=>by cases hx;exact⟨by show out.length=_;omega,h5⟩⟩) (0,[],[]) (0,[]) ⟨rfl,rfl,λk=>rfl,rfl,λj c z _ h=>by simp at h⟩
 obtain⟨e3,e4⟩:=e3
 subst e3
 rw[e1,e2]
 rcases r with r | r
 ·exact⟨[],false,rfl,rfl,λ_=>rfl,λh=>by cases h⟩
 exact⟨r,true,rfl,rfl,(λh=>by cases h),λ_=>e4 r rfl⟩
def QiC {l:L_ QM}(h:QO YJ l)(hc:∀c∈l,IC c)(k:Int):
  (GT l k=some 0/\∃x,Ww l k=some (false,x))\/
  ∃c x s,l[k.toNat]? = some c/\0<=k/\k.toNat<l.length/\x[k.toNat]? = some s/\Qc2 c s/\GT l k=some s/\Ww l k=some (true,XZ.mk l x k):=by
 obtain⟨x,b,h1,h2,h3,h4⟩:=Qmg h hc
 unfold GT Ww
 rw[h1,h2,Qd,Qd]
 cases b with
 | false=>
  rw[h3 rfl]
  refine .inl ⟨?_,_,rfl⟩
  have:((decide (k<0))||(decide ((([]:L_ Int).length:Int)<=k)))=true:=by simp;omega
  rw[this];rfl
 | true=>
  obtain⟨h5,h6⟩:=h4 rfl
  rw[h5]
  cases hq:((decide (k<0))||(decide ((l.length:Int)<=k)))with
  | true=>exact .inl ⟨rfl,_,rfl⟩
  | false=>
   simp only[Kn,QV]at hq
   have D:l[k.toNat]? = some (l[k.toNat]'(by omega)):=Qy (by omega)
   have j:x[k.toNat]? = some (x[k.toNat]'(by omega)):=Qy (by omega)
   exact .inr ⟨_,x,_,D,by omega,by omega,j,h6 _ _ _ D j,by rw[Qq,Wu (by omega),j];rfl,rfl⟩
def Qnh {l:L_ QM}(h:QO YJ l)(hc:∀c∈l,IC c)(k:Int):GT l k=Yl l k:=by
 unfold Yl
 rcases QiC h hc k with⟨j,x,D⟩|⟨c,x,s,h1,h2,h3,h4,h5,j,D⟩
 ·rw[j,D];rfl
 rw[j,D,Qd]
 show some s=(idx x k).bind _
 rw[Wu h2,h4];rfl
def Qkv {l:L_ QM}{x:L_ Int}{k s:Int}(j:0<=k)(D:x[k.toNat]? = some s)(m:Int):JT (XZ.mk l x k) m=some (decide (0<=m)&&decide (m<s)):=by
 unfold JT Ga OI
 by_cases h:0<=m
 ·rw[QB h,Qx,RO]
  show((idx x k).bind _).bind _=_
  rw[Wu j,D];rfl
 rw[QF h];rfl
def Qni {l:L_ QM}{x:L_ Int}{k:Int}{c:QM}(h:0<=k)(j:l[k.toNat]? = some c):Jr (XZ.mk l x k)=some c:=by
 unfold Jr
 show(idx l k).bind _=_
 rw[Wu h,j];rfl
def Qk6 {l:L_ QM}(h:QO YJ l)(hc:∀c∈l,IC c)(k m:Int):∃r,Wn l k m=some r/\IQ l k m=some r/\Xy r.1:=by
 have z:Xy 0:=by unfold Xy;omega
 unfold Wn IQ Rx Ry Ax Ay
 rcases QiC h hc k with⟨D,x,e2⟩|⟨c,x,s,h1,h2,h3,h4,h5,D,e2⟩
 ·rw[D,e2,Qd,Qd]
  refine⟨(0,false),rfl,?_,z⟩
  by_cases j:m<0
  ·rw[QB j];rfl
  rw[QF j,Qq,Qd,QB (by omega:0<=m)];rfl
 rw[D,e2,Qd,Qd]
 simp only[DW,Qq]
 rw[Qkv h2 h4,Qd,Qd]
 have e3:(bif decide (m<0)then some true else some (decide (s<=m)):O_ Bool)=some (!(decide (0<=m)&&decide (m<s))):=by
  by_cases j:m<0
  ·rw[QB j,QF (by omega:¬0<=m)];rfl
  rw[QF j,QB (by omega:0<=m)]
  by_cases hs:s<=m
  ·rw[QB hs,QF (by omega:¬m<s)];rfl
  rw[QF hs,QB (by omega:m<s)];rfl
 rw[e3,Qd,Wu h2,h1]
 cases hq:(!(decide (0<=m)&&decide (m<s)))with
 | true=>exact⟨(0,false),rfl,rfl,z⟩
 | false=>
  simp only[Bj,QH,QC]at hq
  have hb:=h5.b
  rw[Qni h2 h1,Qd,Qd,Qq]
  cases (c.Kind==1)with
  | true=>exact⟨_,rfl,rfl,QjF _⟩
  | false=>exact⟨_,rfl,rfl,by unfold Xy;omega⟩
def Qf2 {s first n:Int}(hs:s<=1024)(hf:Xy first)(hl:first+s-1<=9223372036854775807):DL s n first=some (bif (decide (0<=n-first)&&decide (n-first<s))then(n-first,true)else(0,false)):=by
 unfold DL
 unfold Xy at hf
 have hm:(2048:Nat)<=maxLen:=by decide
 obtain⟨r,hr,h1⟩:=Nn (body:=λst:Int=>Wj s first n st) s.toNat (λi st=>st=(i:Int)/\∀j:Nat,j<i->first+j≠n) (λr=>r=bif (decide (0<=n-first)&&decide (n-first<s))then .inl (n-first)else .inr ()) (λi st hi h=>by
  obtain⟨rfl,h⟩:=h
  show(∃s',Wj s first n i=_/\_)\/∃r,Wj s first n i=_/\_
  unfold Wj
  rw[QB (by omega),Qx,Xv (n:=first+i) (by omega)]
  by_cases e:first+i=n
  ·right
   rw[show(first+(i:Int)==n)=true by simpa using e,Qx]
   refine⟨_,rfl,?_⟩
   rw[QB (by omega),QB (by omega),show n-first=(i:Int) by omega];rfl
  ·left
   rw[show(first+(i:Int)==n)=false by simpa using e,Qq]
   refine⟨_,rfl,Xv (by omega),λj hj=>?_⟩
   by_cases D:j=i
   ·subst D;exact e
   exact h j (by omega)) (λst h=>by
  obtain⟨rfl,h⟩:=h
  show ∃r,Wj s first n (s.toNat:Int)=_/\_
  unfold Wj
  rw[QF (by omega),Qq]
  refine⟨_,rfl,?_⟩
  by_cases c:0<=n-first/\n-first<s
  ·have:=h (n-first).toNat (by omega)
   omega
  have:(decide (0<=n-first)&&decide (n-first<s))=false:=by
   apply Bool.eq_false_iff.2
   simp only[ne_eq,QH,QC];exact c
  rw[this];rfl) 0 ⟨rfl,λj hj=>by omega⟩
 rw[hr,h1,Qd]
 cases (decide (0<=n-first)&&decide (n-first<s))<;>rfl
def Qk7 {l:L_ QM}(h:QO YJ l)(hc:∀c∈l,IC c)(k n:Int)(hn:Xy n):∃r,Wo l k n=some r/\IS l k n=some r:=by
 unfold Wo IS RC RD
 rcases QiC h hc k with⟨e1,x,e2⟩|⟨c,x,s,h1,D,h3,h4,h5,e1,e2⟩
 ·rw[e1,e2,Qd,Qd]
  refine⟨(0,false),rfl,?_⟩
  show DL 0 n 0=_
  rw[Qf2 (by omega) (by unfold Xy;omega) (by omega)]
  have:(decide (0<=n-0)&&decide (n-0<0))=false:=by
   apply Bool.eq_false_iff.2
   simp only[ne_eq,QH,QC];omega
  rw[this];rfl
 rw[e1,e2,Qd,Qd]
 simp only[DW,Qq]
 have hb:=h5.b
 have j:=XF h1
 obtain⟨c1,c2⟩:=hc c j
 rw[Qni D h1,Qd,QB (by omega:0<s),Qx,Wu D,h1]
 simp only[Qd]
 unfold JO
 by_cases k1:c.Kind=1
 ·rw[show(c.Kind==1)=true by simpa using k1]
  simp only[Qx]
  obtain⟨g1,g2⟩:=h5.i k1
  unfold Xy at c1 c2 hn
  rw[Qf2 hb.2 c1 (by omega)]
  by_cases q:n<c.Lo\/c.Hi<n
  ·have:((decide (n<c.Lo))||(decide (c.Hi<n)))=true:=by simpa using q
   rw[this,Qx]
   have:(decide (0<=n-c.Lo)&&decide (n-c.Lo<s))=false:=by
    apply Bool.eq_false_iff.2
    simp only[ne_eq,QH,QC];omega
   rw[this]
   exact⟨_,rfl,rfl⟩
  have:((decide (n<c.Lo))||(decide (c.Hi<n)))=false:=by simpa using q
  rw[this,Qq,Xv (by omega),Qkv D h4,Qd,QB (by omega:0<=n-c.Lo),QB (by omega:n-c.Lo<s)]
  exact⟨_,rfl,rfl⟩
 rw[show(c.Kind==1)=false by simpa using k1]
 simp only[Qq]
 rw[Qf2 hb.2 (by unfold Xy;omega) (by omega),Qkv D h4,Qd,show n-0=n by omega]
 cases (decide (0<=n)&&decide (n<s))with
 | true=>exact⟨_,rfl,rfl⟩
 | false=>exact⟨_,rfl,rfl⟩
def Wr {α:Type}{l:L_ α}{i:Nat}(h:i<l.length):l.take (i+1)=l.take i++[l[i]]:=by rw[GZ,Qy h];rfl
def TT {l:L_ (Int×Int)}{x:Int×Int}:DG (l++[x])↔DG l/\∀p∈l,p.1<x.1:=by
 unfold DG
 rw[Qga]
 constructor
 ·rintro ⟨h,_,j⟩;exact⟨h,λp hp=>j p hp x (by simp)⟩
 rintro ⟨h,j⟩;exact⟨h,by simp,λp hp q D=>by simp at D;subst D;exact j p hp⟩
def Qkw {b:L_ (Int×Int)}(h:DG b){i:Nat}(j:i<b.length):∀p∈b.take i,p.1<b[i].1:=by
 have:=h.sublist (List.take_sublist (i+1) b)
 rw[Wr j]at this
 exact(TT.1 this).2
def Ic {b:L_ (Int×Int)}(h:b.length<=maxLen):KR b=some (Ge (-1) b):=by
 unfold KR
 obtain⟨r,hr,h1⟩:=Nn (body:=λst:Int=>WP b st) b.length (λi s=>s=(i:Int)/\Rt (b.take i)) (λr=>r=bif Ge (-1) b then .inr ()else .inl ()) (λi s hi D=>by
  obtain⟨rfl,D⟩:=D
  have hx:b[i]? = some b[i]:=Qy hi
  show(∃s',WP b i=_/\_)\/∃r,WP b i=_/\_
  unfold WP Tv Tw
  rw[QB (by omega),Qx,QR,hx]
  simp only[Qd]
  have stop:¬Rt b->∃r:Unit⊕Unit,some (Sum.inr (Sum.inl ()))=(some (Sum.inr r):O_ (Int⊕(Unit⊕Unit)))/\r=bif Ge (-1) b then .inr ()else .inl ():=λhb=>by
   rw[<-YF,FN]at hb
   rw[hb];exact⟨_,rfl,rfl⟩
  have hm:=Xs hi
  by_cases c1:b[i].1<0
  ·rw[QB c1]
   exact .inr (stop λhb=>by have:=hb.2 _ hm;omega)
  rw[QF c1,Qq]
  by_cases c2:b[i].2<1
  ·rw[QB c2]
   exact .inr (stop λhb=>by have:=hb.2 _ hm;omega)
  rw[QF c2,Qq]
  by_cases c3:1048576<b[i].2
  ·rw[QB c3]
   exact .inr (stop λhb=>by have:=hb.2 _ hm;omega)
  rw[QF c3,Qq]
  have go:(∀p∈b.take i,p.1<b[i].1)->Rt (b.take (i+1)):=λhp=>by
   rw[Wr hi]
   refine⟨TT.2 ⟨D.1,hp⟩,λp hp=>?_⟩
   rcases YM.1 hp with hp | hp
   ·exact D.2 p hp
   simp at hp;subst hp;omega
  by_cases c4:0<i
  ·rw[QB (by omega:(0:Int)<(i:Int)),Qx,Xv (n:=(i:Int)-1) (by unfold maxLen at h;omega),show(i:Int)-1=((i-1:Nat):Int) by omega,QR,Qy (show i-1<b.length by omega)]
   simp only[Qd]
   by_cases c5:b[i].1<=(b[i-1]'(by omega)).1
   ·rw[QB c5]
    exact .inr (stop λhb=>by
     have:=Qgb.1 hb.1 (i-1) i (by omega) hi (by omega)
     omega)
   rw[QF c5]
   refine .inl ⟨_,rfl,Qr hi h,go λp hp=>?_⟩
   obtain⟨j,hj,rfl⟩:=Nv.1 hp
   rw[Wm]at hj
   rw[List.getElem_take]
   by_cases hji:j=i-1
   ·subst hji;omega
   have:=Qgb.1 D.1 j (i-1) (by simp;omega) (by simp;omega) (by omega)
   rw[List.getElem_take,List.getElem_take]at this
   omega
  ·rw[QF (by omega:¬(0:Int)<(i:Int)),Qq]
   refine .inl ⟨_,rfl,Qr hi h,go λp hp=>?_⟩
   rw[show i=0 by omega]at hp;cases hp) (λs D=>by
  obtain⟨rfl,D⟩:=D
  rw[FQ]at D
  refine⟨_,?_,rfl⟩
  show WP b (b.length:Int)=_
  unfold WP
  rw[QF (by omega),YF.2 D];rfl) 0 ⟨rfl,Rt.nil⟩
 rw[hr,h1]
 cases Ge (-1) b<;>rfl
def Qc3 {b:L_ (Int×Int)}(h:b.length<=maxLen)(hb:Rt b)(m:Int):Al b m=some (QE b m):=by
 unfold Al
 rw[Ic h,YF.2 hb,Qd]
 obtain⟨r,hr,h1⟩:=Nn (body:=λst:Int=>WR b true m st) b.length (λi s=>s=(i:Int)/\∀p∈b.take i,p.1≠m) (λr=>r=.inl (QE b m)\/(r=.inr ()/\QE b m=0)) (λi s D j=>by
  obtain⟨rfl,j⟩:=j
  have hx:b[i]? = some b[i]:=Qy D
  show(∃s',WR b true m i=_/\_)\/∃r,WR b true m i=_/\_
  unfold WR
  rw[QB (by omega),RO,Qx,QR,hx]
  simp only[Qd]
  by_cases e:b[i].1=m
  ·rw[show(b[i].1==m)=true by simpa using e]
   refine .inr ⟨_,rfl,.inl ?_⟩
   rw[<-e,Gz hb.1.nd (Xs D)]
  ·rw[show(b[i].1==m)=false by simpa using e]
   refine .inl ⟨_,rfl,Qr D h,λp hp=>?_⟩
   rw[Wr D]at hp
   rcases YM.1 hp with hp | hp
   ·exact j p hp
   simp at hp;subst hp;exact e) (λs j=>by
  obtain⟨rfl,j⟩:=j
  rw[FQ]at j
  refine⟨.inr (),?_,.inr ⟨rfl,?_⟩⟩
  ·show WR b true m (b.length:Int)=_
   unfold WR
   rw[QF (by omega)];rfl
  unfold QE;rw[IY.2 j];rfl) 0 ⟨rfl,λp hp=>by cases hp⟩
 rw[hr]
 rcases h1 with rfl | ⟨rfl,e⟩
 ·rfl
 rw[e];rfl
def Qkx {b:L_ (Int×Int)}(h:b.length<=4294967295)(hb:Rt b){m n:Int}(hm:0<=m)(hn:0<=n/\n<=1048576):∃r,HW b m n=some r/\Rt r/\(∀k,QE r k=if k=m then n else QE b k)/\r.length<=b.length+1:=by
 have hl:b.length<=maxLen:=by unfold maxLen;omega
 unfold HW
 obtain⟨⟨dn,out⟩,hr,h1,h2,h3,h4⟩:=Nn (body:=λst:Bool×Int×L_ (Int×Int)=>El b m n st.1 st.2.1 st.2.2) b.length
  (λi s=>s.2.1=(i:Int)/\(s.1=true↔∃p∈b.take i,m<=p.1)/\DG s.2.2/\(∀p,p∈s.2.2↔(p.1≠m/\p∈b.take i)\/(s.1=true/\0<n/\p=(m,n)))/\s.2.2.length<=i+(bif s.1 then 1 else 0))
  (λr=>(r.1=true↔∃p∈b,m<=p.1)/\DG r.2/\(∀p,p∈r.2↔(p.1≠m/\p∈b)\/(r.1=true/\0<n/\p=(m,n)))/\r.2.length<=b.length+(bif r.1 then 1 else 0)) (λi s hi hI=>by
   obtain⟨d,a,out⟩:=s
   obtain⟨h1,h2,h3,h4,h5⟩:=hI
   replace h1:a=(i:Int):=h1
   subst h1
   replace h2:d=true↔∃p∈b.take i,m<=p.1:=h2
   replace h3:DG out:=h3
   replace h4:∀p,p∈out↔(p.1≠m/\p∈b.take i)\/(d=true/\0<n/\p=(m,n)):=h4
   replace h5:out.length<=i+(bif d then 1 else 0):=h5
   have hx:b[i]? = some b[i]:=Qy hi
   have hup:=Qkw hb.1 hi
   left
   show ∃s',El b m n d i out=_/\_
   unfold El VM VN Hp
   rw[QB (by omega),Qx]
   have own:∀(d':Bool) (j:L_ (Int×Int)),(d'=true↔∃p∈b.take (i+1),m<=p.1)->DG j->(∀p,p∈j↔(p.1≠m/\p∈b.take i)\/(d'=true/\0<n/\p=(m,n)))->j.length<=i+(bif d' then 1 else 0)->(∀p∈j,b[i].1≠m->p.1<b[i].1)->
     ∃s',AJ b i m d' j=some (.inl s')/\(s'.2.1=((i+1:Nat):Int)/\(s'.1=true↔∃p∈b.take (i+1),m<=p.1)/\DG s'.2.2/\(∀p,p∈s'.2.2↔(p.1≠m/\p∈b.take (i+1))\/(s'.1=true/\0<n/\p=(m,n)))/\s'.2.2.length<=i+1+(bif s'.1 then 1 else 0)):=λd' j g1 g2 g3 g4 g5=>by
    unfold AJ Ho
    have hdl:(bif d' then 1 else 0:Nat)<=1:=by cases d'<;>decide
    rw[QR,hx]
    simp only[Qd]
    by_cases e:b[i].1=m
    ·rw[show(b[i].1 != m)=false by simpa using e]
     refine⟨_,rfl,Qr hi hl,g1,g2,λp=>?_,by show j.length<=_;omega⟩
     show p∈j↔_
     rw[g3,Wr hi,YM,Nw]
     constructor
     ·rintro (⟨x1,x2⟩|x)
      ·exact .inl ⟨x1,.inl x2⟩
      exact .inr x
     rintro (⟨x1,x2 | rfl⟩|x)
     ·exact .inl ⟨x1,x2⟩
     ·exact absurd e x1
     exact .inr x
    rw[show(b[i].1 != m)=true by simpa using e,Qx,GJ (by simp;omega)]
    refine⟨_,rfl,Qr hi hl,g1,TT.2 ⟨g2,λp hp=>g5 p hp e⟩,λp=>?_,by show(j++[b[i]]).length<=_;rw[Ju];simp;omega⟩
    show p∈j++[b[i]]↔_
    rw[YM,Nw,g3,Wr hi,YM,Nw]
    constructor
    ·rintro ((⟨x1,x2⟩|x) | rfl)
     ·exact .inl ⟨x1,.inl x2⟩
     ·exact .inr x
     exact .inl ⟨e,.inr rfl⟩
    rintro (⟨x1,x2 | x2⟩|x)
    ·exact .inl (.inl ⟨x1,x2⟩)
    ·exact .inr x2
    exact .inl (.inr x)
   have grow:∀p:Int×Int,p∈b.take (i+1)↔p∈b.take i\/p=b[i]:=λp=>by rw[Wr hi,YM,Nw]
   cases d with
   | true=>
    obtain⟨q,hq,hq2⟩:=h2.1 rfl
    rw[show(!true)=false from rfl,Qq,Qd,Qq]
    exact own true out ⟨λ_=>⟨q,(grow q).2 (.inl hq),hq2⟩,λ_=>rfl⟩ h3 h4 h5 λp hp _=>by
     rcases(h4 p).1 hp with⟨_,x⟩|⟨_,_,rfl⟩
     ·exact hup p x
     have:=hup q hq;show m<_;omega
   | false=>
    have low:∀p∈b.take i,p.1<m:=λp hp=>by
     apply Classical.byContradiction
     intro hc
     have:=h2.2 ⟨p,hp,by omega⟩
     cases this
    rw[show(!false)=true from rfl,Qx,QR,hx]
    simp only[Qd]
    by_cases e:m<=b[i].1
    ·rw[QB e,Qx]
     have g1:(true=true↔∃p∈b.take (i+1),m<=p.1):=⟨λ_=>⟨b[i],(grow _).2 (.inr rfl),e⟩,λ_=>rfl⟩
     by_cases D:0<n
     ·rw[QB D,Qx,GJ (by simp only[Qq]at h5;simp;omega),Qd]
      refine own true (out++[(m,n)]) g1 (TT.2 ⟨h3,λp hp=>?_⟩) (λp=>?_) (by simp only[Qq]at h5;simp;omega) λp hp he=>?_
      ·rcases(h4 p).1 hp with⟨_,x⟩|⟨x,_⟩
       ·exact low p x
       cases x
      ·rw[YM,Nw,h4]
       constructor
       ·rintro ((x | ⟨x,_⟩) | rfl)
        ·exact .inl x
        ·cases x
        exact .inr ⟨rfl,D,rfl⟩
       rintro (x | ⟨_,_,x⟩)
       ·exact .inl (.inl x)
       exact .inr x
      rcases YM.1 hp with hp | hp
      ·rcases(h4 p).1 hp with⟨_,x⟩|⟨x,_⟩
       ·exact hup p x
       cases x
      simp at hp;subst hp;show m<_;omega
     rw[QF D,Qq]
     refine own true out g1 h3 (λp=>?_) (by simp only[Qq]at h5;simp;omega) λp hp he=>?_
     ·rw[h4]
      constructor
      ·rintro (x | ⟨x,_⟩)
       ·exact .inl x
       cases x
      rintro (x | ⟨_,x,_⟩)
      ·exact .inl x
      exact absurd x D
     rcases(h4 p).1 hp with⟨_,x⟩|⟨x,_⟩
     ·exact hup p x
     cases x
    rw[QF e,Qq]
    refine own false out ⟨(λx=>by cases x),λ⟨p,hp,hp2⟩=>?_⟩ h3 h4 h5 λp hp he=>?_
    ·rcases(grow p).1 hp with x | rfl
     ·have:=low p x;omega
     exact absurd hp2 e
    rcases(h4 p).1 hp with⟨_,x⟩|⟨x,_⟩
    ·exact hup p x
    cases x) (λs hI=>by
   obtain⟨d,a,out⟩:=s
   obtain⟨h1,h2,h3,h4,h5⟩:=hI
   replace h1:a=(b.length:Int):=h1
   subst h1
   rw[FQ]at h2 h4
   refine⟨(d,out),?_,h2,h3,h4,h5⟩
   show El b m n d b.length out=_
   unfold El
   rw[QF (by omega)];rfl) (false,0,[]) ⟨rfl,by simp,by simp[DG],by simp,by simp⟩
 rw[hr,Qd]
 show ∃r,Ov n m dn out=some r/\_
 unfold Ov Hq
 have fin:∀r:L_ (Int×Int),DG r->(∀p,p∈r↔(p.1≠m/\p∈b)\/(0<n/\p=(m,n)))->Rt r/\∀k,QE r k=if k=m then n else QE b k:=λr hA hmem=>by
  refine⟨⟨hA,λp hp=>?_⟩,λk=>?_⟩
  ·rcases(hmem p).1 hp with⟨_,x⟩|⟨x,rfl⟩
   ·exact hb.2 p x
   exact⟨hm,by show 1<=n;omega,hn.2⟩
  by_cases e:k=m
  ·subst e
   rw[if_pos rfl]
   by_cases D:0<n
   ·exact Gz hA.nd ((hmem (k,n)).2 (.inr ⟨D,rfl⟩))
   unfold QE
   rw[IY.2 λp hp=>?_]
   ·show(0:Int)=n;omega
   rcases(hmem p).1 hp with⟨x,_⟩|⟨x,_⟩
   ·exact x
   exact absurd x D
  rw[if_neg e]
  unfold QE
  congr 1
  cases hq:QW b k with
  | some v=>exact(Jt hA.nd).2 ((hmem (k,v)).2 (.inl ⟨e,(Jt hb.1.nd).1 hq⟩))
  | none=>
   refine IY.2 λp hp=>?_
   rcases(hmem p).1 hp with⟨_,x⟩|⟨_,rfl⟩
   ·exact IY.1 hq p x
   exact λx=>e x.symm
 cases dn with
 | true=>
  obtain⟨f1,f2⟩:=fin out h2 λp=>by rw[h3];simp
  exact⟨out,rfl,f1,f2,by simpa using h4⟩
 | false=>
  have low:∀p∈b,p.1<m:=λp hp=>by
   apply Classical.byContradiction
   intro hc
   have:=h1.2 ⟨p,hp,by omega⟩
   cases this
  by_cases D:0<n
  ·rw[QB D]
   simp only[Qq,Mf]at h4
   obtain⟨f1,f2⟩:=fin (out++[(m,n)]) (TT.2 ⟨h2,λp hp=>by
    rcases(h3 p).1 hp with⟨_,x⟩|⟨x,_⟩
    ·exact low p x
    ·cases x⟩) λp=>by
    rw[YM,Nw,h3]
    constructor
    ·rintro ((x | ⟨x,_⟩) | rfl)
     ·exact .inl x
     ·cases x
     exact .inr ⟨D,rfl⟩
    rintro (x | ⟨_,x⟩)
    ·exact .inl (.inl x)
    exact .inr x
   refine⟨out++[(m,n)],?_,f1,f2,by simp;omega⟩
   rw[show(!false&&true)=true from rfl,Qx,GJ (by simp;omega)];rfl
  rw[QF D]
  obtain⟨f1,f2⟩:=fin out h2 λp=>by
   rw[h3]
   constructor
   ·rintro (x | ⟨x,_⟩)
    ·exact .inl x
    cases x
   rintro (x | ⟨x,_⟩)
   ·exact .inl x
   exact absurd x D
  exact⟨out,rfl,f1,f2,by simp only[Qq,Mf]at h4;omega⟩
def Qky {b:L_ (Int×Int)}(D:DG b){i:Nat}(h:i<b.length)(k:Int):QE (b.take (i+1)) k=if k=b[i].1 then b[i].2 else QE (b.take i) k:=by
 have j:DG (b.take (i+1)):=D.sublist (List.take_sublist _ _)
 by_cases e:k=b[i].1
 ·subst e
  rw[if_pos rfl]
  exact Gz j.nd (by rw[Wr h];exact Qf9 _ XQ)
 rw[if_neg e]
 unfold QE
 congr 1
 have h0:DG (b.take i):=D.sublist (List.take_sublist _ _)
 cases hq:QW (b.take i) k with
 | some v=>exact(Jt j.nd).2 (by rw[Wr h];exact Qdb _ ((Jt h0.nd).1 hq))
 | none=>
  refine IY.2 λp hp=>?_
  rw[Wr h]at hp
  rcases YM.1 hp with hp | hp
  ·exact IY.1 hq p hp
  simp at hp;subst hp;exact λx=>e x.symm
def Qo2 {b:L_ (Int×Int)}(h:DG b){i:Nat}(j:i<b.length):QE (b.take i) b[i].1=0:=by
 unfold QE
 rw[IY.2 λp hp=>by have:=Qkw h j p hp;omega];rfl
def Qkz {a b:L_ (Int×Int)}(h:a.length+b.length<=4294967290):Be a b=Je a b:=by
 unfold Be ZW ZX
 have ha:a.length<=maxLen:=by unfold maxLen;omega
 have hb:b.length<=maxLen:=by unfold maxLen;omega
 rw[Ic ha,Ic hb,Qd]
 rcases UG a b (by omega)with⟨h1,h2⟩|⟨h1,h2,⟨k,h3⟩,h4⟩|⟨h1,h2,r,h3,h4,h5,h6⟩
 ·rw[h2,<-YF,<-YF]at *
  cases ra:Ge (-1) a with
  | false=>rfl
  | true=>
   cases rb:Ge (-1) b with
   | false=>rfl
   | true=>exact absurd ⟨ra,rb⟩ h1
 all_goals
  rw[YF.2 h1,YF.2 h2]
  simp only[DW,Qq,Qd,Pl,Ij,BA]
  rw[GJ (by omega),Qd]
  obtain⟨q,hq,hp⟩:=Nn (body:=λst:Int×L_ (Int×Int)=>Gt b st.1 st.2) b.length
   (λi s=>s.1=(i:Int)/\Rt s.2/\(∀k,QE s.2 k=QE a k+QE (b.take i) k)/\s.2.length<=a.length+i)
   (λq=>(q=.inl ()/\∃k,1048576<QE a k+QE b k)\/∃r,q=.inr r/\Rt r/\∀k,QE r k=QE a k+QE b k) (λi s hi hI=>by
    obtain⟨x,out⟩:=s
    obtain⟨j,g2,D,g4⟩:=hI
    replace j:x=(i:Int):=j
    subst j
    replace g2:Rt out:=g2
    replace D:∀k,QE out k=QE a k+QE (b.take i) k:=D
    replace g4:out.length<=a.length+i:=g4
    have hx:b[i]? = some b[i]:=Qy hi
    have hbi:=‹Rt b›.2 _ (Xs hi)
    show(∃s',Gt b i out=_/\_)\/∃r,Gt b i out=_/\_
    unfold Gt
    rw[QB (by omega),Qx,QR,hx]
    simp only[Qd]
    have hc:=‹Rt a›.cnt b[i].1
    rw[Qc3 (by unfold maxLen;omega) g2,Qd,D,Qo2 ‹Rt b›.1 hi,Int.add_zero,Xv (by omega)]
    by_cases e:1048576<QE a b[i].1+b[i].2
    ·rw[QB e]
     refine .inr ⟨_,rfl,.inl ⟨rfl,b[i].1,?_⟩⟩
     rw[Gz ‹Rt b›.1.nd (Xs hi)];exact e
    ·rw[QF e,Qq]
     obtain⟨r,r1,r2,r3,r4⟩:=Qkx (b:=out) (by omega) g2 (m:=b[i].1) (n:=QE a b[i].1+b[i].2) (by omega) (by omega)
     rw[r1,Qd]
     refine .inl ⟨_,rfl,Qr hi hb,r2,λk=>?_,by show r.length<=_;omega⟩
     show QE r k=_
     rw[r3,Qky ‹Rt b›.1 hi,D]
     by_cases ek:k=b[i].1
     ·subst ek;rw[if_pos rfl,if_pos rfl]
     rw[if_neg ek,if_neg ek]) (λs hI=>by
    obtain⟨x,out⟩:=s
    obtain⟨j,g2,D,g4⟩:=hI
    replace j:x=(b.length:Int):=j
    subst j
    rw[FQ]at D
    refine⟨.inr out,?_,.inr ⟨out,rfl,g2,D⟩⟩
    show Gt b b.length out=_
    unfold Gt
    rw[QF (by omega)];rfl) (0,a) ⟨rfl,by assumption,λk=>by simp[QE,QW],by simp⟩
  rw[hq]
 ·rcases hp with⟨rfl,_⟩|⟨r,rfl,r1,r2⟩
  ·rw[h4];rfl
  have:=r1.cnt k
  rw[r2]at this;omega
 rcases hp with⟨rfl,k,hk⟩|⟨r',rfl,r1,r2⟩
 ·have:=h4.cnt k
  rw[h5]at this;omega
 have:r'=r:=rt_ext r1 h4 λk=>by rw[r2,h5]
 subst this
 rw[h3];rfl
def PC {a b:L_ (Int×Int)}(D:a.length<=maxLen)(hb:b.length<=maxLen):Gv a b=HI a b:=by
 unfold Gv RF RG
 rw[Ic D,Ic hb,Qd]
 obtain⟨r,h1,h⟩:=AP a b D hb
 rw[h1]
 cases ra:Ge (-1) a with
 | false=>
  have:r=false:=by
   cases r with
   | false=>rfl
   | true=>have:=YF.2 (h.1 rfl).1;rw[ra]at this;cases this
  rw[this];rfl
 | true=>
  cases rb:Ge (-1) b with
  | false=>
   have:r=false:=by
    cases r with
    | false=>rfl
    | true=>have:=YF.2 (h.1 rfl).2.1;rw[rb]at this;cases this
   rw[this];rfl
  | true=>
   have h3:=YF.1 ra
   have j:=YF.1 rb
   simp only[DW,Qq,Qd]
   rw[Pd (body:=λst:Int=>DM a b st) (l:=a) (λi=>(i:Int)) (λ_ x=>decide (QE b x.1<x.2)) (.inl ()) (.inr ()) (λi x hi hx=>by
    show DM a b i=_
    unfold DM
    rw[QB (by omega),Qx,QR,hx]
    simp only[Qd]
    rw[Qc3 hb j,Qd,Qr hi D]
    cases decide (QE b x.1<x.2)<;>rfl) (by
    show DM a b a.length=_
    unfold DM
    rw[QF (by omega),Qq]) (s0:=0) rfl,Qd]
   have e:∀(l:L_ (Int×Int)) (k:Nat),OC (λ_ x=>decide (QE b x.1<x.2)) k l=l.any λp=>decide (QE b p.1<p.2):=λl=>by
    induction l with
    | nil=>intro k;rfl
    | cons x l ih=>intro k;rw[OC,ih,List.any_cons]
   rw[e]
   have aw:=Qa8 h3 j
   cases hq:a.any λp=>decide (QE b p.1<p.2)with
   | false=>rw[h.2 ⟨h3,j,aw.1 hq⟩];rfl
   | true=>
    have:r=false:=by
     cases r with
     | false=>rfl
     | true=>rw[aw.2 (h.1 rfl).2.2]at hq;cases hq
    rw[this];rfl
end Go.Proofs
