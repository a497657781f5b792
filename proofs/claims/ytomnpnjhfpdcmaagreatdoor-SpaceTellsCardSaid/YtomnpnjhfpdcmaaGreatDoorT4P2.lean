/- A part of the proof. -/
import Derived.Test.YtomnpnjhfpdcmaaGreatDoorT4P1
import Derived.Test.YtomnpnjhfpdcmaaGreatDoorT4P1
import Derived.Test.YtomnpnjhfpdcmaaGreatDoorT4P1
import Derived.Test.YtomnpnjhfpdcmaaGreatDoorT4P1
import Derived.KernelRfl
import Derived.Test.YtomnpnjhfpdcmaaGreatDoorT4T3
import Derived.Test.YtomnpnjhfpdcmaaGreatDoorT4P1
import Derived.Test.YtomnpnjhfpdcmaaGreatDoorT4P1
import Derived.Test.YtomnpnjhfpdcmaaGreatDoorT4P1
set_option linter.all false
noncomputable section
namespace Go.Proofs
open Go Go.RowKit Go.Vm
abbrev Bag := QBg
def Qop (how:Bag->Bag->O_ (Bag×Int))(a b r:L_ Bag):Prop:=∀(j:Nat) x y,a[j]? = some x->b[j]? = some y->∃z,r[j]? = some z/\how x y=some (z,0)
def Can (how:Bag->Bag->O_ (Bag×Int))(a b:L_ Bag):Prop:=∀(j:Nat) x y,a[j]? = some x->b[j]? = some y->∃z,how x y=some (z,0)
def OJ {α:Type}{l:L_ α}{i:Nat}(h:i<l.length):l[i]? = some l[i]:=Qy h
def Qsa {a b r:Bag}(h:a.length+b.length<=4294967296)(e:Ji a b=some (r,0)):Rt a/\Rt b/\Rt r/\∀k,QM r k=QM a k+QM b k:=by
 rcases EA a b h with⟨_,e'⟩|⟨_,_,_,e'⟩|⟨D,h2,r',e',h3,h4,_⟩
 ·rw[e]at e';cases e'
 ·rw[e]at e';cases e'
 rw[e]at e';cases e';exact⟨D,h2,h3,h4⟩
def Qru {a b r:Bag}(h:a.length+b.length<=4294967296)(e:Ju a b=some (r,0)):Rt a/\Rt b/\Rt r/\(∀k,QM b k<=QM a k)/\∀k,QM r k=QM a k-QM b k:=by
 rcases Hy a b h with⟨_,e'⟩|⟨_,_,_,e'⟩|⟨D,h2,h5,r',e',h3,h4,_⟩
 ·rw[e]at e';cases e'
 ·rw[e]at e';cases e'
 rw[e]at e';cases e';exact⟨D,h2,h3,h5,h4⟩
def QlT {n:Qk}{c:Nat}{m:L_ Bag}(h:Kc n c m){j:Nat}(D:j<n.Places.length):∃b,m[j]? = some b/\Rt b/\b.length<=c:=by
 have:j<m.length:=by have:=h.1;omega
 exact⟨m[j],OJ this,h.2 _ (Xn this)⟩
def Qnf (n:Qk)(a b:L_ Bag)(c d:Nat)(h:Xd n)(ha:Kc n c a)(hb:Kc n d b)(hcd:c+d<=1000000):Qj (Dd a b) λr=>(r.2=0->r.1.length=n.Places.length/\Qop Ju a b r.1)/\(Can Ju a b->r.2=0):=by
 have hpl:=h.pl
 have ha1:=ha.1
 have hb1:=hb.1
 have hmin:min2 (a.length:Int) (b.length:Int)=(n.Places.length:Int):=by unfold min2;split<;>omega
 unfold Dd
 rw[hmin]
 refine T0 (T5 (by simp only[QQ,QB];omega)) λ_ _=>?_
 refine T0 (Qj.up n.Places.length (λst=>st.1) (λst=>st.2.length=n.Places.length/\∀(j:Nat) x y,(j:Int)<st.1->a[j]? = some x->b[j]? = some y->∃z,st.2[j]? = some z/\Ju x y=some (z,0)) (Q:=λq:Int⊕L_ Bag=>(∀x,q=.inl x->x≠0/\¬Can Ju a b)/\∀m,q=.inr m->m.length=n.Places.length/\Qop Ju a b m) rfl ⟨by simp,λj x y hj=>by omega⟩ (λi st hi hn hJ=>?_)) (λq hq=>?_)
 ·obtain⟨x,m⟩:=st
  replace hi:x=(i:Int):=hi
  obtain⟨hJ1,hJ2⟩:m.length=n.Places.length/\∀(j:Nat) u v,(j:Int)<x->a[j]? = some u->b[j]? = some v->∃z,m[j]? = some z/\Ju u v=some (z,0):=hJ
  show Qj (Kg a b x m) _
  unfold Kg
  rw[hmin]
  refine T1 (λhc=>?_) (λhc=>T2 (Qq ⟨λx e=>(by cases e),λm' e=>(by cases e;exact⟨hJ1,λj u v hu hv=>hJ2 j u v (by
   simp only[QX,TC]at hc
   have:=(Xj.1 hu).1
   omega) hu hv⟩)⟩))
  simp only[QB,TC]at hc
  have i1:i<a.length:=by omega
  have i2:i<b.length:=by omega
  rw[hi,QP,OJ i1,Qd,QP,OJ i2,Qd]
  have hu2:=ha.2 _ (Xn i1)
  have hv2:=hb.2 _ (Xn i2)
  have key:∃s,Ju a[i] b[i]=some s:=by
   rcases Hy a[i] b[i] (by omega)with⟨_,e⟩|⟨_,_,_,e⟩|⟨_,_,_,r,e,h1,_,h2⟩
   ·exact⟨_,e⟩
   ·exact⟨_,e⟩
   exact⟨_,e⟩
  obtain⟨s,es⟩:=key
  rw[es,Qd]
  refine T0 (T4 (by omega) (by omega)) λ_ _=>?_
  refine T1 (λD=>T2 (Qq ⟨λx e=>(by cases e;exact⟨by simpa using D,λhcan=>by
   obtain⟨z,hz⟩:=hcan i _ _ (OJ i1) (OJ i2)
   rw[es]at hz
   cases hz
   simp at D⟩),λm' e=>(by cases e)⟩)) λD=>?_
  simp only[WP]at D
  refine T2 (QJ ⟨by omega,Qt (by omega) (by unfold maxLen;omega:n.Places.length<=maxLen),by simpa using hJ1,λj u v hj hu hv=>?_⟩)
  have hj:(j:Int)<Qi ((i:Int)+1):=hj
  rw[Qt (show i<n.Places.length by omega) (by unfold maxLen;omega)]at hj
  show ∃z,(m.set (i:Int).toNat s.1)[j]? = some z/\_
  by_cases cj:j=i
  ·subst cj
   rw[OJ i1]at hu;rw[OJ i2]at hv
   cases hu;cases hv
   refine⟨s.1,by rw[show((j:Int)).toNat=j from XC j];exact QeJ (by omega),?_⟩
   rw[es,<-D]
  obtain⟨z,h1,h2⟩:=hJ2 j u v (by omega) hu hv
  exact⟨z,by rw[QeI (by simp;omega)];exact h1,h2⟩
 rcases q with q | q
 ·have:=hq.1 q rfl
  exact T2 ⟨λh=>absurd h this.1,λh=>absurd h this.2⟩
 exact T2 ⟨λ_=>hq.2 q rfl,λ_=>rfl⟩
def QmG (n:Qk)(a b:L_ Bag)(c d:Nat)(h:Xd n)(ha:Kc n c a)(hb:Kc n d b)(hcd:c+d<=1000000):Qj (Kh a b) λr=>(r.2=0->r.1.length=n.Places.length/\Qop Ji a b r.1)/\(Can Ji a b->r.2=0):=by
 have hpl:=h.pl
 have ha1:=ha.1
 have hb1:=hb.1
 have hmin:min2 (a.length:Int) (b.length:Int)=(n.Places.length:Int):=by unfold min2;split<;>omega
 unfold Kh
 rw[hmin]
 refine T0 (T5 (by simp only[QQ,QB];omega)) λ_ _=>?_
 refine T0 (Qj.up n.Places.length (λst=>st.1) (λst=>st.2.length=n.Places.length/\∀(j:Nat) x y,(j:Int)<st.1->a[j]? = some x->b[j]? = some y->∃z,st.2[j]? = some z/\Ji x y=some (z,0)) (Q:=λq:Int⊕L_ Bag=>(∀x,q=.inl x->x≠0/\¬Can Ji a b)/\∀m,q=.inr m->m.length=n.Places.length/\Qop Ji a b m) rfl ⟨by simp,λj x y hj=>by omega⟩ (λi st hi hn hJ=>?_)) (λq hq=>?_)
 ·obtain⟨x,m⟩:=st
  replace hi:x=(i:Int):=hi
  obtain⟨hJ1,hJ2⟩:m.length=n.Places.length/\∀(j:Nat) u v,(j:Int)<x->a[j]? = some u->b[j]? = some v->∃z,m[j]? = some z/\Ji u v=some (z,0):=hJ
  show Qj (Jf a b x m) _
  unfold Jf
  rw[hmin]
  refine T1 (λhc=>?_) (λhc=>T2 (Qq ⟨λx e=>(by cases e),λm' e=>(by cases e;exact⟨hJ1,λj u v hu hv=>hJ2 j u v (by
   simp only[QX,TC]at hc
   have:=(Xj.1 hu).1
   omega) hu hv⟩)⟩))
  simp only[QB,TC]at hc
  have i1:i<a.length:=by omega
  have i2:i<b.length:=by omega
  rw[hi,QP,OJ i1,Qd,QP,OJ i2,Qd]
  have hu2:=ha.2 _ (Xn i1)
  have hv2:=hb.2 _ (Xn i2)
  have key:∃s,Ji a[i] b[i]=some s:=by
   rcases EA a[i] b[i] (by omega)with⟨_,e⟩|⟨_,_,_,e⟩|⟨_,_,r,e,h1,_,h2⟩
   ·exact⟨_,e⟩
   ·exact⟨_,e⟩
   exact⟨_,e⟩
  obtain⟨s,es⟩:=key
  rw[es,Qd]
  refine T0 (T4 (by omega) (by omega)) λ_ _=>?_
  refine T1 (λD=>T2 (Qq ⟨λx e=>(by cases e;exact⟨by simpa using D,λhcan=>by
   obtain⟨z,hz⟩:=hcan i _ _ (OJ i1) (OJ i2)
   rw[es]at hz
   cases hz
   simp at D⟩),λm' e=>(by cases e)⟩)) λD=>?_
  simp only[WP]at D
  refine T2 (QJ ⟨by omega,Qt (by omega) (by unfold maxLen;omega:n.Places.length<=maxLen),by simpa using hJ1,λj u v hj hu hv=>?_⟩)
  have hj:(j:Int)<Qi ((i:Int)+1):=hj
  rw[Qt (show i<n.Places.length by omega) (by unfold maxLen;omega)]at hj
  show ∃z,(m.set (i:Int).toNat s.1)[j]? = some z/\_
  by_cases cj:j=i
  ·subst cj
   rw[OJ i1]at hu;rw[OJ i2]at hv
   cases hu;cases hv
   refine⟨s.1,by rw[show((j:Int)).toNat=j from XC j];exact QeJ (by omega),?_⟩
   rw[es,<-D]
  obtain⟨z,h1,h2⟩:=hJ2 j u v (by omega) hu hv
  exact⟨z,by rw[QeI (by simp;omega)];exact h1,h2⟩
 rcases q with q | q
 ·have:=hq.1 q rfl
  exact T2 ⟨λh=>absurd h this.1,λh=>absurd h this.2⟩
 exact T2 ⟨λ_=>hq.2 q rfl,λ_=>rfl⟩
def Qoq {n:Qk}{m t:L_ Bag}{o:Qg}(h:El n m o=some (t,0)):Yv n m o=some 0/\∃D,WW n o=some (D,0)/\Dd m D=some (t,0):=by
 unfold El at h
 obtain⟨x,hx,h⟩:=Qv h
 rcases Xy h with⟨c,h⟩|⟨c,h⟩
 ·simp only[Option.some.injEq,Prod.mk.injEq]at h
  rw[h.2]at c;cases c
 simp only[WP]at c
 subst c
 obtain⟨y,hy,h⟩:=Qv h
 obtain⟨y1,y2⟩:=y
 rcases Xy h with⟨c,h⟩|⟨c,h⟩
 ·simp only[Option.some.injEq,Prod.mk.injEq]at h
  simp only[h.2]at c;cases c
 simp only[WP]at c
 subst c
 obtain⟨z,hz,h⟩:=Qv h
 obtain⟨z1,z2⟩:=z
 simp only[Option.some.injEq,Prod.mk.injEq]at h
 obtain⟨rfl,rfl⟩:=h
 exact⟨hx,y1,hy,hz⟩
def QqH {n:Qk}{m x:L_ Bag}{o:Qg}(h:Yh n m o=some (x,0)):∃t,El n m o=some (t,0)/\DT n t o=some (x,0):=by
 unfold Yh at h
 obtain⟨y,D,h⟩:=Qv h
 obtain⟨y1,y2⟩:=y
 rcases Xy h with⟨c,h⟩|⟨c,h⟩
 ·simp only[Option.some.injEq,Prod.mk.injEq]at h
  simp only[h.2]at c;cases c
 simp only[WP]at c
 subst c
 obtain⟨z,hz,h⟩:=Qv h
 obtain⟨z1,z2⟩:=z
 simp only[Option.some.injEq,Prod.mk.injEq]at h
 obtain⟨rfl,rfl⟩:=h
 exact⟨y1,D,hz⟩
def UF : Bag->Int
 | []=>0
 | p::l=>p.2+UF l
def Qpx {l m:Bag}(h:l.Perm m):UF l=UF m:=by
 induction h with
 | nil=>rfl
 | cons p _ ih=>simp only[UF,ih]
 | swap p q l=>simp only[UF];omega
 | trans _ _ D ih2=>rw[D,ih2]
def Qey (b:Bag)(hr:Rt b)(h:b.length<=maxLen):Sg b=some (Qi (UF b)):=by
 unfold Sg
 rw[QaL b h,YQ.2 hr]
 show LH b=_
 unfold LH
 have D:∀(l:Bag) (s:Int),Dg (λst (p:Int×Int)=>GQ st p.1 p.2) (Qi s) l=some (.inl (Qi (s+UF l))):=by
  intro l
  induction l with
  | nil=>intro s;simp[Dg,UF]
  | cons p l ih=>
   intro s
   simp only[Dg]
   rw[show GQ (Qi s) p.1 p.2=some (.inl (Qi (s+p.2)))from by unfold GQ;rw[QeT]]
   simp only[Qd,Sum.elim_inl]
   rw[ih,UF,Int.add_assoc]
 have h0:Hj (λst (p:Int×Int)=>GQ st p.1 p.2) (0:Int) b=some (.inl (Qi (UF b))):=by
  have e0:(0:Int)=Qi 0:=by decide
  rw[e0]
  refine LA.2 ⟨λl' hp=>?_,by rw[D];simp⟩
  rw[D,D,Qpx hp]
 rw[h0];rfl
def tS (m:L_ Bag):Nat->Int
 | 0=>0
 | i+1=>tS m i+UF (m.getD i [])
def SX {n:Qk}{c:Nat}{m:L_ Bag}(h:Xd n)(hm:Kc n c m)(hc:c<=1000000):UZ m=some (Qi (tS m m.length)):=by
 have hpl:=h.pl
 have hm1:=hm.1
 unfold UZ
 obtain⟨r,h1,h2⟩:=(Qj.up (body:=λst=>KG m st.1 st.2) m.length (λst=>st.2) (λst=>st.1=Qi (tS m st.2.toNat)) (Q:=λq=>q=Qi (tS m m.length)) (s0:=((0:Int),(0:Int))) rfl (by show(0:Int)=Qi 0;decide) (λi st hi hn hJ=>by
  obtain⟨a,x⟩:=st
  replace hi:x=(i:Int):=hi
  replace hJ:a=Qi (tS m x.toNat):=hJ
  subst hi
  show Qj (KG m a i) _
  unfold KG
  refine T1 (λhc=>?_) (λhc=>T2 (Qq ?_))
  ·simp only[QB]at hc
   have D:i<m.length:=by omega
   have hb:=hm.2 _ (Xn D)
   rw[QP,OJ D,Qd,Qey _ hb.1 (by have:=hb.2;unfold maxLen;omega),Qd]
   have hw:Qi ((i:Int)+1)=((i+1:Nat):Int):=Qt D (by unfold maxLen;omega)
   refine T2 (QJ ⟨D,hw,?_⟩)
   show Qi (a+Qi (UF m[i]))=Qi (tS m (Qi ((i:Int)+1)).toNat)
   rw[hw,hJ,QeT,Int.add_comm,QeT,XC,XC,tS,List.getD_eq_getElem?_getD,OJ D,Int.add_comm];rfl
  simp only[QX]at hc
  rw[hJ,show(i:Int).toNat=m.length by omega]))
 rw[h1,h2];rfl
def QqI (n:Qk)(m:L_ Bag)(o:Qg)(c:Nat)(h:Xd n)(hm:Kc n c m)(hl:II n m)(hc:c<=900000)(ho:XQ n o):Qj (DT n m o) λr=>r.2=0->II n r.1:=by
 have hpl:=h.pl
 have hm1:=hm.1
 unfold DT
 refine T0 (QkO n o h ho) λy hy=>?_
 refine T1 (λhc=>T2 λh=>absurd h (by simpa using hc)) λhc2=>?_
 obtain⟨⟨hy,hyl⟩,h1,h2⟩:=hy (by simpa using hc2)
 rw[Lp m (by omega) (λb D=>by have:=(hm.2 b D).2;omega),Qd]
 refine T0 (T4 h1 h2) λe he=>?_
 have hcl:=(h.tk e he).2.2.2
 refine T0 (Qj.up e.Cancel.length (λst=>st.1) (λst=>Kc n c st.2/\II n st.2) (Q:=λq=>Kc n c q/\II n q) rfl ⟨hm,hl⟩ (λi st hi hn hJ=>?_)) (λq hq=>?_)
 ·obtain⟨x,l⟩:=st
  replace hi:x=(i:Int):=hi
  replace hJ:Kc n c l/\II n l:=hJ
  show Qj (Jc e x l) _
  unfold Jc
  refine T1 (λhc=>?_) (λ_=>T2 (Qq hJ))
  simp only[QB]at hc
  refine T0 (T4 (by omega) (by omega)) λk _=>?_
  have next:∀l,Kc n c l/\II n l->Qj (DD x l) λo=>(∀s',o=.inl s'->i<e.Cancel.length/\s'.1=((i+1:Nat):Int)/\Kc n c s'.2/\II n s'.2)/\∀r:L_ QBg,o=.inr r->Kc n c r/\II n r:=λl hl=>by
   unfold DD
   exact T2 (QJ (ix:=λst:Int×L_ QBg=>st.1) (J:=λst:Int×L_ QBg=>Kc n c st.2/\II n st.2) ⟨by omega,by subst hi;exact Qt (by omega) (by unfold maxLen;omega:e.Cancel.length<=maxLen),hl⟩)
  refine T1 (λhc3=>?_) λ_=>next l hJ
  simp only[QQ,QB]at hc3
  refine T0 (T4 hc3.1 hc3.2) λ_ _=>?_
  refine next _ ⟨⟨by simpa using hJ.1.1,λb D=>?_⟩,λj b p D hp k' hk=>?_⟩
  ·rcases RU D with rfl | D
   ·exact⟨Rt.nil,by simp⟩
   exact hJ.1.2 b D
  by_cases cj:k.toNat=j
  ·subst cj
   rw[QeJ (by omega)]at D
   cases D
   simp[QM,QR]at hk
  rw[QeI cj]at D
  exact hJ.2 j b p D hp k' hk
 show Qj (GT y q) _
 unfold GT
 refine T0 (QmG n q y.1 c 20 h hq.1 hy (by omega)) λz hz=>T2 λhz0=>?_
 obtain⟨zl,ze⟩:=hz.1 hz0
 intro j b p D hp k hk
 have hj:j<n.Places.length:=(Xj.1 hp).1
 obtain⟨u,hu,hu1,hu2⟩:=QlT hq.1 hj
 obtain⟨v,hv,hv1,hv2⟩:=QlT hy hj
 obtain⟨s,hs1,hs2⟩:=ze j u v hu hv
 have hs1:z.1[j]? = some s:=hs1
 have D:z.1[j]? = some b:=D
 rw[D]at hs1;cases hs1
 have q:=(Qsa (by omega) hs2).2.2.2 k
 by_cases c0:0<QM u k
 ·exact hq.2 j u p hu hp k c0
 exact hyl j v p hv hp k (by omega)
def XO (n:Qk)(t:QI):LI_:=t.Vars.map λv=>(YC n.Colours v.Colour).getD 0
def Fc (b:Xf)(r:LI_):Bool:=decide (XZ b r=some 0)
def WX (n:Qk)(m:L_ QBg)(h:Int)(D outs:L_ LI_)(p:LI_):L_ Qg:=match YV n m h p with
 | some (c,b)=>if c=0/\XF b=some 0 then D.flatMap λe=>if XA b e=some 0 then(outs.filter (Fc b)).map λo=>Qg.mk h p e o else []else []
 | none=>[]
def ne0 (g:Int):(g != 0)=!decide (some g=some (0:Int)):=by by_cases h:g=0<;>simp[h]
def Qla (t:QI)(n:Qk)(l:LI_)(h:Xp n)(hl:l.length=t.Vars.length)(hv:t.Vars.length<=16)(hd:∀d∈l,0<=d/\d<=1024):
  Qj (Qu (λst=>Js t n st.1 st.2) ((Qi ((l.length:Int)-1)),l)) λq=>(-1<=q.1/\q.1<l.length/\q.2=l.take (q.1+1).toNat++List.replicate (l.length-(q.1+1).toNat) 0)/\(∀(j:Nat) x s,q.1<(j:Int)->l[j]? = some x->(XO n t)[j]? = some s->¬x+1<s)/\∀x s,0<=q.1->l[q.1.toNat]? = some x->(XO n t)[q.1.toNat]? = some s->x+1<s/\x<1024:=by
 have hw:Qi ((l.length:Int)-1)=(l.length:Int)-1:=XD (by omega)
 refine Qj.up l.length (λst=>(l.length:Int)-1-st.1) (λst=>st.2=l.take (st.1+1).toNat++List.replicate (l.length-(st.1+1).toNat) 0/\∀(j:Nat) x s,st.1<(j:Int)->l[j]? = some x->(XO n t)[j]? = some s->¬x+1<s) (by rw[hw];omega) ⟨by
  rw[hw]
  show l=_
  rw[show((l.length:Int)-1+1).toNat=l.length by omega,HY,Nat.sub_self];simp,λj x s hj hx=>by
  replace hj:Qi ((l.length:Int)-1)<(j:Int):=hj
  have:=(Xj.1 hx).1
  omega⟩ (λi st hi hn hJ=>?_)
 obtain⟨a,d⟩:=st
 replace hi:(l.length:Int)-1-a=i:=hi
 obtain⟨hJ,hJ2⟩:d=l.take (a+1).toNat++List.replicate (l.length-(a+1).toNat) 0/\∀(j:Nat) x s,a<(j:Int)->l[j]? = some x->(XO n t)[j]? = some s->¬x+1<s:=hJ
 have hdl:d.length=l.length:=by rw[hJ];simp;omega
 show Qj (Js t n a d) _
 unfold Js
 refine T0 (P:=λx=>(x=true->0<=a/\∀e s,l[a.toNat]? = some e->(XO n t)[a.toNat]? = some s->¬e+1<s)/\(x=false->∀e s,0<=a->l[a.toNat]? = some e->(XO n t)[a.toNat]? = some s->e+1<s/\e<1024)) ?_ λx hx=>?_
 ·unfold Fy
  refine T1 (λD=>?_) λD=>T2 ⟨λh=>(by cases h),λ_ e s he=>?_⟩
  ·simp only[QB]at D
   have hlt:a.toNat<l.length:=by omega
   have hlv:a.toNat<t.Vars.length:=by omega
   have ed:idx d a=some l[a.toNat]:=by
    rw[WN D,hJ,Jz (by simp;omega),Kd,if_pos (by omega),Qy hlt]
   have ev:idx t.Vars a=some t.Vars[a.toNat]:=by rw[WN D,Qy hlv]
   rw[ed,Qd,ev,Qd]
   refine T0 (WK _ _ h.1).self λz hz=>?_
   obtain⟨hze,hz⟩:=hz
   have hsz:(XO n t)[a.toNat]? = some z:=by
    unfold XO
    rw[Yf,Qy hlv,Ww,hze];rfl
   have h2:=hd _ (Xn hlt)
   rw[XD (by omega)]
   refine T2 ⟨λht=>⟨D,λe s he hs=>?_⟩,λhf e s _ he hs=>?_⟩
   ·rw[Qy hlt]at he
    cases he
    rw[hsz]at hs;cases hs
    simp only[QB]at ht
    omega
   rw[Qy hlt]at he
   cases he
   rw[hsz]at hs;cases hs
   simp only[QX]at hf
   omega
  simp only[QX]at D;omega
 unfold Uv
 refine T1 (λD=>?_) λD=>?_
 ·obtain⟨ha,ha2⟩:=hx.1 D
  refine T0 (T4 ha (by omega)) λ_ _=>?_
  have hw2:Qi (a-1)=a-1:=XD (by omega)
  refine T2 (QJ ⟨by omega,?_,?_,λj x s hj hx hs=>?_⟩)
  ·show(l.length:Int)-1-Qi (a-1)=_
   rw[hw2];omega
  ·show d.set a.toNat 0=l.take (Qi (a-1)+1).toNat++List.replicate (l.length-(Qi (a-1)+1).toNat) 0
   rw[hw2,hJ,show(a+1).toNat=a.toNat+1 by omega,QhS (by omega),show(a-1+1).toNat=a.toNat by omega]
   rw[show l.length-a.toNat=(l.length-(a.toNat+1))+1 by omega,List.replicate_succ]
  replace hj:Qi (a-1)<(j:Int):=hj
  rw[hw2]at hj
  by_cases c:a<(j:Int)
  ·exact hJ2 j x s c hx hs
  have:a.toNat=j:=by omega
  subst this
  exact ha2 x s hx hs
 exact T2 (Qq ⟨⟨by omega,by omega,hJ⟩,hJ2,hx.2 D⟩)
def Qng (n:Qk)(m:L_ QBg)(b:Xf)(l:L_ LI_)(h:Xd n)(hb:BOk n m b)(hl:Ln l):Qj (KX l b) λr=>(r=-1/\∀row∈l,Fc b row=true)\/∃i:Nat,r=(i:Int)/\i<l.length/\(∀row∈l.take i,Fc b row=true)/\∀row,l[i]? = some row->Fc b row=false:=by
 have hl1:=hl.1
 unfold KX
 refine T0 (Qj.up l.length (λst=>st) (λst=>∀row∈l.take st.toNat,Fc b row=true) (Q:=λq:Int⊕Unit=>(∀x,q=.inl x->∃i:Nat,x=(i:Int)/\i<l.length/\(∀row∈l.take i,Fc b row=true)/\∀row,l[i]? = some row->Fc b row=false)/\(q=.inr ()->∀row∈l,Fc b row=true)) rfl (λrow h=>by cases h) (λi st hi hn hJ=>?_)) (λq hq=>?_)
 ·replace hi:st=(i:Int):=hi
  subst hi
  replace hJ:∀row∈l.take (i:Int).toNat,Fc b row=true:=hJ
  rw[XC]at hJ
  show Qj (Di l b i) _
  unfold Di CE
  refine T1 (λhc=>?_) (λhc=>T2 (Qq ⟨λx h=>(by cases h),λ_=>?_⟩))
  ·simp only[QB]at hc
   have D:i<l.length:=by omega
   rw[QP,Qy D,Qd]
   have:=hl.2 _ (Xn D)
   refine T0 (P:=λc:Bool=>c=!Fc b l[i]) ?_ λc hcc=>?_
   ·refine T0 (QkM n m b l[i] h hb (by omega)).self λg hg=>T2 ?_
    unfold Fc
    rw[hg.1];exact ne0 g
   subst hcc
   refine T1 (λhc2=>T2 (Qq ⟨λx e=>(by cases e;exact⟨i,rfl,D,hJ,λrow hr=>by rw[Qy D]at hr;cases hr;simpa using hc2⟩),λe=>by cases e⟩)) λhc2=>?_
   have hw:Qi ((i:Int)+1)=((i+1:Nat):Int):=Qt D (by unfold maxLen;omega:l.length<=maxLen)
   refine T2 (QJ ⟨D,hw,?_⟩)
   show ∀row∈l.take (Qi ((i:Int)+1)).toNat,Fc b row=true
   rw[hw,XC,ED,Qy D]
   intro row hr
   rcases YD.1 hr with hr | hr
   ·exact hJ row hr
   simp at hr;subst hr;simpa using hc2
  simp only[QX]at hc
  rwa[JR (by omega)]at hJ
 rcases q with q | q
 ·exact T2 (.inr (hq.1 q rfl))
 exact T2 (.inl ⟨rfl,hq.2 rfl⟩)
def Qnh (n:Qk)(m:L_ QBg)(b:Xf)(l:L_ LI_)(h:Xd n)(hb:BOk n m b)(hl:Ln l):Qj (KK l b) λr=>r=l.filter (Fc b):=by
 have hl1:=hl.1
 unfold KK
 refine T0 (Qng n m b l h hb hl) λx hx=>?_
 rcases hx with⟨rfl,hx⟩|⟨D,rfl,hi0,hx1,hx2⟩
 ·exact T1 (λ_=>T2 (List.filter_eq_self.2 hx).symm) λhc=>by simp at hc
 refine T1 (λhc=>by simp at hc) λ_=>?_
 have hw:Qi ((D:Int)+1)=(D:Int)+1:=XD (by omega)
 have hbad:=hx2 _ (Qy hi0)
 refine T0 (Qj.up (l.length-(D+1)) (λst=>st.2.1-((D:Int)+1)) (λst=>0<=st.1/\st.1<st.2.1/\st.2.2.length=l.length/\st.2.2.take st.1.toNat=(l.take st.2.1.toNat).filter (Fc b)/\st.2.2.drop st.2.1.toNat=l.drop st.2.1.toNat) (Q:=λq:Int×L_ LI_=>0<=q.1/\q.1<=(l.length:Int)/\q.2.length=l.length/\q.2.take q.1.toNat=l.filter (Fc b)) (by show Qi ((D:Int)+1)-((D:Int)+1)=0;omega) ⟨by show(0:Int)<=D;omega,by show(D:Int)<Qi ((D:Int)+1);omega,rfl,?_,rfl⟩ (λi st hi hn hJ=>?_)) (λq hq=>?_)
 ·show l.take (D:Int).toNat=(l.take (Qi ((D:Int)+1)).toNat).filter (Fc b)
  rw[hw,XC,show((D:Int)+1).toNat=D+1 by omega,ED,Qy hi0,List.filter_append,List.filter_eq_self.2 hx1]
  show l.take D=l.take D++List.filter (Fc b) [l[D]]
  rw[Nj,hbad]
  exact(QbO _).symm
 ·obtain⟨a,j,l2⟩:=st
  replace hi:j-((D:Int)+1)=i:=hi
  obtain⟨j1,j2,j3,j4,j5⟩:0<=a/\a<j/\l2.length=l.length/\l2.take a.toNat=(l.take j.toNat).filter (Fc b)/\l2.drop j.toNat=l.drop j.toNat:=hJ
  show Qj (JU b a j l2) _
  unfold JU CE
  refine T1 (λhc=>?_) (λhc=>T2 (Qq ⟨j1,?_,j3,?_⟩))
  ·simp only[QB]at hc
   have hj:j.toNat<l2.length:=by omega
   have hj':j.toNat<l.length:=by omega
   have ej:l2[j.toNat]=l[j.toNat]:=by
    have:=congrArg List.head? j5
    rw[Lt hj,Lt hj']at this
    exact Option.some.inj this
   have ej5:l2.drop (j.toNat+1)=l.drop (j.toNat+1):=by
    have:=congrArg List.tail j5
    simpa using this
   rw[Ng (by omega) (by omega),Qd]
   have:=hl.2 _ (Xn hj')
   have hw2:Qi (j+1)=j+1:=XD (by omega)
   have hw3:Qi (a+1)=a+1:=XD (by omega)
   have tk:l.take (j+1).toNat=l.take j.toNat++[l[j.toNat]]:=by
    rw[show(j+1).toNat=j.toNat+1 by omega,ED,Qy hj'];rfl
   refine T0 (P:=λc:Bool=>c=!Fc b l[j.toNat]) ?_ λc hcc=>?_
   ·rw[ej]
    refine T0 (QkM n m b l[j.toNat] h hb (by omega)).self λg hg=>T2 ?_
    unfold Fc
    rw[hg.1];exact ne0 g
   subst hcc
   refine T1 (λhc2=>?_) λhc2=>?_
   ·have hc2:Fc b l[j.toNat]=true:=by simpa using hc2
    refine T0 (T4 (by omega) (by omega)) λ_ _=>?_
    refine T2 (QJ ⟨by omega,by show Qi (j+1)-((D:Int)+1)=_;omega,by show 0<=Qi (a+1);omega,by show Qi (a+1)<Qi (j+1);omega,by simpa using j3,?_,?_⟩)
    ·show(l2.set a.toNat l2[j.toNat]).take (Qi (a+1)).toNat=(l.take (Qi (j+1)).toNat).filter (Fc b)
     rw[hw2,hw3,tk,List.filter_append,<-j4,show(a+1).toNat=a.toNat+1 by omega,ED,QeJ (by omega),List.take_set_of_le (YY _),ej]
     simp[hc2]
    show(l2.set a.toNat l2[j.toNat]).drop (Qi (j+1)).toNat=l.drop (Qi (j+1)).toNat
    rw[hw2,show(j+1).toNat=j.toNat+1 by omega,List.drop_set_of_lt (by omega),ej5]
   have hc2:Fc b l[j.toNat]=false:=by simpa using hc2
   refine T2 (QJ ⟨by omega,by show Qi (j+1)-((D:Int)+1)=_;omega,j1,by show a<Qi (j+1);omega,j3,?_,?_⟩)
   ·show l2.take a.toNat=(l.take (Qi (j+1)).toNat).filter (Fc b)
    rw[hw2,tk,List.filter_append,<-j4]
    simp[hc2]
   show l2.drop (Qi (j+1)).toNat=l.drop (Qi (j+1)).toNat
   rw[hw2,show(j+1).toNat=j.toNat+1 by omega,ej5]
  ·simp only[QX]at hc
   show a<=_
   omega
  simp only[QX]at hc
  show l2.take a.toNat=_
  rw[j4,JR (by omega)]
 obtain⟨q1,q2⟩:=q
 obtain⟨h1,h2,h3,h4⟩:0<=q1/\q1<=l.length/\q2.length=l.length/\q2.take q1.toNat=l.filter (Fc b):=hq
 show Qj (JV q1 q2) _
 unfold JV
 refine T0 (T5 (by simp only[QQ,QB];omega)) λ_ _=>?_
 refine T0 (T5 (by simp only[QQ,QB,JI,WZ,TC];omega)) λ_ _=>?_
 refine T2 ?_
 rw[QeL (by simp;omega),List.take_take,Nat.min_self,h4]
def Qor (n:Qk)(m:L_ QBg)(task most:Int)(l5 l8:L_ Qg)(D outs:L_ LI_)(p:LI_)(h:Xd n)(hm:QV (QV λ_=>True) m)(hmost:most<=4294967296\/l8.length+(WX n m task D outs p).length<=4294967296)
  (hi:Ln D) (ho:Ln outs) (hp:p.length<=16) (ha:(l8.length:Int)<most):
  Qj (EI n m task most l5 D outs l8 p) λr=>r=Ja most.toNat l8 (WX n m task D outs p):=by
 have hil:=hi.1
 have hol:=ho.1
 unfold EI
 refine T0 (Qny n m task p h).self λx hx=>?_
 obtain⟨c,b⟩:=x
 obtain⟨hxe,hx⟩:=hx
 refine T0 (P:=λy=>(y=true->WX n m task D outs p=[])/\(y=false->BOk n m b/\c=0/\XF b=some 0)) ?_ λy hy=>?_
 ·unfold IY
  refine T1 (λhc=>T2 ⟨λ_=>?_,λh=>by cases h⟩) λhc=>?_
  ·unfold WX
   rw[hxe]
   simp only
   rw[if_neg λe=>by simp[e.1]at hc]
  have hc:c=0:=by simpa using hc
  have hb:=hx hc
  refine T0 (Qk8 n m b h hb).self λg hg=>T2 ⟨λhg2=>?_,λhg2=>⟨hb,hc,?_⟩⟩
  ·unfold WX
   rw[hxe]
   simp only
   rw[if_neg λe=>by rw[hg.1]at e;simp at e;simp[e.2]at hg2]
  rw[hg.1];simpa using hg2
 unfold Ge
 refine T1 (λhc=>T2 ?_) λhc=>?_
 ·rw[hy.1 hc,OP (by omega)]
 obtain⟨hb,hc0,hgd⟩:=hy.2 hc
 refine T0 (P:=λz=>z=outs) (by unfold DJ;exact T0 (T5 (by simp;omega)) λ_ _=>T2 rfl) λx19 h19=>?_
 rw[h19]
 refine T0 (Qnh n m b outs h hb ho) λx20 h20=>?_
 have h20l:x20.length<=16:=by rw[h20];exact Yb (QeK _ _) ho.1
 have h20e:∀r∈x20,r.length<=16:=λr hr=>by rw[h20]at hr;exact ho.2 r (Lx.1 hr).1
 have hR:WX n m task D outs p=D.flatMap λe=>if XA b e=some 0 then x20.map (λo=>Qg.mk task p e o)else []:=by
  unfold WX
  rw[hxe]
  simp only
  rw[if_pos ⟨hc0,hgd⟩,h20]
 rw[hR]at hmost ⊢
 generalize hg:(λe=>if XA b e=some 0 then x20.map (λo=>Qg.mk task p e o)else [])=g at hmost ⊢
 refine T0 (Qj.up D.length (λst=>st.1) (λst=>(st.2.length:Int)<most/\Ja most.toNat st.2 ((D.drop st.1.toNat).flatMap g)=Ja most.toNat l8 (D.flatMap g)/\st.2.length+((D.drop st.1.toNat).flatMap g).length=l8.length+(D.flatMap g).length) (Q:=λq=>q=Ja most.toNat l8 (D.flatMap g)) rfl ⟨ha,rfl,rfl⟩ (λi st hi2 hn hJ=>?_)) (λq hq=>?_)
 ·obtain⟨j,l⟩:=st
  replace hi2:j=(i:Int):=hi2
  subst hi2
  obtain⟨hJ1,hJ2,hJ3⟩:(l.length:Int)<most/\Ja most.toNat l ((D.drop (i:Int).toNat).flatMap g)=Ja most.toNat l8 (D.flatMap g)/\l.length+((D.drop (i:Int).toNat).flatMap g).length=l8.length+(D.flatMap g).length:=hJ
  rw[XC]at hJ2 hJ3
  show Qj (Gd D (c,b) x20 p task most i l) _
  unfold Gd
  refine T1 (λhc=>?_) (λhc=>T2 (Qq ?_))
  ·simp only[QB]at hc
   have hlt:i<D.length:=by omega
   have hel:=hi.2 _ (Xn hlt)
   rw[QP,Qy hlt,Qd]
   rw[Lt hlt,EC,QeV]at hJ2
   rw[Lt hlt,EC,JI]at hJ3
   have next:∀l',(l'.length:Int)<most->Ja most.toNat l' ((D.drop (i+1)).flatMap g)=Ja most.toNat l8 (D.flatMap g)->l'.length+((D.drop (i+1)).flatMap g).length=l8.length+(D.flatMap g).length->Qj (Wc i l') λo=>(∀s',o=.inl s'->i<D.length/\s'.1=((i+1:Nat):Int)/\(s'.2.length:Int)<most/\Ja most.toNat s'.2 ((D.drop s'.1.toNat).flatMap g)=Ja most.toNat l8 (D.flatMap g)/\s'.2.length+((D.drop s'.1.toNat).flatMap g).length=l8.length+(D.flatMap g).length)/\∀r:L_ Qg⊕L_ Qg,o=.inr r->r=Ja most.toNat l8 (D.flatMap g):=λl' hl1 hl2 hl3=>by
    have hw:Qi ((i:Int)+1)=((i+1:Nat):Int):=Qt hlt (by unfold maxLen;omega:D.length<=maxLen)
    unfold Wc
    exact T2 (QJ (ix:=λst:Int×L_ Qg=>st.1) (J:=λst:Int×L_ Qg=>(st.2.length:Int)<most/\Ja most.toNat st.2 ((D.drop st.1.toNat).flatMap g)=Ja most.toNat l8 (D.flatMap g)/\st.2.length+((D.drop st.1.toNat).flatMap g).length=l8.length+(D.flatMap g).length) ⟨hlt,hw,hl1,by
     show Ja most.toNat l' ((D.drop (Qi ((i:Int)+1)).toNat).flatMap g)=_/\l'.length+((D.drop (Qi ((i:Int)+1)).toNat).flatMap g).length=_
     rw[hw,XC];exact⟨hl2,hl3⟩⟩)
   refine T0 (Qnz n m b D[i] h hb hm (by omega)).self λz hz=>?_
   refine T1 (λhc2=>?_) λhc2=>?_
   ·have:g D[i]=[]:=by
     rw[<-hg];simp only
     rw[if_neg λe=>by rw[hz.1]at e;simp at e;simp[e]at hc2]
    rw[this,OP (by omega)]at hJ2
    rw[this]at hJ3
    exact next l hJ1 hJ2 (by simpa using hJ3)
   have hge:g D[i]=x20.map (λo=>Qg.mk task p D[i] o):=by
    rw[<-hg];simp only
    rw[if_pos (by rw[hz.1];simpa using hc2)]
   rw[hge]at hJ2 hJ3
   rw[Lv]at hJ3
   refine T0 (Qj.up x20.length (λst=>st.1) (λst=>(st.2.length:Int)<most/\Ja most.toNat st.2 ((x20.drop st.1.toNat).map λo=>Qg.mk task p D[i] o)=Ja most.toNat l (x20.map λo=>Qg.mk task p D[i] o)/\(st.2.length:Int)=l.length+st.1) (Q:=λq=>q=Ja most.toNat l (x20.map λo=>Qg.mk task p D[i] o)) rfl ⟨hJ1,rfl,by simp⟩ (λi2 st hi3 hn2 hK=>?_)) (λq hq=>?_)
   ·obtain⟨j2,l2⟩:=st
    replace hi3:j2=(i2:Int):=hi3
    subst hi3
    obtain⟨hK1,hK2,hK3⟩:(l2.length:Int)<most/\Ja most.toNat l2 ((x20.drop (i2:Int).toNat).map λo=>Qg.mk task p D[i] o)=Ja most.toNat l (x20.map λo=>Qg.mk task p D[i] o)/\(l2.length:Int)=l.length+(i2:Int):=hK
    rw[XC]at hK2
    show Qj (Gc x20 p D[i] task most i2 l2) _
    unfold Gc
    refine T1 (λhc=>?_) (λhc=>T2 (Qq ?_))
    ·simp only[QB]at hc
     have hlt2:i2<x20.length:=by omega
     have hel2:=h20e _ (Xn hlt2)
     rw[QP,Qy hlt2,Qd]
     rw[Lt hlt2,Ul,QqC]at hK2
     rw[OQ p (by omega),Qd,OQ D[i] (by omega),Qd,OQ x20[i2] (by omega),Qd]
     refine T0 (T5 (by simp;omega)) λ_ _=>?_
     refine T1 (λhc2=>T2 (Qq ?_)) λhc2=>?_
     ·simp only[beq_iff_eq,JI,HW]at hc2
      rw[QqB (by simp;omega)]at hK2
      exact hK2
     simp only[beq_eq_false_iff_ne,JI,HW]at hc2
     have hw:Qi ((i2:Int)+1)=((i2+1:Nat):Int):=Qt hlt2 (by unfold maxLen;omega:x20.length<=maxLen)
     refine T2 (QJ ⟨hlt2,hw,by show((l2++[_]).length:Int)<most;simp;omega,?_,by show((l2++[_]).length:Int)=l.length+Qi ((i2:Int)+1);rw[hw];simp;omega⟩)
     show Ja most.toNat (l2++[_]) ((x20.drop (Qi ((i2:Int)+1)).toNat).map _)=_
     rw[hw,XC];exact hK2
    simp only[QX]at hc
    rw[QbQ (by omega),List.map_nil,OP (by omega)]at hK2
    exact hK2
   rw[<-hq]at hJ2
   rcases q with q | q
   ·exact T2 (Qq hJ2)
   exact next q (by have:=Qjj hq.symm;omega) hJ2 (by
    have e:=congrArg List.length (QeW hq.symm)
    rw[JI,Lv]at e
    omega)
  simp only[QX]at hc
  rw[QbQ (by omega),List.flatMap_nil,OP (by omega)]at hJ2
  exact hJ2
 rcases q with q | q
 ·exact T2 hq
 exact T2 hq
def QlK (n:Qk)(m:L_ QBg)(D most:Int)(l5:L_ Qg)(ins outs:L_ LI_)(t:QI)(h:Xd n)(hm:QV (QV λ_=>True) m)(hmost:most<=4294967296\/((binds (XO n t)).flatMap (WX n m D ins outs)).length<=4294967296)(h1:1<=most)
  (hi:Ln ins) (ho:Ln outs) (ht:t∈n.Tasks):Qj (Cj n m D most l5 ins outs [] t n) λr=>∀a,r=.inl a\/r=.inr a->a=((binds (XO n t)).flatMap (WX n m D ins outs)).take most.toNat:=by
 have hv:=(h.tk t ht).1
 have hsz:(XO n t).length=t.Vars.length:=by simp[XO]
 generalize hrl:WX n m D ins outs=rl at hmost ⊢
 have fin:∀q:L_ Qg⊕L_ Qg,q.swap=Ja most.toNat [] ((binds (XO n t)).flatMap rl)->∀a,q=.inl a\/q=.inr a->a=((binds (XO n t)).flatMap rl).take most.toNat:=λq hq a ha=>by
  rw[<-Qmv (by omega:0<most.toNat),<-hq]
  rcases ha with rfl | rfl<;>rfl
 unfold Cj
 refine T0 (T5 (by simp only[QQ,QB];omega)) λ_ _=>?_
 refine T0 (Qk9 (λst=>(Jl (XO n t) st.1).length) (λst=>st.1.length=t.Vars.length/\(∀d∈st.1,0<=d/\d<=1024)/\(st.2.length:Int)<most/\Ja most.toNat st.2 ((st.1::Jl (XO n t) st.1).flatMap rl)=Ja most.toNat [] ((binds (XO n t)).flatMap rl)/\st.2.length+((st.1::Jl (XO n t) st.1).flatMap rl).length=((binds (XO n t)).flatMap rl).length) (Q:=λq:L_ Qg⊕L_ Qg=>q.swap=Ja most.toNat [] ((binds (XO n t)).flatMap rl))
  ⟨by simp,λd hd=>by have:=RZ hd;omega,by simp;omega,?_⟩ (λst hJ=>?_)) (λq hq=>?_)
 ·show Ja most.toNat [] ((List.replicate (t.Vars.length:Int).toNat 0::Jl (XO n t) (List.replicate (t.Vars.length:Int).toNat 0)).flatMap rl)=_/\0+((List.replicate (t.Vars.length:Int).toNat 0::Jl (XO n t) (List.replicate (t.Vars.length:Int).toNat 0)).flatMap rl).length=_
  rw[Qba (XO n t),Ht,hsz,XC,US]
  exact⟨rfl,rfl⟩
 ·obtain⟨d,l⟩:=st
  obtain⟨j1,j2,j3,j4,j5⟩:d.length=t.Vars.length/\(∀d'∈d,0<=d'/\d'<=1024)/\(l.length:Int)<most/\Ja most.toNat l ((d::Jl (XO n t) d).flatMap rl)=Ja most.toNat [] ((binds (XO n t)).flatMap rl)/\l.length+((d::Jl (XO n t) d).flatMap rl).length=((binds (XO n t)).flatMap rl).length:=hJ
  rw[EC,JI]at j5
  show Qj (Uy n m D most l5 ins outs t n d l) _
  unfold Uy
  rw[OQ d (by omega),Qd]
  refine T0 (Qor n m D most l5 l ins outs d h hm (by rw[hrl];omega) hi ho (by omega) j3) λr hr=>?_
  rw[hrl]at hr
  rw[EC,QeV,<-hr]at j4
  rcases r with r | r
  ·exact T2 ⟨λs' e=>(by cases e),λq e=>(by cases e;exact j4)⟩
  have hacc:=Qjj hr.symm
  have hlen:=congrArg List.length (QeW hr.symm)
  rw[JI]at hlen
  replace j4:Ja most.toNat r ((Jl (XO n t) d).flatMap rl)=Ja most.toNat [] ((binds (XO n t)).flatMap rl):=j4
  show Qj (Ux t n d r) _
  unfold Ux
  refine T0 (Qla t n d h.k j1 hv j2) λq hq=>?_
  obtain⟨a,d2⟩:=q
  obtain⟨⟨q1,q2,q3⟩,q4,q5⟩:(-1<=a/\a<d.length/\d2=d.take (a+1).toNat++List.replicate (d.length-(a+1).toNat) 0)/\(∀(j:Nat) x s,a<(j:Int)->d[j]? = some x->(XO n t)[j]? = some s->¬x+1<s)/\∀x s,0<=a->d[a.toNat]? = some x->(XO n t)[a.toNat]? = some s->x+1<s/\x<1024:=hq
  have hnx:=Qji (XO n t) d
  show Qj (Uw r a d2) _
  unfold Uw
  refine T1 (λhc=>T2 ⟨λs' e=>(by cases e),λq e=>(by
   cases e
   simp only[QB]at hc
   rw[Qek (XO n t) d λj x s=>q4 j x s (by omega)]at hnx
   simp only at hnx
   rw[hnx,List.flatMap_nil,OP hacc]at j4
   exact j4)⟩) λhc=>?_
  simp only[QX]at hc
  have hlt:a.toNat<d.length:=by omega
  have hls:a.toNat<(XO n t).length:=by omega
  have ed:idx d2 a=some d[a.toNat]:=by
   rw[WN (by omega),q3,Jz (by simp;omega),Kd,if_pos (by omega),Qy hlt]
  rw[ed,Qd,Qd]
  have h9:=q5 _ _ (by omega) (Qy hlt) (Qy hls)
  have h10:=j2 _ (Xn hlt)
  rw[XD (by omega)]
  have e3:d2.set a.toNat (d[a.toNat]+1)=d.take a.toNat++(d[a.toNat]+1)::List.replicate (d.length-(a.toNat+1)) 0:=by
   rw[q3,show(a+1).toNat=a.toNat+1 by omega,QhS hlt]
  rw[e3]
  have hd3:∀x∈d.take a.toNat++(d[a.toNat]+1)::List.replicate (d.length-(a.toNat+1)) 0,0<=x/\x<=1024:=λx hx=>by
   rcases YD.1 hx with hx | hx
   ·exact j2 x (Bf hx)
   rcases Yw.1 hx with rfl | hx
   ·omega
   have:=RZ hx;omega
  have hlen2:(d.take a.toNat++(d[a.toNat]+1)::List.replicate (d.length-(a.toNat+1)) 0).length=t.Vars.length:=by simp;omega
  rw[Qnu a.toNat (XO n t) d _ _ (by omega) (Qy hlt) (Qy hls) h9.1 λj y z hj=>q4 j y z (by omega)]at hnx
  simp only at hnx
  rw[hnx]at j4
  exact T2 ⟨λs' e=>(by
   cases e
   refine⟨?_,hlen2,hd3,by show(r.length:Int)<most;omega,j4,by show r.length+(List.flatMap rl (_::_)).length=_;rw[<-hnx];omega⟩
   show(Jl (XO n t) (d.take a.toNat++(d[a.toNat]+1)::List.replicate (d.length-(a.toNat+1)) 0)).length<(Jl (XO n t) d).length
   rw[hnx,GF];omega),λq e=>(by cases e)⟩
 rcases q with q | q
 ·exact T2 λa ha=>fin _ hq a (by rcases ha with ha | ha<;>cases ha;exact .inl rfl)
 exact T2 λa ha=>fin _ hq a (by rcases ha with ha | ha<;>cases ha;exact .inr rfl)
def GB (D h:Int):L_ LI_:=(YO D h).getD []
def Yd (n:Qk)(m:L_ QBg)(h:Int):L_ Qg:=match idx n.Tasks h with
 | some t=>(binds (XO n t)).flatMap (WX n m h (GB t.Join t.Ins.length) (GB t.Split t.Outs.length))
 | none=>[]
def QcC (n:Qk)(m:L_ QBg)(D most:Int)(h:Xd n)(hm:QV (QV λ_=>True) m)(hmost:most<=4294967296\/(Yd n m D).length<=4294967296):CG n m D most=some ((Yd n m D).take most.toNat):=by
 have key:Qj (CG n m D most) λr=>r=(Yd n m D).take most.toNat:=by
  unfold CG
  refine T1 (λhc=>T2 ?_) λhc=>?_
  ·simp only[KE,QB]at hc
   rcases hc with hc | hc | hc
   ·unfold Yd idx
    rw[if_neg (by omega)];simp
   ·unfold Yd idx
    rw[if_pos (by omega),Sa (by omega)];simp
   rw[show most.toNat=0 by omega,List.take_zero]
  simp only[Kw,QX]at hc
  refine T0 (T4 (by omega) (by omega)).self λe he=>?_
  refine T0 (QaM _ _).self λx hx=>?_
  refine T0 (QaM _ _).self λy hy=>?_
  refine T0 (P:=λz=>z=(n,e)) (T2 rfl) λz hz=>?_
  subst hz
  have hml:Yd n m D=(binds (XO n e)).flatMap (WX n m D x y):=by
   unfold Yd GB
   rw[he.1]
   simp only
   rw[hx.1,hy.1];rfl
  refine T0 (QlK n m D most [] x y e h hm (by rw[<-hml];exact hmost) (by omega) hx.2 hy.2 he.2) λr hr=>?_
  rw[hml]
  rcases r with r | r
  ·exact T2 (hr r (.inl rfl))
  exact T2 (hr r (.inr rfl))
 obtain⟨r,h1,h2⟩:=key
 rw[h1,h2]
def YW (n:Qk)(m:L_ QBg):L_ Qg:=(List.range n.Tasks.length).flatMap λ(k:Nat)=>Yd n m (k:Int)
def QqJ {α:Type}(f:Nat->L_ α)(N:Nat):∀k,k<=N->∃r,(List.range N).flatMap f=(List.range k).flatMap f++r:=by
 induction N with
 | zero=>intro k h;exact⟨[],by rw[show k=0 by omega];rfl⟩
 | succ N ih=>
  intro k h
  by_cases c:k=N+1
  ·subst c;exact⟨[],by simp⟩
  obtain⟨r,D⟩:=ih k (by omega)
  exact⟨r++f N,by rw[List.range_succ,QeG,List.flatMap_singleton,D,WY]⟩
def QcD (n:Qk)(m:L_ QBg)(most:Int)(h:Xd n)(hm:QV (QV λ_=>True) m)(h0:0<=most)(h1:most<=9223372036854775807)(hmost:most<=4294967296\/(YW n m).length<=4294967296):Bl n m most=some ((YW n m).take most.toNat):=by
 have key:Qj (Bl n m most) λr=>r=(YW n m).take most.toNat:=by
  unfold Bl
  refine T0 (Qj.up n.Tasks.length (λst=>st.1) (λst=>st.2=((List.range st.1.toNat).flatMap λ(k:Nat)=>Yd n m (k:Int)).take most.toNat) (Q:=λq=>q=(YW n m).take most.toNat) rfl (by simp) (λi st hi hn D=>?_)) (λq hq=>T2 hq)
  obtain⟨x,l⟩:=st
  replace hi:x=(i:Int):=hi
  subst hi
  replace D:l=((List.range (i:Int).toNat).flatMap λ(k:Nat)=>Yd n m (k:Int)).take most.toNat:=D
  rw[XC]at D
  show Qj (Gx n m most i l) _
  unfold Gx
  refine T1 (λhc=>?_) (λhc=>T2 (Qq ?_))
  ·simp only[QB]at hc
   have hll:l.length<=most.toNat:=by rw[D];exact List.length_take_le _ _
   have hw:Qi (most-(l.length:Int))=most-(l.length:Int):=XD (by omega)
   obtain⟨rest,hrest⟩:=QqJ (λ(k:Nat)=>Yd n m (k:Int)) n.Tasks.length (i+1) (by omega)
   have hle:((List.range i).flatMap λ(k:Nat)=>Yd n m (k:Int)).length+(Yd n m (i:Int)).length<=(YW n m).length:=by
    unfold YW
    rw[hrest,List.range_succ,QeG,List.flatMap_singleton];simp
   have hl2:l.length<=((List.range i).flatMap λ(k:Nat)=>Yd n m (k:Int)).length:=by rw[D];exact List.length_take_le' _ _
   rw[hw,QcC n m i _ h hm (by omega),Qd]
   have e:l++(Yd n m (i:Int)).take (most-(l.length:Int)).toNat=((List.range (i+1)).flatMap λ(k:Nat)=>Yd n m (k:Int)).take most.toNat:=by
    rw[List.range_succ,QeG,List.flatMap_singleton,List.take_append,<-D]
    congr 1
    by_cases c:((List.range i).flatMap λ(k:Nat)=>Yd n m (k:Int)).length<=most.toNat
    ·have:l.length=((List.range i).flatMap λ(k:Nat)=>Yd n m (k:Int)).length:=by rw[D,WZ];omega
     congr 1;omega
    have:l.length=most.toNat:=by rw[D,WZ];omega
    rw[show(most-(l.length:Int)).toNat=0 by omega,show most.toNat-((List.range i).flatMap λ(k:Nat)=>Yd n m (k:Int)).length=0 by omega]
   rw[e]
   refine T0 (T5 (by
    have:=List.length_take_le (most-(l.length:Int)).toNat (Yd n m (i:Int))
    have:=List.length_take_le' (most-(l.length:Int)).toNat (Yd n m (i:Int))
    simp only[QB];omega)) λ_ _=>?_
   have hw2:Qi ((i:Int)+1)=((i+1:Nat):Int):=Qt (by omega:i<n.Tasks.length) h.k.2.2.1.1
   refine T2 (QJ ⟨by omega,hw2,?_⟩)
   show _=((List.range (Qi ((i:Int)+1)).toNat).flatMap λ(k:Nat)=>Yd n m (k:Int)).take most.toNat
   rw[hw2,XC]
  simp only[QX]at hc
  rw[D,show i=n.Tasks.length by omega];rfl
 obtain⟨r,h1,h2⟩:=key
 rw[h1,h2]
def Qpy {n:Qk}{m:L_ QBg}{D:Int}{ins outs:L_ LI_}{p:LI_}{o:Qg}:
  o∈WX n m D ins outs p↔o.Task=D/\o.Vars=p/\o.Ins∈ins/\o.Outs∈outs/\∃b,YV n m D p=some (0,b)/\XF b=some 0/\XA b o.Ins=some 0/\XZ b o.Outs=some 0:=by
 unfold WX
 cases hb:YV n m D p with
 | none=>simp
 | some x=>
  obtain⟨c,b⟩:=x
  simp only
  by_cases hc:c=0/\XF b=some 0
  ·rw[if_pos hc]
   obtain⟨rfl,hg⟩:=hc
   simp only[List.mem_flatMap]
   constructor
   ·rintro ⟨e,he,h⟩
    by_cases ht:XA b e=some 0
    ·rw[if_pos ht]at h
     obtain⟨r,hr,rfl⟩:=YL.1 h
     obtain⟨h1,h2⟩:=Lx.1 hr
     exact⟨rfl,rfl,he,h1,b,rfl,hg,ht,Xo h2⟩
    rw[if_neg ht]at h;cases h
   rintro ⟨h1,h2,h3,h4,b',h5,h6,h7,h8⟩
   cases h5
   refine⟨o.Ins,h3,?_⟩
   rw[if_pos h7]
   refine YL.2 ⟨o.Outs,Lx.2 ⟨h4,QE h8⟩,?_⟩
   cases o
   simp only at h1 h2
   subst h1;subst h2;rfl
  rw[if_neg hc]
  constructor
  ·intro h;cases h
  rintro ⟨_,_,_,_,b',h5,h6,_⟩
  cases h5
  exact absurd ⟨rfl,h6⟩ hc
def Fl {n:Qk}{m:L_ QBg}{h:Int}{o:Qg}:
  o∈Yd n m h↔o.Task=h/\∃e,idx n.Tasks h=some e/\inB (XO n e) o.Vars/\o.Ins∈GB e.Join e.Ins.length/\o.Outs∈GB e.Split e.Outs.length/\∃b,YV n m h o.Vars=some (0,b)/\XF b=some 0/\XA b o.Ins=some 0/\XZ b o.Outs=some 0:=by
 unfold Yd
 cases he:idx n.Tasks h with
 | none=>simp
 | some e=>
  simp only[List.mem_flatMap,Qpq,Qpy,Option.some.injEq,exists_eq_left']
  constructor
  ·rintro ⟨p,D,h2,rfl,h3,h4,h5⟩
   exact⟨h2,D,h3,h4,h5⟩
  rintro ⟨D,h2,h3,h4,h5⟩
  exact⟨o.Vars,h2,D,rfl,h3,h4,h5⟩
def QnA {n:Qk}{m:L_ QBg}{o:Qg}:o∈YW n m↔o∈Yd n m o.Task:=by
 unfold YW
 simp only[List.mem_flatMap,An]
 constructor
 ·rintro ⟨k,hk,h⟩
  have:=(Fl.1 h).1
  rwa[this]
 intro h
 obtain⟨_,e,D,_⟩:=Fl.1 h
 have h0:0<=o.Task:=by
  unfold idx at D
  split at D
  ·assumption
  cases D
 rw[WN h0]at D
 have:=(Xj.1 D).1
 exact⟨o.Task.toNat,this,by rwa[show((o.Task.toNat:Nat):Int)=o.Task by omega]⟩
def Qjy (a b:LI_)(ha:a.length<=maxLen):Jw a b=some (decide (a=b)):=by
 have key:Qj (Jw a b) λr=>r=decide (a=b):=by
  unfold Jw
  refine T1 (λhc=>T2 ?_) λhc=>?_
  ·rw[QK λe=>by subst e;simp at hc]
  simp only[WP]at hc
  have hc:a.length=b.length:=by omega
  refine T0 (Qj.up a.length (λst=>st) (λst=>a.take st.toNat=b.take st.toNat) (Q:=λq:Unit⊕Unit=>(q=.inl ()->a≠b)/\(q=.inr ()->a=b)) rfl rfl (λi st hi hn hJ=>?_)) (λq hq=>?_)
  ·replace hi:st=(i:Int):=hi
   subst hi
   replace hJ:a.take (i:Int).toNat=b.take (i:Int).toNat:=hJ
   rw[XC]at hJ
   show Qj (KL a b i) _
   unfold KL
   refine T1 (λD=>?_) (λD=>T2 (Qq ⟨λe=>(by cases e),λ_=>?_⟩))
   ·simp only[QB]at D
    have i1:i<a.length:=by omega
    have i2:i<b.length:=by omega
    rw[QP,Qy i1,Qd,QP,Qy i2,Qd]
    refine T1 (λh=>T2 (Qq ⟨λ_ e=>?_,λe=>by cases e⟩)) λh=>?_
    ·subst e;simp at h
    have hw:Qi ((i:Int)+1)=((i+1:Nat):Int):=Qt i1 ha
    refine T2 (QJ ⟨i1,hw,?_⟩)
    show a.take (Qi ((i:Int)+1)).toNat=b.take (Qi ((i:Int)+1)).toNat
    rw[hw,XC,ED,ED,hJ,Qy i1,Qy i2]
    simp only[WP]at h
    rw[h]
   simp only[QX]at D
   rwa[JR (by omega),JR (by omega)]at hJ
  rcases q with q | q
  ·exact T2 (QK (hq.1 rfl)).symm
  exact T2 (QE (hq.2 rfl)).symm
 obtain⟨r,h1,h2⟩:=key
 rw[h1,h2]
def Ni (D h:Int):YO D h=some (GB D h)/\Ln (GB D h):=by
 obtain⟨r,h1,h2⟩:=QaM D h
 unfold GB
 rw[h1]
 exact⟨rfl,h2⟩
def HD (D h:Int)(row:LI_):Gy D h row=some (decide (row∈GB D h)):=by
 have key:Qj (Gy D h row) λr=>r=decide (row∈GB D h):=by
  unfold Gy KZ KY
  obtain⟨e,hx⟩:=Ni D h
  rw[e,Qd]
  generalize GB D h=x at hx
  have hl:=hx.1
  have key:Qj ((Qu (λst=>YA x row st) 0)) λq:Int⊕Unit=>(∀k,q=.inl k->0<=k/\row∈x)/\(q=.inr ()->row ∉ x):=by
   refine Qj.up x.length (λst=>st) (λst=>row ∉ x.take st.toNat) rfl (by simp) (λi st hi hn hJ=>?_)
   replace hi:st=(i:Int):=hi
   subst hi
   replace hJ:row ∉ x.take (i:Int).toNat:=hJ
   rw[XC]at hJ
   show Qj (YA x row i) _
   unfold YA Ig
   refine T1 (λhc=>?_) (λhc=>T2 (Qq ⟨λk e=>(by cases e),λ_=>?_⟩))
   ·simp only[QB]at hc
    have i1:i<x.length:=by omega
    have:=hx.2 _ (Xn i1)
    rw[QP,Qy i1,Qd,Qjy _ _ (by unfold maxLen;omega)]
    simp only[Qd]
    refine T1 (λhc2=>T2 (Qq ⟨λk e=>(by cases e;exact⟨by omega,by rw[<-Xo hc2];exact Xn i1⟩),λe=>by cases e⟩)) λhc2=>?_
    have hw:Qi ((i:Int)+1)=((i+1:Nat):Int):=Qt i1 (by unfold maxLen;omega:x.length<=maxLen)
    refine T2 (QJ ⟨i1,hw,?_⟩)
    show row ∉ x.take (Qi ((i:Int)+1)).toNat
    rw[hw,XC,ED,Qy i1]
    simp only[Option.toList_some,YD,OW,not_or]
    exact⟨hJ,λe=>of_decide_eq_false hc2 e.symm⟩
   simp only[QX]at hc
   rwa[JR (by omega)]at hJ
  obtain⟨q,hq1,hq2⟩:=key
  rw[hq1]
  rcases q with q | q
  ·have:=hq2.1 q rfl
   refine T2 ?_
   rw[QE this.2]
   exact QE this.1
  refine T2 ?_
  rw[QK (hq2.2 rfl)];rfl
 obtain⟨r,h1,h2⟩:=key
 rw[h1,h2]
def Qpz (l:L_ QD)(k m:Int)(hl:QV Jb l):Qj (WH l k m) λr=>r.2=true->0<=m/\∃z,YC l k=some z/\m<z:=by
 unfold WH YC
 refine T0 (Hw l k hl).self λx hx=>?_
 obtain⟨hxe,hx⟩:=hx
 refine T0 (P:=λr=>r=false->x.1=true/\0<=m/\∃h:0<=k/\k<(x.2.sizes.length:Int),m<x.2.sizes[k.toNat]'(by omega)) ?_ λr hr=>?_
 ·unfold Bj
  refine T1 (λ_=>T2 λh=>by cases h) λD=>?_
  have D:x.1=true:=by simpa using D
  have h:=hx.2 D
  have hk:k.toNat<x.2.sizes.length:=by omega
  have ei:idx x.2.sizes k=some x.2.sizes[k.toNat]:=Ng h.1.1 h.1.2
  refine T0 (P:=λy=>y=true->0<=m/\m<x.2.sizes[k.toNat]) ?_ λy hy=>T2 λhf=>?_
  ·unfold Kf
   refine T0 (P:=λy=>y=true->0<=m/\m<x.2.sizes[k.toNat]) ?_ λy hy=>T2 hy
   unfold GK
   refine T1 (λhc2=>?_) λ_=>T2 λh=>by cases h
   rw[h.2.1,ei,Qd]
   exact T2 λh=>⟨by simpa using hc2,by simpa using h⟩
  have:=hy (by simpa using hf)
  exact⟨D,this.1,h.1,this.2⟩
 unfold Bk
 refine T1 (λ_=>T2 λh=>by cases h) λD=>?_
 obtain⟨h1,h2,h3,h4⟩:=hr D
 have h:=hx.2 h1
 have fin:0<=m/\∃z,((WS l k).bind λx5=>bif (!x5.1)then some 0 else(idx x5.2.sizes k).bind λe7=>some e7)=some z/\m<z:=⟨h2,x.2.sizes[k.toNat]'(by omega),by
  rw[hxe,Qd,h1]
  simp only[GE,Qs]
  rw[Ng h3.1 h3.2];rfl,h4⟩
 refine T0 (Fb x.2 (by omega)) λ_ _=>?_
 refine T1 (λ_=>?_) λ_=>T2 λ_=>fin
 exact T0 (Fb x.2 (by omega)) λ_ _=>T2 λ_=>fin
def Qsb {l d:LI_}(h:d.length=l.length)(D:∀(j:Nat) x s,d[j]? = some x->l[j]? = some s->0<=x/\x<s):inB l d:=by
 induction l generalizing d with
 | nil=>cases d with
  | nil=>trivial
  | cons x d=>simp at h
 | cons s r ih=>cases d with
  | nil=>simp at h
  | cons x d=>
   have:=D 0 x s rfl rfl
   exact⟨this.1,.inr this.2,ih (by simpa using h) λj y z h1 h2=>D (j+1) y z (by simpa using h1) (by simpa using h2)⟩
def Qsc (n:Qk)(task:Int)(D:LI_)(h:Xd n):Qj (Dc n task D) λr=>r.2=0->∃e,idx n.Tasks task=some e/\e∈n.Tasks/\inB (XO n e) D/\∀s∈XO n e,0<s:=by
 unfold Dc
 refine T1 (λ_=>T2 λh=>by cases h) λhc=>?_
 simp only[Kw,QX]at hc
 refine T0 (T4 (by omega) (by omega)).self λe he=>?_
 have hv:=(h.tk e he.2).1
 have ke:=h.k.2.2.1.2 e he.2
 refine T1 (λ_=>T2 λh=>by cases h) λhl=>?_
 simp only[WP]at hl
 have hl:D.length=e.Vars.length:=by omega
 refine T0 (T5 (by simp only[QQ,QB];omega)) λ_ _=>?_
 refine T0 (Qj.up e.Vars.length (λst=>st.1) (λst=>st.2.length=e.Vars.length/\∀(j:Nat) x s,(j:Int)<st.1->D[j]? = some x->(XO n e)[j]? = some s->0<=x/\x<s) (Q:=λq:Unit⊕LI_=>∀out,q=.inr out->inB (XO n e) D/\∀s∈XO n e,0<s) rfl ⟨by simp,λj x s hj=>by simp at hj;omega⟩ (λi st hi hn hJ=>?_)) (λq hq=>?_)
 ·obtain⟨x,l⟩:=st
  replace hi:x=(i:Int):=hi
  subst hi
  obtain⟨hJ,hJ2⟩:l.length=e.Vars.length/\∀(j:Nat) x s,(j:Int)<(i:Int)->D[j]? = some x->(XO n e)[j]? = some s->0<=x/\x<s:=hJ
  show Qj (Db e D n i l) _
  unfold Db
  refine T1 (λhc=>?_) (λhc=>T2 (Qq λout _=>?_))
  ·simp only[QB]at hc
   have i1:i<e.Vars.length:=by omega
   have i2:i<D.length:=by omega
   rw[QP,Qy i1,Qd,QP,Qy i2,Qd]
   refine T0 (Qpz _ _ _ h.k.1) λc hc3=>?_
   refine T1 (λ_=>T2 (Qq λout e=>by cases e)) λhc4=>?_
   obtain⟨h1,z,h2,h3⟩:=hc3 (by simpa using hc4)
   refine T0 (T4 (by omega) (by omega)) λd _=>?_
   have hw:Qi ((i:Int)+1)=((i+1:Nat):Int):=Qt i1 (by unfold maxLen;omega:e.Vars.length<=maxLen)
   refine T2 (QJ ⟨i1,hw,by simpa using hJ,λj x s hj hx hs=>?_⟩)
   replace hj:(j:Int)<Qi ((i:Int)+1):=hj
   rw[hw]at hj
   by_cases cj:j=i
   ·subst cj
    rw[Qy i2]at hx
    cases hx
    unfold XO at hs
    rw[Yf,Qy i1,Ww,h2]at hs
    cases hs
    exact⟨h1,h3⟩
   exact hJ2 j x s (by omega) hx hs
  simp only[QX]at hc
  have hb:∀(j:Nat) x s,D[j]? = some x->(XO n e)[j]? = some s->0<=x/\x<s:=λj x s hx hs=>hJ2 j x s (by have:=(Xj.1 hx).1;omega) hx hs
  refine⟨Qsb (by simp[XO,hl]) hb,λs hs=>?_⟩
  obtain⟨j,hj,rfl⟩:=HX.1 hs
  have hj2:j<D.length:=by simp[XO]at hj;omega
  have:=hb j _ _ (Qy hj2) (Qy hj)
  omega
 rcases q with q | q
 ·exact T2 λh=>by cases h
 exact T2 λ_=>⟨e,he.1,he.2,hq q rfl⟩
def Ml {n:Qk}{m:L_ QBg}{D:Int}{vars:LI_}{b:Xf}(h:Xd n)(e:YV n m D vars=some (0,b)):idx n.Tasks D=some b.task/\b.task∈n.Tasks/\b.net=n/\b.m=m/\(inB (XO n b.task) vars/\∀s∈XO n b.task,0<s)/\Dc n D vars=some (b.env,0):=by
 unfold YV at e
 obtain⟨x,hx,e⟩:=Qv e
 obtain⟨x1,x2⟩:=x
 rcases Xy e with⟨c,e⟩|⟨c,e⟩
 ·simp only[Option.some.injEq,Prod.mk.injEq]at e
  simp only[e.1]at c;cases c
 simp only[WP]at c
 subst c
 obtain⟨t,ht,h1,h2⟩:=Eg (Qsc n D vars h) hx rfl
 rw[ht,Qd]at e
 simp only[Option.some.injEq,Prod.mk.injEq,true_and]at e
 subst e
 exact⟨ht,h1,rfl,rfl,h2,hx⟩
def QaN {n:Qk}{m:L_ QBg}{o:Qg}(h:Xd n)(hm:QV (QV λ_=>True) m)(ho:XQ n o):Yv n m o=some 0↔o∈Yd n m o.Task:=by
 rw[Fl]
 constructor
 ·intro e
  unfold Yv at e
  obtain⟨x,hx,e⟩:=Qv e
  obtain⟨c,b⟩:=x
  have k3:∀g,Jt (c,b) o g=some 0->g=0/\o.Ins∈GB b.task.Join b.task.Ins.length/\o.Outs∈GB b.task.Split b.task.Outs.length/\XA b o.Ins=some 0/\XZ b o.Outs=some 0:=λg e=>by
   unfold Jt at e
   rcases Xy e with⟨c2,e⟩|⟨c2,e⟩
   ·simp only[Option.some.injEq]at e;rw[e]at c2;cases c2
   simp only[WP]at c2
   obtain⟨y,D,e⟩:=Qv e
   unfold Bm at D
   rw[HD,Qd]at D
   unfold Bn at e
   rcases Xy e with⟨_,e⟩|⟨c3,e⟩
   ·cases e
   subst c3
   rcases Xy D with⟨_,D⟩|⟨c4,D⟩
   ·cases D
   rw[HD,Qd]at D
   simp only[Fp,QB]at c4
   simp only[Option.some.injEq,Fp,QB]at D
   obtain⟨z,hz,e⟩:=Qv e
   rcases Xy e with⟨c5,e⟩|⟨c5,e⟩
   ·simp only[Option.some.injEq]at e;rw[e]at c5;cases c5
   simp only[WP]at c5
   subst c5
   obtain⟨w,hw,e⟩:=Qv e
   simp only[Option.some.injEq]at e
   subst e
   exact⟨c2,c4,D,hz,hw⟩
  have fin:c=0->XF b=some 0->(o.Ins∈GB b.task.Join b.task.Ins.length/\o.Outs∈GB b.task.Split b.task.Outs.length/\XA b o.Ins=some 0/\XZ b o.Outs=some 0)->o.Task=o.Task/\∃e,idx n.Tasks o.Task=some e/\inB (XO n e) o.Vars/\o.Ins∈GB e.Join e.Ins.length/\o.Outs∈GB e.Split e.Outs.length/\∃b,YV n m o.Task o.Vars=some (0,b)/\XF b=some 0/\XA b o.Ins=some 0/\XZ b o.Outs=some 0:=λhc hg q=>by
   subst hc
   obtain⟨h1,_,_,_,h2,_⟩:=Ml h hx
   exact⟨rfl,b.task,h1,h2.1,q.1,q.2.1,b,hx,hg,q.2.2.1,q.2.2.2⟩
  rcases Xy e with⟨c1,e⟩|⟨c1,e⟩
  ·simp only[beq_iff_eq]at c1
   obtain⟨g,hg,e⟩:=Qv e
   obtain⟨rfl,q⟩:=k3 g e
   exact fin c1 hg q
  have e1:=(k3 _ e).1
  simp only[beq_eq_false_iff_ne]at c1
  exact absurd e1 c1
 rintro ⟨_,e,he,h1,h2,h3,b,hb,hg,ht,hv⟩
 obtain⟨k1,k2,_⟩:=Ml h hb
 rw[he]at k1;cases k1
 unfold Yv
 rw[hb,Qd]
 simp only[show((0:Int)==0)=true from rfl,Qz,hg,Qd]
 unfold Jt
 simp only[show((0:Int) != 0)=false from rfl,Qs]
 unfold Bm
 rw[HD,Qd,QE h2]
 simp only[GE,Qs]
 rw[HD,Qd,QE h3,Qd]
 unfold Bn
 simp only[GE,Qs,ht,Qd,show((0:Int) != 0)=false from rfl,hv]
def QqK {n:Qk}{m:L_ QBg}{D:Int}{o:Qg}(h:Xd n)(hm:QV (QV λ_=>True) m)(ho:o∈Yd n m D):XQ n o:=by
 obtain⟨_,e,he,h1,h2,h3,_⟩:=Fl.1 ho
 have hem:e∈n.Tasks:=by
  unfold idx at he
  split at he
  ·exact XH he
  cases he
 have hv:=(h.tk e hem).1
 have hl:=Qrq h1
 have h4:=(Ni e.Join e.Ins.length).2.2 _ h2
 have h5:=(Ni e.Split e.Outs.length).2.2 _ h3
 have:(XO n e).length=e.Vars.length:=by simp[XO]
 exact⟨by omega,by omega,by omega⟩
def Rj {n:Qk}{m:L_ QBg}{o:Qg}(h:Xd n)(D:QV (QV λ_=>True) m)(ho:o∈YW n m):XQ n o:=QqK h D (QnA.1 ho)
def XJ (a:Int):Prop:=-9223372036854775808<=a/\a<=9223372036854775807
instance (a : Int):Decidable (XJ a):=by unfold XJ;infer_instance
def TV (x:Int):IntKind.u64.wrap x=x % 18446744073709551616:=rfl
def Hd {x:Int}(h:0<=x/\x<18446744073709551616):IntKind.u64.wrap x=x:=by rw[TV];omega
def Qjz {x:Int}(h:0<=x):Jn .u64 x 32=x / 4294967296:=by
 unfold Jn
 rw[show min ((32:Int).toNat) (IntKind.bits .u64)=32 from rfl,Int.fdiv_eq_ediv_of_nonneg _ (by decide)]
 rfl
def Qos {x:Int}(h:0<=x/\x<18446744073709551616):DL .u64 x 4294967295=x % 4294967296:=by
 unfold DL
 have e:((BitVec.ofInt (IntKind.bits .u64) x &&& BitVec.ofInt (IntKind.bits .u64) 4294967295).toNat:Int)=x % 4294967296:=by
  rw[BitVec.toNat_and,BitVec.toNat_ofInt,BitVec.toNat_ofInt]
  have D:(x % ((2:Nat) ^ (IntKind.bits .u64):Nat)).toNat=x.toNat:=by
   show(x % 18446744073709551616).toNat=x.toNat
   omega
  have h2:((4294967295:Int) % ((2:Nat) ^ (IntKind.bits .u64):Nat)).toNat=2 ^ 32-1:=by decide
  rw[D,h2,Nat.and_two_pow_sub_one_eq_mod]
  omega
 rw[e]
 exact Hd (by omega)
def QjA {x y:Int}(D:0<=x/\x<=4294967295)(h:0<=y/\y<=4294967295):0<=x*y/\x*y<=18446744065119617025:=by
 refine⟨Int.mul_nonneg D.1 h.1,?_⟩
 have:=Int.mul_le_mul D.2 h.2 h.1 (by decide)
 omega
def Qot {x y:Int}(h:0<=x/\x<18446744073709551616)(D:0<=y/\y<18446744073709551616):Gp x y=some (x*y / 18446744073709551616,x*y % 18446744073709551616):=by
 unfold Gp
 rw[Qjz h.1,Qjz D.1,Qos h,Qos D,TV (x*y)]
 have e:x*y=(x / 4294967296)*(y / 4294967296)*18446744073709551616+((x / 4294967296)*(y % 4294967296)+(x % 4294967296)*(y / 4294967296))*4294967296+(x % 4294967296)*(y % 4294967296):=by
  have h1:x=(x / 4294967296)*4294967296+x % 4294967296:=by omega
  have h2:y=(y / 4294967296)*4294967296+y % 4294967296:=by omega
  generalize x / 4294967296=a at *
  generalize x % 4294967296=b at *
  generalize y / 4294967296=c at *
  generalize y % 4294967296=d at *
  subst h1 h2
  grind
 rw[e]
 have b1:=QjA (x:=x / 4294967296) (y:=y / 4294967296) (by omega) (by omega)
 have b2:=QjA (x:=x / 4294967296) (y:=y % 4294967296) (by omega) (by omega)
 have b3:=QjA (x:=x % 4294967296) (y:=y / 4294967296) (by omega) (by omega)
 have b4:=QjA (x:=x % 4294967296) (y:=y % 4294967296) (by omega) (by omega)
 generalize x / 4294967296*(y / 4294967296)=p at *
 generalize x / 4294967296*(y % 4294967296)=q at *
 generalize x % 4294967296*(y / 4294967296)=r at *
 generalize x % 4294967296*(y % 4294967296)=s at *
 rw[Hd (x:=s) (by omega),Qjz (x:=s) (by omega),Hd (x:=q) (by omega),Hd (x:=q+s / 4294967296) (by omega),Qjz (x:=q+s / 4294967296) (by omega),Qos (x:=q+s / 4294967296) (by omega),Hd (x:=r) (by omega),Hd (x:=p) (by omega),
  Hd (x:=(q+s / 4294967296) % 4294967296+r) (by omega),Qjz (x:=(q+s / 4294967296) % 4294967296+r) (by omega),Hd (x:=p+(q+s / 4294967296) / 4294967296) (by omega),Hd (by omega)]
 congr 2
 omega
def Eh (a:Int):Int:=if a<0 then -a else a
def Qlb {a:Int}(h:XJ a):BV a=some (Eh a):=by
 unfold BV Eh XJ at *
 by_cases c:a<0
 ·rw[QE c,Qz,if_pos c,TV,TV];congr 1;omega
 rw[QK c,Qs,if_neg c,TV];congr 1;omega
def QnB (a b:Int):Eh a*Eh b=Eh (a*b):=by
 unfold Eh
 by_cases h:a<0<;>by_cases D:b<0
 ·rw[if_pos h,if_pos D,if_neg (by have:=Int.mul_pos_of_neg_of_neg h D;omega),Int.neg_mul_neg]
 ·rw[if_pos h,if_neg D]
  by_cases c3:b=0
  ·subst c3;simp
  rw[if_pos (Int.mul_neg_of_neg_of_pos h (by omega)),Int.neg_mul]
 ·rw[if_neg h,if_pos D]
  by_cases c3:a=0
  ·subst c3;simp
  rw[if_pos (Int.mul_neg_of_pos_of_neg (by omega) D),Int.mul_neg]
 rw[if_neg h,if_neg D,if_neg (by have:=Int.mul_nonneg (show 0<=a by omega) (show 0<=b by omega);omega)]
def RV (a b:Int):Int×Int:=if XJ (a*b)then(a*b,0)else(0,6)
def Qez {a b:Int}(ha:XJ a)(hb:XJ b):UR a b=some (RV a b):=by
 unfold UR
 have h1:0<=Eh a/\Eh a<=9223372036854775808:=by unfold Eh XJ at *;split<;>omega
 have h2:0<=Eh b/\Eh b<=9223372036854775808:=by unfold Eh XJ at *;split<;>omega
 have h3:0<=Eh a*Eh b:=Int.mul_nonneg h1.1 h2.1
 rw[Qlb ha,Qd,Qlb hb,Qd,Qot (by omega) (by omega),Qd]
 rw[QnB]at h3 ⊢
 have sg:(decide (a<0) != decide (b<0))=true\/(decide (a<0) != decide (b<0))=false:=by cases (decide (a<0) != decide (b<0))<;>simp
 have hsg:(decide (a<0) != decide (b<0))=true->a*b<=0:=λh=>by
  by_cases c1:a<0<;>by_cases c2:b<0<;>simp[c1,c2]at h
  ·exact Int.mul_nonpos_of_nonpos_of_nonneg (by omega) (by omega)
  exact Int.mul_nonpos_of_nonneg_of_nonpos (by omega) (by omega)
 have hsg2:(decide (a<0) != decide (b<0))=false->0<=a*b:=λh=>by
  by_cases c1:a<0<;>by_cases c2:b<0<;>simp[c1,c2]at h
  ·have:=Int.mul_pos_of_neg_of_neg c1 c2;omega
  exact Int.mul_nonneg (by omega) (by omega)
 have hw:XJ (a*b)->Qi (a*b)=a*b:=λh=>XD h
 generalize hm:a*b=m at *
 unfold RV
 rw[hm]
 unfold Eh at h3 ⊢
 rcases sg with c | c
 ·rw[c,Qz]
  have:=hsg c
  unfold WA
  rw[hm,TV]
  simp only
  by_cases D:XJ m
  ·rw[if_pos D,hw D]
   unfold XJ at D
   rw[QK (by split<;>omega),QK (by split<;>omega)];rfl
  rw[if_neg D]
  have:decide (0<(if m<0 then -m else m) / 18446744073709551616)=true\/decide ((9223372036854775807+1) % 18446744073709551616<(if m<0 then -m else m) % 18446744073709551616)=true:=by
   unfold XJ at D
   rw[QB,QB]
   split<;>omega
  rcases this with h | h
  ·rw[h];rfl
  rw[h,Bool.or_true];rfl
 rw[c,Qs]
 have:=hsg2 c
 unfold WA
 rw[hm]
 simp only
 by_cases D:XJ m
 ·rw[if_pos D,hw D]
  unfold XJ at D
  rw[QK (by split<;>omega),QK (by split<;>omega)];rfl
 rw[if_neg D]
 have:decide (0<(if m<0 then -m else m) / 18446744073709551616)=true\/decide ((9223372036854775807:Int)<(if m<0 then -m else m) % 18446744073709551616)=true:=by
  unfold XJ at D
  rw[QB,QB]
  split<;>omega
 rcases this with h | h
 ·rw[h];rfl
 rw[h,Bool.or_true];rfl
def QmH (a b:Int):Int×Int:=if XJ (a+b)then(a+b,0)else(0,6)
def QqL {a b:Int}(ha:XJ a)(hb:XJ b):Fw a b=some (QmH a b):=by
 unfold Fw QmH
 by_cases ci:XJ (a+b)
 ·rw[if_pos ci,XD ci]
  have:((decide (a<0)==decide (b<0))&&(decide (a+b<0) != decide (a<0)))=false:=by
   by_cases h:a<0<;>by_cases D:b<0<;>simp[h,D]<;>omega
  rw[this];rfl
 rw[if_neg ci]
 have hw:Qi (a+b)=if a+b<0 then a+b+18446744073709551616 else a+b-18446744073709551616:=by
  rw[RS];unfold wrap64 XJ at *;split<;>omega
 have:((decide (a<0)==decide (b<0))&&(decide (Qi (a+b)<0) != decide (a<0)))=true:=by
  rw[hw]
  unfold XJ at *
  by_cases h:a<0<;>by_cases D:b<0<;>by_cases c3:a+b<0<;>simp[h,D,c3]<;>omega
 rw[this];rfl
def Qsd {a b:Int}(h:XJ a)(D:XJ b):JG 3 a b=some (RV a b):=by
 unfold JG
 rw[show((3:Int)==1)=false from rfl,Qs,show((3:Int)==2)=false from rfl,Qs,show((3:Int)==3)=true from rfl,Qz,Qez h D];rfl
def Qse {a b:Int}(h:XJ a)(D:XJ b):JG 1 a b=some (QmH a b):=by
 unfold JG
 rw[show((1:Int)==1)=true from rfl,Qz,QqL h D];rfl
def Qrv {a b:Int}(D:XJ a)(hb:XJ b):Df 1 a b=some (QmH a b):=by
 unfold Df
 show(Sk a b).bind _=_
 unfold Sk QmH
 have h:(bif (decide (0<b))then((decide ((Qi (9223372036854775807-b))<a))||((decide (b<0))&&(decide (a<(Qi ((-9223372036854775808)-b))))))else((decide (b<0))&&(decide (a<(Qi ((-9223372036854775808)-b))))))=decide (¬XJ (a+b)):=by
  unfold XJ at *
  by_cases b1:0<b
  ·rw[QE b1,Qz,QK (by omega:¬b<0),RX,ZP,XD (by omega)]
   exact decide_eq_decide.2 (by omega)
  rw[QK b1,Qs]
  by_cases b2:b<0
  ·rw[QE b2,TA,XD (by omega)]
   exact decide_eq_decide.2 (by omega)
  rw[QK b2,RX,eq_comm,QX]
  omega
 rw[h]
 by_cases c:XJ (a+b)
 ·rw[QK (by simpa using c),Qs,XD c,if_pos c];rfl
 rw[QE c,Qz,if_neg c];rfl
def QpA {x y a b:Int}(hx:0<=x/\x<=9223372036854775807)(hy:0<y/\y<=9223372036854775807)(ha:x=Eh a)(hb:y=Eh b)(ha0:a≠0):(CU x a b y).bind (λx16=>AW x16.1 x16.2)=some (RV a b):=by
 have hm:x*y=Eh (a*b):=by rw[ha,hb,QnB]
 unfold CU
 rw[So (by simpa using (by omega:y≠0)),Qd,Int.tdiv_eq_ediv_of_nonneg (by decide)]
 have d1:0<=9223372036854775807 / y:=Int.ediv_nonneg (by decide) (by omega)
 have d2:9223372036854775807 / y<=9223372036854775807:=Int.ediv_le_self _ (by decide)
 rw[XD (by omega)]
 have le1:x<=9223372036854775807 / y↔x*y<=9223372036854775807:=Int.le_ediv_iff_mul_le hy.1
 by_cases c:x<=9223372036854775807 / y
 ·have:=le1.1 c
  have hin:XJ (a*b):=by unfold XJ Eh at *;split at hm<;>omega
  rw[QE c,Qz,XD hin]
  unfold RV;rw[if_pos hin];rfl
 have:=λh=>c (le1.2 h)
 rw[QK c,Qs]
 unfold Qby
 have sg:(bif (decide (a<0))then((decide (0<b))||((decide (0<a))&&(decide (b<0))))else((decide (0<a))&&(decide (b<0))))=decide (a*b<0):=by
  have hb0:b≠0:=by intro h;subst h;unfold Eh at hb;simp at hb;omega
  by_cases c1:a<0<;>by_cases c2:b<0
  ·have:=Int.mul_pos_of_neg_of_neg c1 c2
   rw[QE c1,QK (by omega:¬0<b),QK (by omega:¬0<a),QK (by omega:¬a*b<0)];rfl
  ·have:=Int.mul_neg_of_neg_of_pos c1 (by omega:0<b)
   rw[QE c1,QE (by omega:0<b),QE this];rfl
  ·have:=Int.mul_neg_of_pos_of_neg (by omega:0<a) c2
   rw[QK c1,QE (by omega:0<a),QE c2,QE this];rfl
  have:=Int.mul_nonneg (by omega:0<=a) (by omega:0<=b)
  rw[QK c1,QK c2,QK (by omega:¬a*b<0),Bool.and_false];rfl
 rw[sg]
 by_cases c3:a*b<0
 ·rw[QE c3,Qz,So (by simpa using (by omega:y≠0)),Qd,XD (by omega:-9223372036854775808<=y-1/\y-1<=9223372036854775807),XD (by omega:-9223372036854775808<=9223372036854775807-(y-1)/\9223372036854775807-(y-1)<=9223372036854775807),XD (by omega:-9223372036854775808<=x-1/\x-1<=9223372036854775807),Int.tdiv_eq_ediv_of_nonneg (by omega)]
  have d3:0<=(9223372036854775807-(y-1)) / y:=Int.ediv_nonneg (by omega) (by omega)
  have d4:(9223372036854775807-(y-1)) / y<=9223372036854775807-(y-1):=Int.ediv_le_self _ (by omega)
  rw[XD (by omega)]
  have D:x-1<=(9223372036854775807-(y-1)) / y↔(x-1)*y<=9223372036854775807-(y-1):=Int.le_ediv_iff_mul_le hy.1
  have e3:(x-1)*y=x*y-y:=by rw[Int.sub_mul,Int.one_mul]
  rw[e3]at D
  unfold Eh at hm
  rw[if_pos c3]at hm
  unfold RV
  by_cases c4:x-1<=(9223372036854775807-(y-1)) / y
  ·have h4:=D.1 c4
   have e4:x*y=9223372036854775808:=by omega
   rw[QE c4,Qz,e4,if_pos (by unfold XJ;omega),show a*b=-9223372036854775808 by omega]
   rfl
  have h4:=λh=>c4 (D.2 h)
  rw[QK c4,Qs,if_neg (by unfold XJ;omega)]
  rfl
 rw[QK c3,Qs]
 unfold Eh at hm
 rw[if_neg c3]at hm
 unfold RV
 rw[if_neg (by unfold XJ;omega)]
 rfl
def Qrw {a b:Int}(ha:XJ a)(hb:XJ b):Df 3 a b=some (RV a b):=by
 unfold Df
 show(Sm a b).bind _=_
 unfold Sm
 by_cases z:a=0\/b=0
 ·rw[show((a==0)||(b==0))=true by simpa using z,Qz]
  have:a*b=0:=Int.mul_eq_zero.2 z
  unfold RV
  rw[this];rfl
 rw[show((a==0)||(b==0))=false by simpa using z,Qs]
 simp only[not_or]at z
 by_cases m:a=-9223372036854775808\/b=-9223372036854775808
 ·rw[show((a==(-9223372036854775808))||(b==(-9223372036854775808)))=true by simpa using m,Qz]
  by_cases o:a=1\/b=1
  ·rw[show((a==1)||(b==1))=true by simpa using o,Qz]
   have h:XJ (a*b):=by
    rcases o with rfl | rfl
    ·rwa[Int.one_mul]
    rwa[Int.mul_one]
   rw[XD h]
   unfold RV;rw[if_pos h];rfl
  rw[show((a==1)||(b==1))=false by simpa using o,Qs]
  simp only[not_or]at o
  have h:¬XJ (a*b):=by
   unfold XJ
   rcases m with rfl | rfl
   ·omega
   omega
  unfold RV;rw[if_neg h];rfl
 rw[show((a==(-9223372036854775808))||(b==(-9223372036854775808)))=false by simpa using m,Qs]
 simp only[not_or]at m
 unfold XJ at ha hb
 have k4:∀x,0<=x/\x<=9223372036854775807->x=Eh a->(CV b a x).bind (λD=>AW D.1 D.2)=some (RV a b):=λx hx he=>by
  unfold CV
  by_cases c:b<0
  ·rw[QE c,Qz,XD (by omega)]
   exact QpA hx (by omega) he (by unfold Eh;rw[if_pos c];omega) z.1
  rw[QK c,Qs]
  exact QpA hx (by omega) he (by unfold Eh;rw[if_neg c]) z.1
 by_cases c:a<0
 ·rw[QE c,Qz,XD (by omega)]
  exact k4 _ (by omega) (by unfold Eh;rw[if_pos c];omega)
 rw[QK c,Qs]
 exact k4 _ (by omega) (by unfold Eh;rw[if_neg c])
def eqO {o p:O_ QLL}(h:decide (o=p)=true):o=p:=Xo h
set_option maxRecDepth 100000 in
def Zy (D h:Int):Gg D h=YO D h:=by
 by_cases hg:((decide (h<0))||((decide (16<h))||((D==3)&&(decide (4<h)))))=true
 ·unfold YO Gg
  rw[hg,Qz,Qz]
 have hg':=hg
 simp only[KE,QQ,QB,beq_iff_eq,not_or,not_and]at hg
 obtain⟨h0,h1,h2⟩:=hg
 by_cases e1:D=1
 ·subst e1
  rcases QmC h0 h1 with rfl | rfl | rfl | rfl | rfl | rfl | rfl | rfl | rfl | rfl | rfl | rfl | rfl | rfl | rfl | rfl | rfl<;>exact eqO (by kernel_rfl)
 by_cases e2:D=2
 ·subst e2
  rcases QmC h0 h1 with rfl | rfl | rfl | rfl | rfl | rfl | rfl | rfl | rfl | rfl | rfl | rfl | rfl | rfl | rfl | rfl | rfl<;>exact eqO (by kernel_rfl)
 by_cases e3:D=3
 ·subst e3
  have h3:=h2 rfl
  have:h=0\/h=1\/h=2\/h=3\/h=4:=by omega
  rcases this with rfl | rfl | rfl | rfl | rfl<;>exact eqO (by kernel_rfl)
 have f1:(D==1)=false:=by simpa using e1
 have f2:(D==2)=false:=by simpa using e2
 have f3:(D==3)=false:=by simpa using e3
 have t0:∃l,Qu (λst=>SD h st.1 st.2) (0,([]:LI_))=some l:=by
  rcases QmC h0 h1 with rfl | rfl | rfl | rfl | rfl | rfl | rfl | rfl | rfl | rfl | rfl | rfl | rfl | rfl | rfl | rfl | rfl<;>exact Option.isSome_iff_exists.1 (by kernel_rfl)
 obtain⟨l,hl⟩:=t0
 rw[HU]at hg'
 unfold YO Gg
 rw[hg',Qs,Qs,hl,Qd]
 unfold Rp
 rw[f1,f2,f3]
 rfl
def Qrx {a b:Int}(ha:XJ a)(hb:XJ b):Df 2 a b=JG 2 a b:=by
 unfold Df JG
 show(Sl a b).bind _=(Wz a b).bind _
 unfold Sl Wz
 have h:(bif (decide (b<0))then((decide ((Qi (9223372036854775807+b))<a))||((decide (0<b))&&(decide (a<(Qi ((-9223372036854775808)+b))))))else((decide (0<b))&&(decide (a<(Qi ((-9223372036854775808)+b))))))=decide (¬XJ (a-b)):=by
  unfold XJ at *
  by_cases b1:b<0
  ·rw[QE b1,Qz,QK (by omega:¬0<b),RX,ZP,XD (by omega)]
   exact decide_eq_decide.2 (by omega)
  rw[QK b1,Qs]
  by_cases b2:0<b
  ·rw[QE b2,TA,XD (by omega)]
   exact decide_eq_decide.2 (by omega)
  rw[QK b2,RX,eq_comm,QX]
  omega
 have D:(((decide (a<0)) != (decide (b<0)))&&((decide ((Qi (a-b))<0)) != (decide (a<0))))=decide (¬XJ (a-b)):=by
  have e:Qi (a-b)=wrap64 (a-b):=RS _
  rw[e]
  unfold wrap64 XJ at *
  apply ZN.2
  simp only[QQ,bne_iff_ne,ne_eq,decide_eq_decide,QB]
  omega
 rw[h,D]
 by_cases c:XJ (a-b)
 ·rw[QK (by simpa using c),Qs,Qs];rfl
 rw[QE c,Qz,Qz];rfl
def QpB {op a b:Int}(h:XJ a)(D:XJ b):Df op a b=JG op a b:=by
 by_cases h1:op=1
 ·subst h1;rw[Qrv h D,Qse h D]
 by_cases h2:op=2
 ·subst h2;exact Qrx h D
 by_cases h3:op=3
 ·subst h3;rw[Qrw h D,Qsd h D]
 unfold Df JG
 have b1:(op==1)=false:=by simpa using h1
 have b2:(op==2)=false:=by simpa using h2
 have b3:(op==3)=false:=by simpa using h3
 have y:∀c:Bool,DU c=some (bif c then 1 else 0)/\JM c=some (bif c then 1 else 0,0):=λc=>by cases c<;>exact⟨rfl,rfl⟩
 rw[b1,b2,b3]
 simp only[Qs]
 by_cases h4:op=4
 ·subst h4
  unfold AX KJ
  rw[show((4:Int)==4)=true from rfl,Qz,Qz,Qz]
  by_cases c:b=0
  ·subst c;rfl
  rw[show(b==0)=false by simpa using c,Qs,Qs,So (by simpa using c)]
  cases ((a==(-9223372036854775808))&&(b==(-1)))<;>rfl
 by_cases h5:op=5
 ·subst h5
  unfold AX KJ
  rw[show((5:Int)==4)=false from rfl,show((5:Int)==5)=true from rfl,Qs,Qz,Qz,Qs,Qs]
  by_cases c:b=0
  ·subst c;rfl
  rw[show(b==0)=false by simpa using c,Qs,Qs,So (by simpa using c)]
  cases ((a==(-9223372036854775808))&&(b==(-1)))<;>rfl
 have b4:(op==4)=false:=by simpa using h4
 have b5:(op==5)=false:=by simpa using h5
 rw[b4,b5]
 unfold AX QcW QcX QcY QcZ Pn VF Po VG
 simp only[Qs,λc=>(y c).1,λc=>(y c).2,Qd]
 cases (op==6)<;>cases (op==7)<;>cases (op==8)<;>cases (op==9)<;>cases (op==10)<;>cases (op==11)<;>cases (a != 0)<;>rfl
def QlU (x:Int):XJ (Qi x):=by
 have e:Qi x=wrap64 x:=RS _
 rw[e];unfold wrap64 XJ;omega
def Qq9 {op a b:Int}(ha:XJ a)(hb:XJ b){r:Int×Int}(h:JG op a b=some r):XJ r.1:=by
 have z:XJ 0:=by unfold XJ;omega
 have o:XJ 1:=by unfold XJ;omega
 have y:∀c:Bool,∃n,JM c=some (n,0)/\XJ n:=λc=>by cases c;exact⟨0,rfl,z⟩;exact⟨1,rfl,o⟩
 have yy:∀(c:Bool) {r:Int×Int},((JM c).bind λx=>some (x.1,x.2))=some r->XJ r.1:=λc r h=>by
  obtain⟨n,e,hn⟩:=y c
  rw[e]at h;cases h;exact hn
 have tm:XJ (Int.tmod a b):=by
  by_cases hb0:b=0
  ·subst hb0;rw[Int.tmod_zero];exact ha
  unfold XJ at *
  have h2:(Int.tmod a b).natAbs<b.natAbs:=by rw[Int.natAbs_tmod];exact Nat.mod_lt _ (by omega)
  omega
 have q:∀{r:Int×Int×Int},KJ a b=some r->XJ r.1/\XJ r.2.1:=λ{r} h=>by
  unfold KJ at h
  rcases Xy h with⟨_,h⟩|⟨_,h⟩
  ·cases h;exact⟨z,z⟩
  rcases Xy h with⟨_,h⟩|⟨_,h⟩
  ·cases h;exact⟨z,z⟩
  obtain⟨_,_,h⟩:=Qv h
  obtain⟨_,_,h⟩:=Qv h
  cases h;exact⟨QlU _,tm⟩
 unfold JG at h
 rcases Xy h with⟨_,h⟩|⟨_,h⟩
 ·obtain⟨x,D,h⟩:=Qv h
  cases h
  unfold Fw at D
  rcases Xy D with⟨_,h⟩|⟨_,h⟩<;>cases h
  ·exact z
  exact QlU _
 rcases Xy h with⟨_,h⟩|⟨_,h⟩
 ·obtain⟨x,D,h⟩:=Qv h
  cases h
  unfold Wz at D
  rcases Xy D with⟨_,h⟩|⟨_,h⟩<;>cases h
  ·exact z
  exact QlU _
 rcases Xy h with⟨_,h⟩|⟨_,h⟩
 ·obtain⟨x,D,h⟩:=Qv h
  cases h
  rw[Qez ha hb]at D
  unfold RV at D
  split at D<;>cases D
  ·assumption
  exact z
 rcases Xy h with⟨_,h⟩|⟨_,h⟩
 ·obtain⟨x,D,h⟩:=Qv h
  cases h;exact(q D).1
 rcases Xy h with⟨_,h⟩|⟨_,h⟩
 ·obtain⟨x,D,h⟩:=Qv h
  cases h;exact(q D).2
 iterate 4
  rcases Xy h with⟨_,h⟩|⟨_,h⟩
  ·exact yy _ h
 rcases Xy h with⟨_,h⟩|⟨_,h⟩
 ·obtain⟨x,D,h⟩:=Qv h
  cases h
  unfold Pn at D
  rcases Xy D with⟨_,h⟩|⟨_,h⟩<;>exact yy _ h
 rcases Xy h with⟨_,h⟩|⟨_,h⟩
 ·obtain⟨x,D,h⟩:=Qv h
  cases h
  unfold Po at D
  rcases Xy D with⟨_,h⟩|⟨_,h⟩<;>exact yy _ h
 cases h;exact z
def QpC {α:Type}{l:L_ α}(p:α->Bool){body:Int->O_ (Int⊕(Int⊕Unit))}(D:∀(i:Nat) x,i<l.length->l[i]? = some x->body (i:Int)=some (bif p x then .inr (.inl (i:Int))else .inl ((i+1:Nat):Int)))(h:body (l.length:Int)=some (.inr (.inr ()))):
  Qu body 0=some ((Mf (λ_ x=>p x) 0 l).elim (Sum.inr ()) λi=>Sum.inl (i:Int)):=
 Qpl (λi:Nat=>(i:Int)) (λ_ x=>p x) (λi=>Sum.inl (i:Int)) (Sum.inr ()) D h rfl
def Qra {α:Type}(p:α->Bool)(l:L_ α):decide (0<=(Mf (λ_ x=>p x) 0 l).elim (-1:Int) λi=>(i:Int))=l.any p:=by
 cases h:Mf (λ_ x=>p x) 0 l with
 | none=>
  have:=Qoj h
  symm
  rw[show decide ((0:Int)<=(none:O_ Nat).elim (-1:Int) λi=>(i:Int))=false from rfl,List.any_eq_false]
  intro x hx
  obtain⟨i,hi⟩:=Nl.1 hx
  simpa using this i x hi
 | some n=>
  obtain⟨i,x,h1,D,h3⟩:=Qoi h
  symm
  rw[show decide ((0:Int)<=(some n).elim (-1:Int) λi=>(i:Int))=true from QE (Int.natCast_nonneg n),EB]
  exact⟨x,XH D,h3⟩
def QnC {α:Type}(f:α->Bool):∀(l:L_ α) (k:Nat) (t:Bool),BM (λ(_:Nat) (t:Bool) x=>(bif t then .inl (f x)else .inr t:Bool⊕Bool)) (λt=>t) k t l=(t&&l.all f)
 | [],_,t=>by simp[BM]
 | x::l,k,t=>by
  rw[BM]
  cases t with
  | true=>rw[Qz,Sum.elim_inl,QnC f l];simp
  | false=>rfl
def Qou (n:Nat)(e:Qp):Gh n e=KA n e:=by
 have:∀n,Gh n=KA n:=λn=>by
  induction n with
  | zero=>rfl
  | succ n h=>
   funext e
   show PS (Gh n) e=LI (KA n) e
   rw[h];rfl
 rw[this]
def QpD (n:Nat)(e:Qp):GY n e=Wk n e:=by
 have:∀n,GY n=Wk n:=λn=>by
  induction n with
  | zero=>rfl
  | succ n h=>
   funext e
   show RQ (GY n) e=Nq (Wk n) e
   rw[h];rfl
 rw[this]
def Qov {e:Qp}{D:Qp->Int->O_ Bool}{v:Int}{p:Qp->Bool}(hl:e.Kids.length<=maxLen)(h:∀k∈e.Kids,D k v=some (p k))(ok:Bool):Kn e D v ok=some (ok&&e.Kids.all p):=by
 unfold Kn
 rw[OO (body:=λst=>GZ e D v st.1 st.2) (l:=e.Kids) (λi (t:Bool)=>(t,(i:Int))) (λ_ t x=>bif t then .inl (p x)else .inr t) (λt=>t) (λi t x hi hx=>by
  show GZ e D v t (i:Int)=_
  unfold GZ
  rw[QE (by omega),TA]
  cases t with
  | false=>rfl
  | true=>rw[Qz,QP,hx,Qd,h x (XH hx),Qd,Qt hi hl];rfl) (λt=>by
  show GZ e D v t (e.Kids.length:Int)=_
  unfold GZ
  rw[QK (by omega),RX];rfl) ok (s0:=(ok,0)) rfl,QnC]
 rfl
def QpE {l:L_ Qp}{D:Qp->Int->O_ Bool}{v:Int}{p:Qp->Bool}(hl:l.length<=maxLen)(h:∀k∈l,D k v=some (p k)):XM D l v=some (!(l.all p)):=by
 unfold XM Jr
 rw[QpC (l:=l) (λk=>!p k) (λi x hi hx=>by
  show XL l D v i=_
  unfold XL LJ
  rw[QE (by omega),Qz,QP,hx,Qd,h x (XH hx),Qd,Qd,Qt hi hl]
  cases p x<;>rfl) (by
  show XL l D v l.length=_
  unfold XL
  rw[QK (by omega),Qs])]
 have e:(!(l.all p))=l.any λk=>!p k:=by rw[List.all_eq_not_any_not,Bool.not_not]
 rw[e,<-Qra]
 cases Mf (λ_ k=>!p k) 0 l<;>rfl
def QjB : ∀(n:Nat) (e:Qp) (v:Int),KW e->SizeOf.sizeOf e<=n->Gi n e v=YP n e v
 | 0,e,_,_,h=>absurd e.pos (by omega)
 | n+1,e,v,he,h=>by
  have hkl:=(Wi he).1
  have tot:∀k∈e.Kids,YP n k v=some ((YP n k v).getD false):=λk hk=>by
   obtain⟨r,hr,_⟩:=OH n k v ((Wi he).2 k hk) (by have:=SG hk;omega)
   rw[hr];rfl
  have tot2:∀k∈e.Kids,Gi n k v=some ((YP n k v).getD false):=λk hk=>by
   rw[QjB n k v ((Wi he).2 k hk) (by have:=SG hk;omega)];exact tot k hk
  show Iz (Gi n) e v=CD (YP n) e v
  have k3:=Qov hkl tot2
  generalize hp:(λk=>(YP n k v).getD false)=p at *
  have c3:XM (YP n) e.Kids v=some (!(e.Kids.all p)):=QpE hkl λk hk=>by rw[<-hp];exact tot k hk
  unfold Iz FR Ze Zf CD Ph Pi SV IV MX UQ UP
  rw[c3]
  simp only[k3,Qd]
  by_cases h1:e.Kind=1
  ·simp only[h1,show((1:Int)==1)=true from rfl,show((1:Int)==2)=false from rfl,show((1:Int)==5)=false from rfl,Qz,Qs,Qd,RX]
   by_cases c:(e.Kids.length:Int)=0
   ·rw[show((e.Kids.length:Int)==0)=true by simpa using c,show((e.Kids.length:Int) != 0)=false by simpa using c];simp
   rw[show((e.Kids.length:Int)==0)=false by simpa using c,show((e.Kids.length:Int) != 0)=true by simpa using c];rfl
  by_cases h2:e.Kind=2
  ·simp only[h2,show((2:Int)==1)=false from rfl,show((2:Int)==2)=true from rfl,show((2:Int)==5)=false from rfl,Qz,Qs,Qd,TA]
   by_cases c:(e.Kids.length:Int)=0
   ·rw[show((e.Kids.length:Int)==0)=true by simpa using c,show((e.Kids.length:Int) != 0)=false by simpa using c]
    by_cases d:0<=e.Num
    ·by_cases f:e.Num<v
     ·rw[QE d,QE f,QK (by omega:¬e.Num<0),QK (by omega:¬v<=e.Num)];simp
     rw[QE d,QK f,QK (by omega:¬e.Num<0),QE (by omega:v<=e.Num)];simp
    rw[QK d,QE (by omega:e.Num<0)];simp
   rw[show((e.Kids.length:Int)==0)=false by simpa using c,show((e.Kids.length:Int) != 0)=true by simpa using c];simp
  have b1:(e.Kind==1)=false:=by simpa using h1
  have b2:(e.Kind==2)=false:=by simpa using h2
  simp only[b1,b2,Qs,RX]
  have D:∀(m:Int) (q:Bool),((bif ((e.Kids.length:Int) != m)then some false else(bif q then some false else some (!(!(e.Kids.all p))))):O_ Bool)=some ((((e.Kids.length:Int)==m)&&!q)&&e.Kids.all p):=λm q=>by
   by_cases c:(e.Kids.length:Int)=m
   ·rw[show((e.Kids.length:Int)==m)=true by simpa using c,show((e.Kids.length:Int) != m)=false by simpa using c];cases q<;>simp
   rw[show((e.Kids.length:Int)==m)=false by simpa using c,show((e.Kids.length:Int) != m)=true by simpa using c];rfl
  have neg:((e.Kids.length:Int) != -1)=true:=by simp
  by_cases h3:e.Kind=3
  ·have:=D 1 false
   simp only[h3,show((3:Int)==3)=true from rfl,show((3:Int)==5)=false from rfl,Qz,Qs,Qd]at this ⊢
   rw[this];simp
  by_cases h4:e.Kind=4
  ·have:=D 1 false
   simp only[h4,show((4:Int)==3)=false from rfl,show((4:Int)==4)=true from rfl,show((4:Int)==5)=false from rfl,Qz,Qs,Qd]at this ⊢
   rw[this];simp
  have b3:(e.Kind==3)=false:=by simpa using h3
  have b4:(e.Kind==4)=false:=by simpa using h4
  simp only[b3,b4,Qs]
  by_cases h5:e.Kind=5
  ·have:=D 2 (!((decide (1<=e.Num))&&(decide (e.Num<=11))))
   simp only[h5,show((5:Int)==5)=true from rfl,Qz,Qs,Qd]at this ⊢
   rw[this]
   cases ((e.Kids.length:Int)==2)<;>simp
  have b5:(e.Kind==5)=false:=by simpa using h5
  simp only[b5,Qs]
  by_cases h6:e.Kind=6
  ·have:=D 3 false
   simp only[h6,show((6:Int)==6)=true from rfl,Qz,Qs,Qd]at this ⊢
   rw[this];simp
  have b6:(e.Kind==6)=false:=by simpa using h6
  simp only[b6,Qs,Qd,neg,Qz,RX]
def Qow (e:Qp)(v:Int)(h:KW e):NG e v=Et e v:=by
 unfold NG Et Zg Pk SU Pg Zd Sh SW Pj
 rw[Qou,QpD,QjB _ e v h (YY _)]
 rfl
inductive RE : Qp->Prop where
 | mk (e:Qp):XJ e.Num->(∀k∈e.Kids,RE k)->RE e
def Qlc : ∀(n:Nat) (v:LI_) (e:Qp),POk v.length e->RE e->(∀x∈v,XJ x)->SizeOf.sizeOf e<=n->∃r,XI n v e=some r/\Ea n e v=some r/\XJ r.1
 | 0,_,e,_,_,_,h=>absurd e.pos (by omega)
 | n+1,v,e,he,hr,hv,h=>by
  cases he with
  | mk _ hk h2 h3 h5 h6 hp=>
  cases hr with
  | mk _ hnum hkr=>
  have z:XJ 0:=by unfold XJ;omega
  have o:XJ 1:=by unfold XJ;omega
  have sub:∀(j:Nat) (hj:j<e.Kids.length),∃r,XI n v (e.Kids[j])=some r/\Ea n (e.Kids[j]) v=some r/\XJ r.1:=λj hj=>
   Qlc n v _ (hp _ (Xn hj)) (hkr _ (Xn hj)) hv (by have:=SG (Xn hj);omega)
  have kid:∀(j:Nat) (hj:j<e.Kids.length),idx e.Kids (j:Int)=some e.Kids[j]:=λj hj=>by rw[QP,Qy hj]
  show ∃r,Uh (XI n) v e=some r/\Mc (Ea n) e v=some r/\XJ r.1
  unfold Uh Mc KI JZ
  by_cases k1:e.Kind=1
  ·rw[k1]
   exact⟨(e.Num,0),rfl,rfl,hnum⟩
  by_cases k2:e.Kind=2
  ·have hh:=h2 k2
   have hx:idx v e.Num=some (v[e.Num.toNat]'(by omega)):=Ng hh.1 hh.2
   rw[k2]
   refine⟨(v[e.Num.toNat]'(by omega),0),?_,?_,hv _ (Xn _)⟩
   ·show(DA e v)=_
    unfold DA Ap
    rw[hx];rfl
   show(idx v e.Num).bind _=_
   rw[hx];rfl
  have b1:(e.Kind==1)=false:=by simpa using k1
  have b2:(e.Kind==2)=false:=by simpa using k2
  have l1:1<=e.Kids.length:=by
   by_cases k3:e.Kind=3\/e.Kind=4
   ·have:=h3 k3;omega
   by_cases k5:e.Kind=5
   ·have:=h5 k5;omega
   have:=h6 (by omega);omega
  obtain⟨a,a1,a2,a3⟩:=sub 0 (by omega)
  have D:idx e.Kids 0=some (e.Kids[0]'(by omega)):=kid 0 (by omega)
  rw[b1,b2]
  simp only[Qs,D,Qd,a2]
  by_cases k34:e.Kind=3\/e.Kind=4
  ·have ed:((bif e.Kind==3 then bif e.Kind==3 then some (.inr (.inr (.inl v)))else bif e.Kind==5 then some (.inr (.inr (.inr (.inl v))))else some (.inr (.inr (.inr (.inr v))))else bif e.Kind==4 then some (.inr (.inr (.inl v)))else bif e.Kind==5 then some (.inr (.inr (.inr (.inl v))))else some (.inr (.inr (.inr (.inr v))))):O_ (LI_⊕(LI_⊕(LI_⊕(LI_⊕LI_)))))=some (.inr (.inr (.inl v))):=by
    rcases k34 with k | k<;>rw[k]<;>rfl
   rw[ed]
   show ∃r,Ka (XI n) e v=some r/\_
   unfold Ka Ug
   rw[D,Qd,a1,Qd]
   cases hz:(a.2 != 0)with
   | true=>exact⟨(0,a.2),rfl,rfl,z⟩
   | false=>
    simp only[Qs]
    rcases k34 with k | k
    ·rw[k]
     simp only[show((3:Int)==3)=true from rfl,Qz]
     unfold Pq
     rw[QpB z a3]
     have hd:=Cd 2 0 a.1
     obtain⟨d,hd,_⟩:=hd
     rw[hd]
     exact⟨d,rfl,rfl,Qq9 z a3 hd⟩
    rw[k]
    simp only[show((4:Int)==3)=false from rfl,show((4:Int)==4)=true from rfl,Qz,Qs]
    by_cases c:a.1=0
    ·rw[c];exact⟨(1,0),rfl,rfl,o⟩
    have:(a.1==0)=false:=by simpa using c
    rw[this]
    refine⟨(0,0),?_,rfl,z⟩
    show(((JM (a.1==0)).bind _).bind _).bind _=_
    rw[this];rfl
  have n3:¬e.Kind=3:=λk=>k34 (.inl k)
  have n4:¬e.Kind=4:=λk=>k34 (.inr k)
  have b3:(e.Kind==3)=false:=by simpa using n3
  have b4:(e.Kind==4)=false:=by simpa using n4
  rw[b3,b4]
  simp only[Qs]
  by_cases k5:e.Kind=5
  ·have hl:=h5 k5
   obtain⟨b,c1,c2,c3⟩:=sub 1 (by omega)
   have kid1:idx e.Kids 1=some (e.Kids[1]'(by omega)):=kid 1 (by omega)
   rw[k5]
   show ∃r,DB (XI n) e v=some r/\_
   unfold DB LK WB
   simp only[D,kid1,Qd,a1,c1,c2,show((5:Int)==6)=false from rfl,Qs]
   cases hz:(a.2 != 0)with
   | true=>exact⟨(0,a.2),rfl,rfl,z⟩
   | false=>
    simp only[Qs]
    cases hq:((e.Num==10)&&(a.1==0))with
    | true=>
     have:a.1=0:=by simp at hq;exact hq.2
     rw[this];exact⟨(0,0),rfl,rfl,z⟩
    | false=>
     simp only[Qs]
     have rest:∃r,((bif (b.2 != 0)then some (0,b.2)else(JG e.Num a.1 b.1).bind λx16=>some (x16.1,x16.2)):O_ (Int×Int))=some r/\((bif (b.2 != 0)then some (0,b.2)else(Df e.Num a.1 b.1).bind λx16=>some (x16.1,x16.2)):O_ (Int×Int))=some r/\XJ r.1:=by
      rw[QpB a3 c3]
      obtain⟨d,hd,_⟩:=Cd e.Num a.1 b.1
      rw[hd]
      cases (b.2 != 0)with
      | true=>exact⟨(0,b.2),rfl,rfl,z⟩
      | false=>exact⟨d,rfl,rfl,Qq9 a3 c3 hd⟩
     obtain⟨r,r1,r2,r3⟩:=rest
     cases h11:(e.Num==11)with
     | false=>
      simp only[Qs,RX]
      exact⟨r,by rw[r1];rfl,r2,r3⟩
     | true=>
      simp only[Qz,TA]
      cases ha:(a.1 != 0)with
      | true=>
       refine⟨(1,0),?_,rfl,o⟩
       simp only[Qz]
       show(((JM (a.1 != 0)).bind _).bind _).bind _=_
       rw[ha];rfl
      | false=>
       simp only[Qs]
       exact⟨r,by rw[r1];rfl,r2,r3⟩
  have k6:e.Kind=6:=by omega
  have hl:=h6 k6
  obtain⟨b,c1,c2,c3⟩:=sub 1 (by omega)
  obtain⟨d,d1,d2,d3⟩:=sub 2 (by omega)
  have kid1:idx e.Kids 1=some (e.Kids[1]'(by omega)):=kid 1 (by omega)
  have kid2:idx e.Kids 2=some (e.Kids[2]'(by omega)):=kid 2 (by omega)
  rw[k6]
  show ∃r,DC (XI n) e v=some r/\_
  unfold DC Ci
  simp only[D,kid1,kid2,Qd,a1,c1,c2,d1,d2,show((6:Int)==6)=true from rfl,Qz]
  cases hz:(a.2 != 0)with
  | true=>exact⟨(0,a.2),rfl,rfl,z⟩
  | false=>
   simp only[Qs]
   cases (a.1 != 0)with
   | true=>exact⟨b,rfl,rfl,c3⟩
   | false=>exact⟨d,rfl,rfl,d3⟩
def Qld {e:Qp}{v:LI_}(h:KW e)(hr:RE e)(hv:∀x∈v,XJ x):∃r,BW e v=some r/\Lj e v=some r/\XJ r.1:=by
 unfold BW Lj Ie Zh
 rw[Qow e _ h]
 obtain⟨b,hb,D⟩:=Mk e v.length h
 rw[hb,Qd,Qd]
 cases b with
 | false=>exact⟨(0,1),rfl,rfl,by unfold XJ;decide⟩
 | true=>
  obtain⟨r,r1,r2,r3⟩:=Qlc _ v e (D rfl) hr hv (YY _)
  rw[r1,r2]
  exact⟨r,rfl,rfl,r3⟩
def Zz {σ τ ρ π:Type}{b1:σ->O_ (σ⊕ρ)}{b2:τ->O_ (τ⊕π)}(n:Nat)(I:Nat->σ->τ->Prop)(D:ρ->π->Prop)
  (step:∀i s t,i<=n->I i s t->(i<n/\∃s' t',b1 s=some (.inl s')/\b2 t=some (.inl t')/\I (i+1) s' t')\/∃r q,b1 s=some (.inr r)/\b2 t=some (.inr q)/\D r q):∀s t,I 0 s t->∃r q,Qu b1 s=some r/\Qu b2 t=some q/\D r q:=by
 have key:∀k i s t,i+k=n->I i s t->∃r q,Qu b1 s=some r/\Qu b2 t=some q/\D r q:=by
  intro k
  induction k with
  | zero=>
   intro i s t hk hI
   rcases step i s t (by omega) hI with⟨h,_⟩|⟨r,q,h1,h2,h3⟩
   ·omega
   exact⟨r,q,by rw[YR,h1];rfl,by rw[YR,h2];rfl,h3⟩
  | succ k ih=>
   intro i s t hk hI
   rcases step i s t (by omega) hI with⟨_,s',t',h1,h2,h3⟩|⟨r,q,h1,h2,h3⟩
   ·obtain⟨r,q,e1,e2,e3⟩:=ih (i+1) s' t' (by omega) h3
    exact⟨r,q,by rw[YR,h1];exact e1,by rw[YR,h2];exact e2,e3⟩
   exact⟨r,q,by rw[YR,h1];rfl,by rw[YR,h2];rfl,h3⟩
 exact λs t h=>key n 0 s t (by omega) h
def QeA {a b:ByteArray}:JT a b=true↔a=b:=by
 unfold JT
 rw[beq_iff_eq,ByteArray.toList_eq,ByteArray.toList_eq]
 exact⟨λh=>ByteArray.ext (Array.toList_inj.1 h),λh=>by rw[h]⟩
def QmI (a b:ByteArray):JT a b=decide (a=b):=by
 by_cases h:a=b
 ·rw[QE h];exact QeA.2 h
 rw[QK h,<-HU,QeA];exact h
def Qle (s:ByteArray):Li s=Da s:=by
 have e0:decide ((s.size:Int)<1)=JT s (⟨#[]⟩:ByteArray):=by
  rw[QmI]
  apply decide_eq_decide.2
  constructor
  ·intro h
   obtain⟨a⟩:=s
   have:a=#[]:=QnI (by have h:((a.size:Nat):Int)<1:=h;omega)
   rw[this]
  intro h;subst h;decide
 have g1:PQ s=Fv s:=by
  unfold PQ Fv
  rw[e0];rfl
 have l4:∀i,Iy s i=GR s i:=λi=>by
  unfold Iy GR Qas
  cases h:sidx s i with
  | none=>rfl
  | some c=>
   simp only[Qd]
   congr 1
   unfold NV Ma EH ST Qat NW
   simp only[Qd]
   generalize (bif (decide (97<=c))then((decide (c<=122))||((decide (65<=c))&&(decide (c<=90))))else((decide (65<=c))&&(decide (c<=90))))=q
   cases q with
   | true=>rfl
   | false=>
    by_cases D:c<48
    ·rw[QE D,QK (by omega:¬48<=c)];rfl
    rw[QK D,QE (by omega:48<=c)]
    by_cases h2:57<c
    ·rw[QE h2,QK (by omega:¬c<=57)];rfl
    rw[QK h2,QE (by omega:c<=57)];rfl
 unfold Li Da Qau NZ
 rw[g1,show(λst=>Iy s st)=λst=>GR s st from funext l4]
 rfl
def QkP {α:Type}(f:α->Bool):∀(l:L_ α) (k:Nat) (t:Bool),BM (λ(_:Nat) (t:Bool) x=>(.inl (t&&f x):Bool⊕Bool)) (λt=>t) k t l=(t&&l.all f)
 | [],_,t=>by simp[BM]
 | x::l,k,t=>by rw[BM,Sum.elim_inl,QkP f l];simp[Bool.and_assoc]
def Had (m:L_ (ByteArray×Bool))(l:L_ ByteArray):Prop:=∀k,(QR m k).getD false=l.any λe=>JT e k
def Had.add {m:L_ (ByteArray×Bool)}{l:L_ ByteArray}(h:Had m l)(x:ByteArray):Had (YI OM m x true) (l++[x]):=λk=>by
 rw[UM,List.any_append,<-h k]
 by_cases e:k=x
 ·subst e
  rw[if_pos rfl]
  have:JT k k=true:=QeA.2 rfl
  simp[this]
 rw[if_neg e]
 have:JT x k=false:=by rw[QmI];exact QK λh=>e h.symm
 simp[this]
def Qox {l:L_ ByteArray}(h:QV EW l):∃b,UO l=some b/\NE l=some b:=by
 have nm:∀x∈l,∃b,Da x=some b:=λx hx=>(BN x (h.2 x hx)).tot
 obtain⟨r,q,e1,e2,e3⟩:=Zz (b1:=λst:Int×L_ (ByteArray×Bool)=>Wx l st.1 st.2) (b2:=λst:Int=>Ag l st) l.length (λi s t=>s.1=(i:Int)/\t=(i:Int)/\Had s.2 (l.take i)) (λr q=>r=q) (λi s t hi hI=>by
  obtain⟨a,m⟩:=s
  obtain⟨h1,h2,h3⟩:=hI
  replace h1:a=(i:Int):=h1
  subst h1 h2
  replace h3:Had m (l.take i):=h3
  show(i<l.length/\∃s' t',Wx l i m=_/\Ag l i=_/\_)\/∃r q,Wx l i m=_/\Ag l i=_/\_
  unfold Wx Ag Mt Mu
  by_cases D:i<l.length
  ·have hx:l[i]? = some l[i]:=Qy D
   obtain⟨b,hb⟩:=nm _ (Xn D)
   have il:=OO (body:=λst:Bool×Int=>GW i l st.1 st.2) (l:=l.take i) (λk (t:Bool)=>(t,(k:Int))) (λ_ t e=>.inl (t&&!JT e l[i])) (λt=>t) (λk t x hk hkx=>by
    rw[WZ]at hk
    have hkx:l[k]? = some x:=by rw[Kd,if_pos (by omega)]at hkx;exact hkx
    show GW i l t (k:Int)=_
    unfold GW VY VZ
    rw[QE (by omega),Qz,QP,hkx,QP,hx,Qt D h.1 |> λ_=>Qt (show k<l.length by omega) h.1]
    cases t<;>rfl) (λt=>by
    show GW i l t ((l.take i).length:Int)=_
    unfold GW
    rw[WZ,QK (by omega)];rfl) b (s0:=(b,0)) rfl
   rw[QkP]at il
   rw[QE (show(i:Int)<(l.length:Int) by omega),Qz,Qz,QP,hx,Qd,Qd,Qle,hb,Qd,Qd,il,Qd,Qt D h.1]
   unfold Za
   rw[h3 l[i],Qt D h.1]
   have ea:(l.take i).all (λe=>!JT e l[i])=!((l.take i).any λe=>JT e l[i]):=by rw[List.not_any_eq_all_not]
   rw[ea]
   cases b with
   | false=>right;exact⟨_,_,rfl,rfl,rfl⟩
   | true=>
    cases hq:(l.take i).any λe=>JT e l[i]with
    | true=>right;exact⟨_,_,rfl,rfl,rfl⟩
    | false=>
     left
     refine⟨D,_,_,rfl,rfl,rfl,rfl,?_⟩
     rw[ED,hx]
     exact h3.add _
  right
  rw[QK (show ¬(i:Int)<(l.length:Int) by omega)]
  exact⟨_,_,rfl,rfl,rfl⟩) (0,[]) 0 ⟨rfl,rfl,λk=>rfl⟩
 subst e3
 unfold UO NE
 rw[e1,e2]
 rcases r with r | r
 ·exact⟨false,rfl,rfl⟩
 exact⟨true,rfl,rfl⟩
structure QeB (c:QD) (s:Int):Prop where
 b:1<=s/\s<=1024
 i:c.Kind=1->c.Lo<=c.Hi/\s=c.Hi-c.Lo+1
def IC (c:QD):Prop:=XJ c.Lo/\XJ c.Hi
def Qry {lo D:Int}(hl:XJ lo)(hh:XJ D):AS lo D=some (if D<lo then 0 else if D-lo<1024 then D-lo+1 else 1025):=by
 unfold AS
 by_cases h:D<lo
 ·rw[QE h,if_pos h];rfl
 rw[QK h,if_neg h,Qs]
 have e:IntKind.u64.wrap (IntKind.u64.wrap D-IntKind.u64.wrap lo)=D-lo:=by
  rw[TV,TV,TV];unfold XJ at *;omega
 rw[e]
 unfold min2
 by_cases h2:D-lo<1024
 ·rw[if_pos h2]
  by_cases h3:1024<D-lo
  ·omega
  rw[if_neg h3,XD (n:=D-lo) (by omega),XD (by omega)]
 rw[if_neg h2]
 split
 ·rfl
 have:D-lo=1024:=by omega
 rw[this];rfl
def Lq (n:Int):Bool:=decide (n<1)||decide (1024<n)
def QnD {n:Int}(h:Lq n=false):1<=n/\n<=1024:=by
 unfold Lq at h
 simp only[Kw,QX]at h
 omega
def QsW {c:QD}{out:LI_}{i:Nat}(hc:IC c)(hN:QV EW c.Names)(ho:out.length=i):∃n n',AT c out=some n/\(∀ok,Oz c out (i:Int) ok=Jy ok out i n')/\((n'=n/\(Lq n=false->QeB c n))\/(Lq n=true/\Lq n'=true)):=by
 unfold AT Oz
 have z:Lq 0=true:=rfl
 by_cases k1:c.Kind=1
 ·rw[show(c.Kind==1)=true by simpa using k1]
  simp only[Qz]
  rw[Qry hc.1 hc.2,Qd]
  obtain⟨c1,c2⟩:=hc
  unfold XJ at c1 c2
  by_cases a1:c.Hi<c.Lo
  ·rw[if_pos a1,QK (by omega:¬c.Lo<=c.Hi),RX]
   exact⟨0,0,rfl,λ_=>rfl,.inr ⟨z,z⟩⟩
  rw[if_neg a1,QE (by omega:c.Lo<=c.Hi),TA]
  by_cases a2:0<=c.Lo\/c.Hi<c.Lo+1024
  ·have D:(decide (0<=c.Lo)||decide (c.Hi<Qi (c.Lo+1024)))=true:=by
    by_cases a3:0<=c.Lo
    ·rw[QE a3,Bool.true_or]
    rw[XD (by omega),QE (by omega:c.Hi<c.Lo+1024),Bool.or_true]
   rw[D]
   simp only[Qz]
   have e1:Qi (c.Hi-c.Lo)=c.Hi-c.Lo:=XD (by omega)
   rw[e1]
   unfold min2
   by_cases a4:c.Hi-c.Lo<1024
   ·rw[if_pos a4,if_neg (by omega:¬1024<c.Hi-c.Lo),XD (by omega)]
    exact⟨_,_,rfl,λ_=>rfl,.inl ⟨rfl,λhb=>⟨QnD hb,λ_=>⟨by omega,rfl⟩⟩⟩⟩
   rw[if_neg a4]
   refine⟨_,_,rfl,λ_=>rfl,.inr ⟨rfl,?_⟩⟩
   have:(if (1024:Int)<c.Hi-c.Lo then 1024 else c.Hi-c.Lo)=1024:=by split<;>omega
   rw[this];rfl
  rw[QK (by omega:¬0<=c.Lo),Tz,XD (by omega),QK (by omega:¬c.Hi<c.Lo+1024),if_neg (by omega)]
  exact⟨_,_,rfl,λ_=>rfl,.inr ⟨rfl,z⟩⟩
 rw[show(c.Kind==1)=false by simpa using k1]
 simp only[Qs]
 have nk:∀n,Lq n=false->QeB c n:=λn hb=>⟨QnD hb,λh=>absurd h k1⟩
 by_cases k2:c.Kind=2
 ·rw[show(c.Kind==2)=true by simpa using k2]
  simp only[Qz]
  obtain⟨b,b1,b2⟩:=Qox hN
  rw[b1,b2]
  cases b with
  | true=>exact⟨_,_,rfl,λ_=>rfl,.inl ⟨rfl,nk _⟩⟩
  | false=>exact⟨0,0,rfl,λ_=>rfl,.inr ⟨z,z⟩⟩
 rw[show(c.Kind==2)=false by simpa using k2]
 simp only[Qs]
 by_cases k3:c.Kind=3
 ·rw[show(c.Kind==3)=true by simpa using k3]
  simp only[Qz]
  have D:((decide (0<=min2 c.First c.Then))&&(decide (max2 c.First c.Then<(out.length:Int))))=((decide (0<=c.First))&&((decide (c.First<(i:Int)))&&((decide (0<=c.Then))&&(decide (c.Then<(i:Int)))))):=by
   apply ZN.2
   simp only[QQ,QB,Mg,Mh,ho]
   omega
  rw[D]
  cases hq:((decide (0<=c.First))&&((decide (c.First<(i:Int)))&&((decide (0<=c.Then))&&(decide (c.Then<(i:Int))))))with
  | false=>exact⟨0,0,rfl,λ_=>rfl,.inr ⟨z,z⟩⟩
  | true=>
   simp only[QQ,QB]at hq
   simp only[Qz]
   rw[Ng hq.1 (by omega),Ng hq.2.2.1 (by omega)]
   exact⟨_,_,rfl,λ_=>rfl,.inl ⟨rfl,nk _⟩⟩
 rw[show(c.Kind==3)=false by simpa using k3]
 exact⟨0,0,rfl,λ_=>rfl,.inr ⟨z,z⟩⟩
def Qoy {l:L_ QD}(h:QV Jb l)(hc:∀c∈l,IC c):∃x b,GS l=some (x,b)/\NF l=some x/\(b=false->x=[])/\(b=true->x.length=l.length/\∀(j:Nat) c s,l[j]? = some c->x[j]? = some s->QeB c s):=by
 unfold GS NF
 by_cases h32:32<l.length
 ·rw[QE (show(32:Int)<(l.length:Int) by omega)]
  exact⟨[],false,rfl,rfl,λ_=>rfl,λh=>by cases h⟩
 rw[QK (show ¬(32:Int)<(l.length:Int) by omega),Qs,Qs]
 have hm:(2048:Nat)<=maxLen:=by decide
 obtain⟨r,q,e1,e2,e3⟩:=Zz (b1:=λst:Int×L_ (ByteArray×Bool)×LI_=>Wy l st.1 st.2.1 st.2.2) (b2:=λst:Int×LI_=>Ah l st.1 st.2) l.length
  (λi s t=>s.1=(i:Int)/\t=((i:Int),s.2.2)/\Had s.2.1 ((l.take i).map QD.Name)/\s.2.2.length=i/\∀(j:Nat) c z,l[j]? = some c->s.2.2[j]? = some z->QeB c z)
  (λr q=>r=q/\∀x,r=.inr x->x.length=l.length/\∀(j:Nat) c z,l[j]? = some c->x[j]? = some z->QeB c z) (λi s t hi hI=>by
  obtain⟨a,m,out⟩:=s
  obtain⟨h1,h2,h3,h4,h5⟩:=hI
  replace h1:a=(i:Int):=h1
  subst h1 h2
  replace h3:Had m ((l.take i).map QD.Name):=h3
  replace h4:out.length=i:=h4
  replace h5:∀(j:Nat) c z,l[j]? = some c->out[j]? = some z->QeB c z:=h5
  show(i<l.length/\∃s' t',Wy l i m out=_/\Ah l i out=_/\_)\/∃r q,Wy l i m out=_/\Ah l i out=_/\_
  unfold Wy Ah Mx My
  by_cases D:i<l.length
  ·have hx:l[i]? = some l[i]:=Qy D
   have hmem:=Xn D
   obtain⟨b,hb,_⟩:=BN l[i].Name (h.2 _ hmem).1
   have il:=OO (body:=λst:Bool×Int=>GX i l l[i] st.1 st.2) (l:=l.take i) (λk (t:Bool)=>(t,(k:Int))) (λ_ t e=>.inl (t&&!JT e.Name l[i].Name)) (λt=>t) (λk t x hk hkx=>by
    rw[WZ]at hk
    have hkx:l[k]? = some x:=by rw[Kd,if_pos (by omega)]at hkx;exact hkx
    show GX i l l[i] t (k:Int)=_
    unfold GX Zb Zc
    rw[QE (by omega),Qz,QP,hkx,Qt (show k<l.length by omega) h.1]
    cases t<;>rfl) (λt=>by
    show GX i l l[i] t ((l.take i).length:Int)=_
    unfold GX
    rw[WZ,QK (by omega)];rfl) b (s0:=(b,0)) rfl
   rw[QkP]at il
   rw[QE (show(i:Int)<(l.length:Int) by omega),Qz,Qz,QP,hx,Qd,Qd,Qle,hb]
   have ea:(l.take i).all (λe=>!JT e.Name l[i].Name)=!(((l.take i).map QD.Name).any λe=>JT e l[i].Name):=by rw[List.any_map,List.not_any_eq_all_not];rfl
   generalize hq:((l.take i).map QD.Name).any (λe=>JT e l[i].Name)=had
   obtain⟨n,n',s1,s2,s3⟩:=QsW (i:=i) (hc _ hmem) (h.2 _ hmem).2.2.2.2.1 h4
   rw[s1]
   simp only[Qd]
   rw[il]
   simp only[Qd]
   rw[h3 l[i].Name,ea,hq,s2]
   unfold Jy
   have hbs:∀n,((decide (n<1))||(decide (1024<n)))=Lq n:=λ_=>rfl
   rw[hbs]
   have ebad:((bif !b then some true else bif had then some true else bif decide (n<1)then some true else some (decide (1024<n))):O_ Bool)=some (!b||(had||Lq n)):=by
    unfold Lq
    cases b<;>cases had<;>cases decide (n<1)<;>rfl
   rw[ebad,Qd]
   have stop:∀n n':Int,Lq n'=true\/(b&&!had)=false->(!b||(had||Lq n))=true->∃(r:Unit⊕LI_) (q:Unit⊕LI_),((bif (!b||(had||Lq n))then some (.inr (.inl ()))else(chk (decide (out.length+[n].length<=4294967296))).bind λ_=>some (.inl (Qi ((i:Int)+1),YI OM m l[i].Name true,out++[n]))):O_ ((Int×L_ (ByteArray×Bool)×LI_)⊕(Unit⊕LI_)))=some (.inr r)/\((bif (!(b&&!had)||Lq n')then some (.inr (.inl ()))else(chk (decide (out.length+[n'].length<=4294967296))).bind λ_=>some (.inl (Qi ((i:Int)+1),out++[n']))):O_ ((Int×LI_)⊕(Unit⊕LI_)))=some (.inr q)/\r=q/\∀x,r=.inr x->x.length=l.length/\∀(j:Nat) c z,l[j]? = some c->x[j]? = some z->QeB c z:=λn n' h1 h2=>by
    refine⟨.inl (),.inl (),by rw[h2];rfl,?_,rfl,λx hx=>by cases hx⟩
    rcases h1 with h1 | h1<;>rw[h1]<;>simp
   by_cases hg:b=true/\had=false/\Lq n=false
   ·obtain⟨g1,g2,g3⟩:=hg
    rcases s3 with⟨s4,s5⟩|⟨s4,_⟩
    ·subst s4 g1 g2
     rw[g3]
     simp only[GE,Bool.not_false,Tw,ZP,Qs]
     left
     rw[WJ (by simp;omega),Qd,Qd]
     refine⟨D,_,_,rfl,rfl,Qt D h.1,by rw[Qt D h.1],?_,by simp;omega,λj c z hj hz=>?_⟩
     ·rw[ED,hx,List.map_append]
      exact h3.add _
     replace hz:(out++[n'])[j]? = some z:=hz
     by_cases hjl:j<out.length
     ·rw[Jz hjl]at hz
      exact h5 j c z hj hz
     rw[Wl (by omega)]at hz
     have:j=i:=by
      have:=(Xj.1 hz).1
      simp at this;omega
     subst this
     rw[hx]at hj
     cases hj
     rw[h4,Nat.sub_self]at hz
     cases hz
     exact s5 g3
    rw[g3]at s4;cases s4
   right
   refine stop n n' ?_ ?_
   ·rcases s3 with⟨s4,_⟩|⟨_,s4⟩
    ·subst s4
     cases b<;>cases had<;>cases hb2:Lq n'<;>simp_all
    exact .inl s4
   cases b<;>cases had<;>cases hb2:Lq n<;>simp_all
  right
  rw[QK (show ¬(i:Int)<(l.length:Int) by omega)]
  exact⟨_,_,rfl,rfl,rfl,λx hx=>by cases hx;exact⟨by show out.length=_;omega,h5⟩⟩) (0,[],[]) (0,[]) ⟨rfl,rfl,λk=>rfl,rfl,λj c z _ h=>by simp at h⟩
 obtain⟨e3,e4⟩:=e3
 subst e3
 rw[e1,e2]
 rcases r with r | r
 ·exact⟨[],false,rfl,rfl,λ_=>rfl,λh=>by cases h⟩
 exact⟨r,true,rfl,rfl,(λh=>by cases h),λ_=>e4 r rfl⟩
def QkQ {l:L_ QD}(h:QV Jb l)(hc:∀c∈l,IC c)(k:Int):
  (Ex l k=some 0/\∃x,WS l k=some (false,x))\/
  ∃c x s,l[k.toNat]? = some c/\0<=k/\k.toNat<l.length/\x[k.toNat]? = some s/\QeB c s/\Ex l k=some s/\WS l k=some (true,Ys.mk l x k):=by
 obtain⟨x,b,h1,h2,h3,h4⟩:=Qoy h hc
 unfold Ex WS
 rw[h1,h2,Qd,Qd]
 cases b with
 | false=>
  rw[h3 rfl]
  refine .inl ⟨?_,_,rfl⟩
  have:((decide (k<0))||(decide ((([]:LI_).length:Int)<=k)))=true:=by simp;omega
  rw[this];rfl
 | true=>
  obtain⟨h5,h6⟩:=h4 rfl
  rw[h5]
  cases hq:((decide (k<0))||(decide ((l.length:Int)<=k)))with
  | true=>exact .inl ⟨rfl,_,rfl⟩
  | false=>
   simp only[Kw,QX]at hq
   have e1:l[k.toNat]? = some (l[k.toNat]'(by omega)):=Qy (by omega)
   have D:x[k.toNat]? = some (x[k.toNat]'(by omega)):=Qy (by omega)
   exact .inr ⟨_,x,_,e1,by omega,by omega,D,h6 _ _ _ e1 D,by rw[Qs,WN (by omega),D];rfl,rfl⟩
def QpF {l:L_ QD}(h:QV Jb l)(hc:∀c∈l,IC c)(k:Int):Ex l k=YC l k:=by
 unfold YC
 rcases QkQ h hc k with⟨D,x,e2⟩|⟨c,x,s,h1,h2,h3,h4,h5,D,e2⟩
 ·rw[D,e2];rfl
 rw[D,e2,Qd]
 show some s=(idx x k).bind _
 rw[WN h2,h4];rfl
def QmJ {l:L_ QD}{x:LI_}{k s:Int}(D:0<=k)(hs:x[k.toNat]? = some s)(m:Int):Kf (Ys.mk l x k) m=some (decide (0<=m)&&decide (m<s)):=by
 unfold Kf GK Rn
 by_cases h:0<=m
 ·rw[QE h,Qz,TA]
  show((idx x k).bind _).bind _=_
  rw[WN D,hs];rfl
 rw[QK h];rfl
def QpG {l:L_ QD}{x:LI_}{k:Int}{c:QD}(h:0<=k)(D:l[k.toNat]? = some c):JF (Ys.mk l x k)=some c:=by
 unfold JF
 show(idx l k).bind _=_
 rw[WN h,D];rfl
def Qni {l:L_ QD}(h:QV Jb l)(hc:∀c∈l,IC c)(k m:Int):∃r,WH l k m=some r/\Mb l k m=some r/\XJ r.1:=by
 have z:XJ 0:=by unfold XJ;omega
 unfold WH Mb Th Ti Bj Bk
 rcases QkQ h hc k with⟨e1,x,e2⟩|⟨c,x,s,h1,h2,h3,h4,h5,e1,e2⟩
 ·rw[e1,e2,Qd,Qd]
  refine⟨(0,false),rfl,?_,z⟩
  by_cases D:m<0
  ·rw[QE D];rfl
  rw[QK D,Qs,Qd,QE (by omega:0<=m)];rfl
 rw[e1,e2,Qd,Qd]
 simp only[GE,Qs]
 rw[QmJ h2 h4,Qd,Qd]
 have e3:(bif decide (m<0)then some true else some (decide (s<=m)):O_ Bool)=some (!(decide (0<=m)&&decide (m<s))):=by
  by_cases D:m<0
  ·rw[QE D,QK (by omega:¬0<=m)];rfl
  rw[QK D,QE (by omega:0<=m)]
  by_cases hs:s<=m
  ·rw[QE hs,QK (by omega:¬m<s)];rfl
  rw[QK hs,QE (by omega:m<s)];rfl
 rw[e3,Qd,WN h2,h1]
 cases hq:(!(decide (0<=m)&&decide (m<s)))with
 | true=>exact⟨(0,false),rfl,rfl,z⟩
 | false=>
  simp only[Fp,QQ,QB]at hq
  have hb:=h5.b
  rw[QpG h2 h1,Qd,Qd,Qs]
  cases (c.Kind==1)with
  | true=>exact⟨_,rfl,rfl,QlU _⟩
  | false=>exact⟨_,rfl,rfl,by unfold XJ;omega⟩
def QhT {s first n:Int}(hs:s<=1024)(hf:XJ first)(hl:first+s-1<=9223372036854775807):Gs s n first=some (bif (decide (0<=n-first)&&decide (n-first<s))then(n-first,true)else(0,false)):=by
 unfold Gs
 unfold XJ at hf
 have hm:(2048:Nat)<=maxLen:=by decide
 obtain⟨r,hr,h1⟩:=ON (body:=λst:Int=>WC s first n st) s.toNat (λi st=>st=(i:Int)/\∀j:Nat,j<i->first+j≠n) (λr=>r=bif (decide (0<=n-first)&&decide (n-first<s))then .inl (n-first)else .inr ()) (λi st hi h=>by
  obtain⟨rfl,h⟩:=h
  show(∃s',WC s first n i=_/\_)\/∃r,WC s first n i=_/\_
  unfold WC
  rw[QE (by omega),Qz,XD (n:=first+i) (by omega)]
  by_cases e:first+i=n
  ·right
   rw[show(first+(i:Int)==n)=true by simpa using e,Qz]
   refine⟨_,rfl,?_⟩
   rw[QE (by omega),QE (by omega),show n-first=(i:Int) by omega];rfl
  ·left
   rw[show(first+(i:Int)==n)=false by simpa using e,Qs]
   refine⟨_,rfl,XD (by omega),λj hj=>?_⟩
   by_cases D:j=i
   ·subst D;exact e
   exact h j (by omega)) (λst h=>by
  obtain⟨rfl,h⟩:=h
  show ∃r,WC s first n (s.toNat:Int)=_/\_
  unfold WC
  rw[QK (by omega),Qs]
  refine⟨_,rfl,?_⟩
  by_cases c:0<=n-first/\n-first<s
  ·have:=h (n-first).toNat (by omega)
   omega
  have:(decide (0<=n-first)&&decide (n-first<s))=false:=by
   apply Bool.eq_false_iff.2
   simp only[ne_eq,QQ,QB];exact c
  rw[this];rfl) 0 ⟨rfl,λj hj=>by omega⟩
 rw[hr,h1,Qd]
 cases (decide (0<=n-first)&&decide (n-first<s))<;>rfl
def Qnj {l:L_ QD}(h:QV Jb l)(hc:∀c∈l,IC c)(k n:Int)(hn:XJ n):∃r,WI l k n=some r/\Md l k n=some r:=by
 unfold WI Md Tm Tn
 rcases QkQ h hc k with⟨e1,x,e2⟩|⟨c,x,s,h1,h2,h3,h4,h5,e1,e2⟩
 ·rw[e1,e2,Qd,Qd]
  refine⟨(0,false),rfl,?_⟩
  show Gs 0 n 0=_
  rw[QhT (by omega) (by unfold XJ;omega) (by omega)]
  have:(decide (0<=n-0)&&decide (n-0<0))=false:=by
   apply Bool.eq_false_iff.2
   simp only[ne_eq,QQ,QB];omega
  rw[this];rfl
 rw[e1,e2,Qd,Qd]
 simp only[GE,Qs]
 have hb:=h5.b
 have D:=XH h1
 obtain⟨c1,c2⟩:=hc c D
 rw[QpG h2 h1,Qd,QE (by omega:0<s),Qz,WN h2,h1]
 simp only[Qd]
 unfold Kb
 by_cases k1:c.Kind=1
 ·rw[show(c.Kind==1)=true by simpa using k1]
  simp only[Qz]
  obtain⟨g1,g2⟩:=h5.i k1
  unfold XJ at c1 c2 hn
  rw[QhT hb.2 c1 (by omega)]
  by_cases q:n<c.Lo\/c.Hi<n
  ·have:((decide (n<c.Lo))||(decide (c.Hi<n)))=true:=by simpa using q
   rw[this,Qz]
   have:(decide (0<=n-c.Lo)&&decide (n-c.Lo<s))=false:=by
    apply Bool.eq_false_iff.2
    simp only[ne_eq,QQ,QB];omega
   rw[this]
   exact⟨_,rfl,rfl⟩
  have:((decide (n<c.Lo))||(decide (c.Hi<n)))=false:=by simpa using q
  rw[this,Qs,XD (by omega),QmJ h2 h4,Qd,QE (by omega:0<=n-c.Lo),QE (by omega:n-c.Lo<s)]
  exact⟨_,rfl,rfl⟩
 rw[show(c.Kind==1)=false by simpa using k1]
 simp only[Qs]
 rw[QhT hb.2 (by unfold XJ;omega) (by omega),QmJ h2 h4,Qd,show n-0=n by omega]
 cases (decide (0<=n)&&decide (n<s))with
 | true=>exact⟨_,rfl,rfl⟩
 | false=>exact⟨_,rfl,rfl⟩
def Wj {α:Type}{l:L_ α}{i:Nat}(h:i<l.length):l.take (i+1)=l.take i++[l[i]]:=by rw[ED,Qy h];rfl
def ZA {l:QBg}{x:Int×Int}:Gm (l++[x])↔Gm l/\∀p∈l,p.1<x.1:=by
 unfold Gm
 rw[QhZ]
 constructor
 ·rintro ⟨h,_,D⟩;exact⟨h,λp hp=>D p hp x (by simp)⟩
 rintro ⟨h,D⟩;exact⟨h,by simp,λp hp q hq=>by simp at hq;subst hq;exact D p hp⟩
def QmK {b:QBg}(h:Gm b){i:Nat}(D:i<b.length):∀p∈b.take i,p.1<b[i].1:=by
 have:=h.sublist (List.take_sublist (i+1) b)
 rw[Wj D]at this
 exact(ZA.1 this).2
def Fm {b:QBg}(h:b.length<=maxLen):Kv b=some (GA (-1) b):=by
 unfold Kv
 obtain⟨r,hr,h1⟩:=ON (body:=λst:Int=>Dq b st) b.length (λi s=>s=(i:Int)/\Rt (b.take i)) (λr=>r=bif GA (-1) b then .inr ()else .inl ()) (λi s hi D=>by
  obtain⟨rfl,D⟩:=D
  have hx:b[i]? = some b[i]:=Qy hi
  show(∃s',Dq b i=_/\_)\/∃r,Dq b i=_/\_
  unfold Dq VW VX
  rw[QE (by omega),Qz,QP,hx]
  simp only[Qd]
  have stop:¬Rt b->∃r:Unit⊕Unit,some (Sum.inr (Sum.inl ()))=(some (Sum.inr r):O_ (Int⊕(Unit⊕Unit)))/\r=bif GA (-1) b then .inr ()else .inl ():=λhb=>by
   rw[<-YQ,HU]at hb
   rw[hb];exact⟨_,rfl,rfl⟩
  have hm:=Xn hi
  by_cases c1:b[i].1<0
  ·rw[QE c1]
   exact .inr (stop λhb=>by have:=hb.2 _ hm;omega)
  rw[QK c1,Qs]
  by_cases c2:b[i].2<1
  ·rw[QE c2]
   exact .inr (stop λhb=>by have:=hb.2 _ hm;omega)
  rw[QK c2,Qs]
  by_cases c3:1048576<b[i].2
  ·rw[QE c3]
   exact .inr (stop λhb=>by have:=hb.2 _ hm;omega)
  rw[QK c3,Qs]
  have go:(∀p∈b.take i,p.1<b[i].1)->Rt (b.take (i+1)):=λhp=>by
   rw[Wj hi]
   refine⟨ZA.2 ⟨D.1,hp⟩,λp hp=>?_⟩
   rcases YD.1 hp with hp | hp
   ·exact D.2 p hp
   simp at hp;subst hp;omega
  by_cases c4:0<i
  ·rw[QE (by omega:(0:Int)<(i:Int)),Qz,XD (n:=(i:Int)-1) (by unfold maxLen at h;omega),show(i:Int)-1=((i-1:Nat):Int) by omega,QP,Qy (show i-1<b.length by omega)]
   simp only[Qd]
   by_cases c5:b[i].1<=(b[i-1]'(by omega)).1
   ·rw[QE c5]
    exact .inr (stop λhb=>by
     have:=Qh0.1 hb.1 (i-1) i (by omega) hi (by omega)
     omega)
   rw[QK c5]
   refine .inl ⟨_,rfl,Qt hi h,go λp hp=>?_⟩
   obtain⟨j,hj,rfl⟩:=HX.1 hp
   rw[WZ]at hj
   rw[List.getElem_take]
   by_cases hji:j=i-1
   ·subst hji;omega
   have:=Qh0.1 D.1 j (i-1) (by simp;omega) (by simp;omega) (by omega)
   rw[List.getElem_take,List.getElem_take]at this
   omega
  ·rw[QK (by omega:¬(0:Int)<(i:Int)),Qs]
   refine .inl ⟨_,rfl,Qt hi h,go λp hp=>?_⟩
   rw[show i=0 by omega]at hp;cases hp) (λs D=>by
  obtain⟨rfl,D⟩:=D
  rw[HY]at D
  refine⟨_,?_,rfl⟩
  show Dq b (b.length:Int)=_
  unfold Dq
  rw[QK (by omega),YQ.2 D];rfl) 0 ⟨rfl,Rt.nil⟩
 rw[hr,h1]
 cases GA (-1) b<;>rfl
def QeC {b:QBg}(h:b.length<=maxLen)(hb:Rt b)(m:Int):AV b m=some (QM b m):=by
 unfold AV
 rw[Fm h,YQ.2 hb,Qd]
 obtain⟨r,hr,h1⟩:=ON (body:=λst:Int=>Dt b true m st) b.length (λi s=>s=(i:Int)/\∀p∈b.take i,p.1≠m) (λr=>r=.inl (QM b m)\/(r=.inr ()/\QM b m=0)) (λi s hi D=>by
  obtain⟨rfl,D⟩:=D
  have hx:b[i]? = some b[i]:=Qy hi
  show(∃s',Dt b true m i=_/\_)\/∃r,Dt b true m i=_/\_
  unfold Dt
  rw[QE (by omega),TA,Qz,QP,hx]
  simp only[Qd]
  by_cases e:b[i].1=m
  ·rw[show(b[i].1==m)=true by simpa using e]
   refine .inr ⟨_,rfl,.inl ?_⟩
   rw[<-e,Ef hb.1.nd (Xn hi)]
  ·rw[show(b[i].1==m)=false by simpa using e]
   refine .inl ⟨_,rfl,Qt hi h,λp hp=>?_⟩
   rw[Wj hi]at hp
   rcases YD.1 hp with hp | hp
   ·exact D p hp
   simp at hp;subst hp;exact e) (λs D=>by
  obtain⟨rfl,D⟩:=D
  rw[HY]at D
  refine⟨.inr (),?_,.inr ⟨rfl,?_⟩⟩
  ·show Dt b true m (b.length:Int)=_
   unfold Dt
   rw[QK (by omega)];rfl
  unfold QM;rw[Mj.2 D];rfl) 0 ⟨rfl,λp hp=>by cases hp⟩
 rw[hr]
 rcases h1 with rfl | ⟨rfl,e⟩
 ·rfl
 rw[e];rfl
def QmL {b:QBg}(h:b.length<=4294967295)(hb:Rt b){m n:Int}(hm:0<=m)(hn:0<=n/\n<=1048576):∃r,Lf b m n=some r/\Rt r/\(∀k,QM r k=if k=m then n else QM b k)/\r.length<=b.length+1:=by
 have hl:b.length<=maxLen:=by unfold maxLen;omega
 unfold Lf
 obtain⟨⟨dn,out⟩,hr,h1,h2,h3,h4⟩:=ON (body:=λst:Bool×Int×QBg=>EP b m n st.1 st.2.1 st.2.2) b.length
  (λi s=>s.2.1=(i:Int)/\(s.1=true↔∃p∈b.take i,m<=p.1)/\Gm s.2.2/\(∀p,p∈s.2.2↔(p.1≠m/\p∈b.take i)\/(s.1=true/\0<n/\p=(m,n)))/\s.2.2.length<=i+(bif s.1 then 1 else 0))
  (λr=>(r.1=true↔∃p∈b,m<=p.1)/\Gm r.2/\(∀p,p∈r.2↔(p.1≠m/\p∈b)\/(r.1=true/\0<n/\p=(m,n)))/\r.2.length<=b.length+(bif r.1 then 1 else 0)) (λi s hi hI=>by
   obtain⟨d,a,out⟩:=s
   obtain⟨h1,h2,h3,h4,h5⟩:=hI
   replace h1:a=(i:Int):=h1
   subst h1
   replace h2:d=true↔∃p∈b.take i,m<=p.1:=h2
   replace h3:Gm out:=h3
   replace h4:∀p,p∈out↔(p.1≠m/\p∈b.take i)\/(d=true/\0<n/\p=(m,n)):=h4
   replace h5:out.length<=i+(bif d then 1 else 0):=h5
   have hx:b[i]? = some b[i]:=Qy hi
   have hup:=QmK hb.1 hi
   left
   show ∃s',EP b m n d i out=_/\_
   unfold EP Qap Qaq Iw
   rw[QE (by omega),Qz]
   have own:∀(d':Bool) (D:QBg),(d'=true↔∃p∈b.take (i+1),m<=p.1)->Gm D->(∀p,p∈D↔(p.1≠m/\p∈b.take i)\/(d'=true/\0<n/\p=(m,n)))->D.length<=i+(bif d' then 1 else 0)->(∀p∈D,b[i].1≠m->p.1<b[i].1)->
     ∃s',BE b i m d' D=some (.inl s')/\(s'.2.1=((i+1:Nat):Int)/\(s'.1=true↔∃p∈b.take (i+1),m<=p.1)/\Gm s'.2.2/\(∀p,p∈s'.2.2↔(p.1≠m/\p∈b.take (i+1))\/(s'.1=true/\0<n/\p=(m,n)))/\s'.2.2.length<=i+1+(bif s'.1 then 1 else 0)):=λd' D g1 g2 g3 g4 g5=>by
    unfold BE Iv
    have hdl:(bif d' then 1 else 0:Nat)<=1:=by cases d'<;>decide
    rw[QP,hx]
    simp only[Qd]
    by_cases e:b[i].1=m
    ·rw[show(b[i].1 != m)=false by simpa using e]
     refine⟨_,rfl,Qt hi hl,g1,g2,λp=>?_,by show D.length<=_;omega⟩
     show p∈D↔_
     rw[g3,Wj hi,YD,OW]
     constructor
     ·rintro (⟨x1,x2⟩|x)
      ·exact .inl ⟨x1,.inl x2⟩
      exact .inr x
     rintro (⟨x1,x2 | rfl⟩|x)
     ·exact .inl ⟨x1,x2⟩
     ·exact absurd e x1
     exact .inr x
    rw[show(b[i].1 != m)=true by simpa using e,Qz,WJ (by simp;omega)]
    refine⟨_,rfl,Qt hi hl,g1,ZA.2 ⟨g2,λp hp=>g5 p hp e⟩,λp=>?_,by show(D++[b[i]]).length<=_;rw[JI];simp;omega⟩
    show p∈D++[b[i]]↔_
    rw[YD,OW,g3,Wj hi,YD,OW]
    constructor
    ·rintro ((⟨x1,x2⟩|x) | rfl)
     ·exact .inl ⟨x1,.inl x2⟩
     ·exact .inr x
     exact .inl ⟨e,.inr rfl⟩
    rintro (⟨x1,x2 | x2⟩|x)
    ·exact .inl (.inl ⟨x1,x2⟩)
    ·exact .inr x2
    exact .inl (.inr x)
   have grow:∀p:Int×Int,p∈b.take (i+1)↔p∈b.take i\/p=b[i]:=λp=>by rw[Wj hi,YD,OW]
   cases d with
   | true=>
    obtain⟨q,hq,hq2⟩:=h2.1 rfl
    rw[show(!true)=false from rfl,Qs,Qd,Qs]
    exact own true out ⟨λ_=>⟨q,(grow q).2 (.inl hq),hq2⟩,λ_=>rfl⟩ h3 h4 h5 λp hp _=>by
     rcases(h4 p).1 hp with⟨_,x⟩|⟨_,_,rfl⟩
     ·exact hup p x
     have:=hup q hq;show m<_;omega
   | false=>
    have low:∀p∈b.take i,p.1<m:=λp hp=>by
     apply Classical.byContradiction
     intro hc
     have:=h2.2 ⟨p,hp,by omega⟩
     cases this
    rw[show(!false)=true from rfl,Qz,QP,hx]
    simp only[Qd]
    by_cases e:m<=b[i].1
    ·rw[QE e,Qz]
     have g1:(true=true↔∃p∈b.take (i+1),m<=p.1):=⟨λ_=>⟨b[i],(grow _).2 (.inr rfl),e⟩,λ_=>rfl⟩
     by_cases hn0:0<n
     ·rw[QE hn0,Qz,WJ (by simp only[Qs]at h5;simp;omega),Qd]
      refine own true (out++[(m,n)]) g1 (ZA.2 ⟨h3,λp hp=>?_⟩) (λp=>?_) (by simp only[Qs]at h5;simp;omega) λp hp he=>?_
      ·rcases(h4 p).1 hp with⟨_,x⟩|⟨x,_⟩
       ·exact low p x
       cases x
      ·rw[YD,OW,h4]
       constructor
       ·rintro ((x | ⟨x,_⟩) | rfl)
        ·exact .inl x
        ·cases x
        exact .inr ⟨rfl,hn0,rfl⟩
       rintro (x | ⟨_,_,x⟩)
       ·exact .inl (.inl x)
       exact .inr x
      rcases YD.1 hp with hp | hp
      ·rcases(h4 p).1 hp with⟨_,x⟩|⟨x,_⟩
       ·exact hup p x
       cases x
      simp at hp;subst hp;show m<_;omega
     rw[QK hn0,Qs]
     refine own true out g1 h3 (λp=>?_) (by simp only[Qs]at h5;simp;omega) λp hp he=>?_
     ·rw[h4]
      constructor
      ·rintro (x | ⟨x,_⟩)
       ·exact .inl x
       cases x
      rintro (x | ⟨_,x,_⟩)
      ·exact .inl x
      exact absurd x hn0
     rcases(h4 p).1 hp with⟨_,x⟩|⟨x,_⟩
     ·exact hup p x
     cases x
    rw[QK e,Qs]
    refine own false out ⟨(λx=>by cases x),λ⟨p,hp,hp2⟩=>?_⟩ h3 h4 h5 λp hp he=>?_
    ·rcases(grow p).1 hp with x | rfl
     ·have:=low p x;omega
     exact absurd hp2 e
    rcases(h4 p).1 hp with⟨_,x⟩|⟨x,_⟩
    ·exact hup p x
    cases x) (λs hI=>by
   obtain⟨d,a,out⟩:=s
   obtain⟨h1,h2,h3,h4,h5⟩:=hI
   replace h1:a=(b.length:Int):=h1
   subst h1
   rw[HY]at h2 h4
   refine⟨(d,out),?_,h2,h3,h4,h5⟩
   show EP b m n d b.length out=_
   unfold EP
   rw[QK (by omega)];rfl) (false,0,[]) ⟨rfl,by simp,by simp[Gm],by simp,by simp⟩
 rw[hr,Qd]
 show ∃r,PP n m dn out=some r/\_
 unfold PP Ix
 have fin:∀r:QBg,Gm r->(∀p,p∈r↔(p.1≠m/\p∈b)\/(0<n/\p=(m,n)))->Rt r/\∀k,QM r k=if k=m then n else QM b k:=λr hA hmem=>by
  refine⟨⟨hA,λp hp=>?_⟩,λk=>?_⟩
  ·rcases(hmem p).1 hp with⟨_,x⟩|⟨x,rfl⟩
   ·exact hb.2 p x
   exact⟨hm,by show 1<=n;omega,hn.2⟩
  by_cases e:k=m
  ·subst e
   rw[if_pos rfl]
   by_cases hn0:0<n
   ·exact Ef hA.nd ((hmem (k,n)).2 (.inr ⟨hn0,rfl⟩))
   unfold QM
   rw[Mj.2 λp hp=>?_]
   ·show(0:Int)=n;omega
   rcases(hmem p).1 hp with⟨x,_⟩|⟨x,_⟩
   ·exact x
   exact absurd x hn0
  rw[if_neg e]
  unfold QM
  congr 1
  cases hq:QR b k with
  | some v=>exact(JH hA.nd).2 ((hmem (k,v)).2 (.inl ⟨e,(JH hb.1.nd).1 hq⟩))
  | none=>
   refine Mj.2 λp hp=>?_
   rcases(hmem p).1 hp with⟨_,x⟩|⟨_,rfl⟩
   ·exact Mj.1 hq p x
   exact λx=>e x.symm
 cases dn with
 | true=>
  obtain⟨f1,f2⟩:=fin out h2 λp=>by rw[h3];simp
  exact⟨out,rfl,f1,f2,by simpa using h4⟩
 | false=>
  have low:∀p∈b,p.1<m:=λp hp=>by
   apply Classical.byContradiction
   intro hc
   have:=h1.2 ⟨p,hp,by omega⟩
   cases this
  by_cases hn0:0<n
  ·rw[QE hn0]
   simp only[Qs,No]at h4
   obtain⟨f1,f2⟩:=fin (out++[(m,n)]) (ZA.2 ⟨h2,λp hp=>by
    rcases(h3 p).1 hp with⟨_,x⟩|⟨x,_⟩
    ·exact low p x
    ·cases x⟩) λp=>by
    rw[YD,OW,h3]
    constructor
    ·rintro ((x | ⟨x,_⟩) | rfl)
     ·exact .inl x
     ·cases x
     exact .inr ⟨hn0,rfl⟩
    rintro (x | ⟨_,x⟩)
    ·exact .inl (.inl x)
    exact .inr x
   refine⟨out++[(m,n)],?_,f1,f2,by simp;omega⟩
   rw[show(!false&&true)=true from rfl,Qz,WJ (by simp;omega)];rfl
  rw[QK hn0]
  obtain⟨f1,f2⟩:=fin out h2 λp=>by
   rw[h3]
   constructor
   ·rintro (x | ⟨x,_⟩)
    ·exact .inl x
    cases x
   rintro (x | ⟨x,_⟩)
   ·exact .inl x
   exact absurd x hn0
  exact⟨out,rfl,f1,f2,by simp only[Qs,No]at h4;omega⟩
def QmM {b:QBg}(hb:Gm b){i:Nat}(h:i<b.length)(k:Int):QM (b.take (i+1)) k=if k=b[i].1 then b[i].2 else QM (b.take i) k:=by
 have D:Gm (b.take (i+1)):=hb.sublist (List.take_sublist _ _)
 by_cases e:k=b[i].1
 ·subst e
  rw[if_pos rfl]
  exact Ef D.nd (by rw[Wj h];exact QhY _ XY)
 rw[if_neg e]
 unfold QM
 congr 1
 have h0:Gm (b.take i):=hb.sublist (List.take_sublist _ _)
 cases hq:QR (b.take i) k with
 | some v=>exact(JH D.nd).2 (by rw[Wj h];exact QbR _ ((JH h0.nd).1 hq))
 | none=>
  refine Mj.2 λp hp=>?_
  rw[Wj h]at hp
  rcases YD.1 hp with hp | hp
  ·exact Mj.1 hq p hp
  simp at hp;subst hp;exact λx=>e x.symm
def Qrz {b:QBg}(h:Gm b){i:Nat}(D:i<b.length):QM (b.take i) b[i].1=0:=by
 unfold QM
 rw[Mj.2 λp hp=>by have:=QmK h D p hp;omega];rfl
def QhU {a b:QBg}(h:a.length+b.length<=4294967290):UL a b=Ji a b:=by
 unfold UL Qbw Qbx
 have ha:a.length<=maxLen:=by unfold maxLen;omega
 have hb:b.length<=maxLen:=by unfold maxLen;omega
 rw[Fm ha,Fm hb,Qd]
 rcases EA a b (by omega)with⟨h1,h2⟩|⟨h1,h2,⟨k,h3⟩,h4⟩|⟨h1,h2,r,h3,h4,h5,h6⟩
 ·rw[h2,<-YQ,<-YQ]at *
  cases ra:GA (-1) a with
  | false=>rfl
  | true=>
   cases rb:GA (-1) b with
   | false=>rfl
   | true=>exact absurd ⟨ra,rb⟩ h1
 all_goals
  rw[YQ.2 h1,YQ.2 h2]
  simp only[GE,Qs,Qd,Nm,Lw,US]
  rw[WJ (by omega),Qd]
  obtain⟨q,hq,hp⟩:=ON (body:=λst:Int×QBg=>GV b st.1 st.2) b.length
   (λi s=>s.1=(i:Int)/\Rt s.2/\(∀k,QM s.2 k=QM a k+QM (b.take i) k)/\s.2.length<=a.length+i)
   (λq=>(q=.inl ()/\∃k,1048576<QM a k+QM b k)\/∃r,q=.inr r/\Rt r/\∀k,QM r k=QM a k+QM b k) (λi s hi hI=>by
    obtain⟨x,out⟩:=s
    obtain⟨D,g2,g3,g4⟩:=hI
    replace D:x=(i:Int):=D
    subst D
    replace g2:Rt out:=g2
    replace g3:∀k,QM out k=QM a k+QM (b.take i) k:=g3
    replace g4:out.length<=a.length+i:=g4
    have hx:b[i]? = some b[i]:=Qy hi
    have hbi:=‹Rt b›.2 _ (Xn hi)
    show(∃s',GV b i out=_/\_)\/∃r,GV b i out=_/\_
    unfold GV
    rw[QE (by omega),Qz,QP,hx]
    simp only[Qd]
    have hc:=‹Rt a›.cnt b[i].1
    rw[QeC (by unfold maxLen;omega) g2,Qd,g3,Qrz ‹Rt b›.1 hi,Int.add_zero,XD (by omega)]
    by_cases e:1048576<QM a b[i].1+b[i].2
    ·rw[QE e]
     refine .inr ⟨_,rfl,.inl ⟨rfl,b[i].1,?_⟩⟩
     rw[Ef ‹Rt b›.1.nd (Xn hi)];exact e
    ·rw[QK e,Qs]
     obtain⟨r,r1,r2,r3,r4⟩:=QmL (b:=out) (by omega) g2 (m:=b[i].1) (n:=QM a b[i].1+b[i].2) (by omega) (by omega)
     rw[r1,Qd]
     refine .inl ⟨_,rfl,Qt hi hb,r2,λk=>?_,by show r.length<=_;omega⟩
     show QM r k=_
     rw[r3,QmM ‹Rt b›.1 hi,g3]
     by_cases ek:k=b[i].1
     ·subst ek;rw[if_pos rfl,if_pos rfl]
     rw[if_neg ek,if_neg ek]) (λs hI=>by
    obtain⟨x,out⟩:=s
    obtain⟨D,g2,g3,g4⟩:=hI
    replace D:x=(b.length:Int):=D
    subst D
    rw[HY]at g3
    refine⟨.inr out,?_,.inr ⟨out,rfl,g2,g3⟩⟩
    show GV b b.length out=_
    unfold GV
    rw[QK (by omega)];rfl) (0,a) ⟨rfl,by assumption,λk=>by simp[QM,QR],by simp⟩
  rw[hq]
 ·rcases hp with⟨rfl,_⟩|⟨r,rfl,r1,r2⟩
  ·rw[h4];rfl
  have:=r1.cnt k
  rw[r2]at this;omega
 rcases hp with⟨rfl,k,hk⟩|⟨r',rfl,r1,r2⟩
 ·have:=h4.cnt k
  rw[h5]at this;omega
 have:r'=r:=rt_ext r1 h4 λk=>by rw[r2,h5]
 subst this
 rw[h3];rfl
def Sq {a b:QBg}(ha:a.length<=maxLen)(hb:b.length<=maxLen):Ec a b=IX a b:=by
 unfold Ec Tp Tq
 rw[Fm ha,Fm hb,Qd]
 obtain⟨r,h1,h⟩:=BO a b ha hb
 rw[h1]
 cases ra:GA (-1) a with
 | false=>
  have:r=false:=by
   cases r with
   | false=>rfl
   | true=>have:=YQ.2 (h.1 rfl).1;rw[ra]at this;cases this
  rw[this];rfl
 | true=>
  cases rb:GA (-1) b with
  | false=>
   have:r=false:=by
    cases r with
    | false=>rfl
    | true=>have:=YQ.2 (h.1 rfl).2.1;rw[rb]at this;cases this
   rw[this];rfl
  | true=>
   have h3:=YQ.1 ra
   have D:=YQ.1 rb
   simp only[GE,Qs,Qd]
   rw[Zr (body:=λst:Int=>Gt a b st) (l:=a) (λi=>(i:Int)) (λ_ x=>decide (QM b x.1<x.2)) (.inl ()) (.inr ()) (λi x hi hx=>by
    show Gt a b i=_
    unfold Gt
    rw[QE (by omega),Qz,QP,hx]
    simp only[Qd]
    rw[QeC hb D,Qd,Qt hi ha]
    cases decide (QM b x.1<x.2)<;>rfl) (by
    show Gt a b a.length=_
    unfold Gt
    rw[QK (by omega),Qs]) (s0:=0) rfl,Qd]
   have e:∀(l:QBg) (k:Nat),Rg (λ_ x=>decide (QM b x.1<x.2)) k l=l.any λp=>decide (QM b p.1<p.2):=λl=>by
    induction l with
    | nil=>intro k;rfl
    | cons x l ih=>intro k;rw[Rg,ih,List.any_cons]
   rw[e]
   have aw:=QcA h3 D
   cases hq:a.any λp=>decide (QM b p.1<p.2)with
   | false=>rw[h.2 ⟨h3,D,aw.1 hq⟩];rfl
   | true=>
    have:r=false:=by
     cases r with
     | false=>rfl
     | true=>rw[aw.2 (h.1 rfl).2.2]at hq;cases hq
    rw[this];rfl
end Go.Proofs
