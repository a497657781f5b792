/- A part of the proof. -/
import Derived.Test.YtkocdcoeinjdbaaGreatDoorK2P1
import Derived.Test.YtkocdcoeinjdbaaGreatDoorK2P1
import Derived.Test.YtkocdcoeinjdbaaGreatDoorK2P1
import Derived.Test.YtkocdcoeinjdbaaGreatDoorK2P1
import Derived.Test.YtkocdcoeinjdbaaGreatDoorK2P1
import Derived.KernelRfl
import Derived.Test.YtkocdcoeinjdbaaGreatDoorK2T2
import Derived.Test.YtkocdcoeinjdbaaGreatDoorK2XPlA
set_option linter.all false
noncomputable section
namespace Go.Proofs
open Go Go.RowKit Go.Vm
def VL (n:Ql)(a b:L_ Bag)(c d:Nat)(h:Ya n)(ha:Kh n c a)(hb:Kh n d b)(hcd:c+d<=1000000):Qj (Yr a b) λr=>(r.2=0->r.1.length=n.Places.length/\Qju JD a b r.1)/\(Can JD a b->r.2=0):=by
 have hpl:=h.pl
 have ha1:=ha.1
 have hb1:=hb.1
 have hmin:min2 (a.length:Int) (b.length:Int)=(n.Places.length:Int):=by unfold min2;split<;>omega
 unfold Yr
 rw[hmin]
 refine T0 (T5 (by simp only[QL,QM];omega)) λ_ _=>?_
 refine T0 (Qj.up n.Places.length (λst=>st.1) (λst=>st.2.length=n.Places.length/\∀(j:Nat) x y,(j:Int)<st.1->a[j]? = some x->b[j]? = some y->∃z,st.2[j]? = some z/\JD x y=some (z,0)) (Q:=λq:Int⊕L_ Bag=>(∀x,q=.inl x->x≠0/\¬Can JD a b)/\∀m,q=.inr m->m.length=n.Places.length/\Qju JD a b m) rfl ⟨by simp,λj x y hj=>by omega⟩ (λi st hi hn hJ=>?_)) (λq hq=>?_)
 ·obtain⟨x,m⟩:=st
  replace hi:x=(i:Int):=hi
  obtain⟨hJ1,hJ2⟩:m.length=n.Places.length/\∀(j:Nat) u v,(j:Int)<x->a[j]? = some u->b[j]? = some v->∃z,m[j]? = some z/\JD u v=some (z,0):=hJ
  show Qj (DQ a b x m) _
  unfold DQ
  rw[hmin]
  refine T1 (λhc=>?_) (λhc=>T2 (Qu ⟨λx e=>(by cases e),λm' e=>(by cases e;exact⟨hJ1,λj u v hu hv=>hJ2 j u v (by
   simp only[Xo,Zz]at hc
   have:=(Xe.1 hu).1
   omega) hu hv⟩)⟩))
  simp only[QM,Zz]at hc
  have i1:i<a.length:=by omega
  have i2:i<b.length:=by omega
  rw[hi,XH,EO i1,Qc,XH,EO i2,Qc]
  have hu2:=ha.2 _ (XW i1)
  have hv2:=hb.2 _ (XW i2)
  have key:∃s,JD a[i] b[i]=some s:=by
   rcases LG a[i] b[i] (by omega)with⟨_,e⟩|⟨_,_,_,e⟩|⟨_,_,_,r,e,h1,_,h2⟩
   ·exact⟨_,e⟩
   ·exact⟨_,e⟩
   exact⟨_,e⟩
  obtain⟨s,es⟩:=key
  rw[es,Qc]
  refine T0 (T4 (by omega) (by omega)) λ_ _=>?_
  refine T1 (λD=>T2 (Qu ⟨λx e=>(by cases e;exact⟨by simpa using D,λhcan=>by
   obtain⟨z,hz⟩:=hcan i _ _ (EO i1) (EO i2)
   rw[es]at hz
   cases hz
   simp at D⟩),λm' e=>(by cases e)⟩)) λD=>?_
  simp only[JZ]at D
  refine T2 (QP ⟨by omega,QE (by omega) (by unfold maxLen;omega:n.Places.length<=maxLen),by simpa using hJ1,λj u v hj hu hv=>?_⟩)
  have hj:(j:Int)<Qq ((i:Int)+1):=hj
  rw[QE (show i<n.Places.length by omega) (by unfold maxLen;omega)]at hj
  show ∃z,(m.set (i:Int).toNat s.1)[j]? = some z/\_
  by_cases cj:j=i
  ·subst cj
   rw[EO i1]at hu;rw[EO i2]at hv
   cases hu;cases hv
   refine⟨s.1,by rw[show((j:Int)).toNat=j from DE j];exact Mt (by omega),?_⟩
   rw[es,<-D]
  obtain⟨z,h1,h2⟩:=hJ2 j u v (by omega) hu hv
  exact⟨z,by rw[Ms (by simp;omega)];exact h1,h2⟩
 rcases q with q | q
 ·have:=hq.1 q rfl
  exact T2 ⟨λh=>absurd h this.1,λh=>absurd h this.2⟩
 exact T2 ⟨λ_=>hq.2 q rfl,λ_=>rfl⟩
def SF (n:Ql)(a b:L_ Bag)(c d:Nat)(h:Ya n)(ha:Kh n c a)(hb:Kh n d b)(hcd:c+d<=1000000):Qj (Ed a b) λr=>(r.2=0->r.1.length=n.Places.length/\Qju Ji a b r.1)/\(Can Ji a b->r.2=0):=by
 have hpl:=h.pl
 have ha1:=ha.1
 have hb1:=hb.1
 have hmin:min2 (a.length:Int) (b.length:Int)=(n.Places.length:Int):=by unfold min2;split<;>omega
 unfold Ed
 rw[hmin]
 refine T0 (T5 (by simp only[QL,QM];omega)) λ_ _=>?_
 refine T0 (Qj.up n.Places.length (λst=>st.1) (λst=>st.2.length=n.Places.length/\∀(j:Nat) x y,(j:Int)<st.1->a[j]? = some x->b[j]? = some y->∃z,st.2[j]? = some z/\Ji x y=some (z,0)) (Q:=λq:Int⊕L_ Bag=>(∀x,q=.inl x->x≠0/\¬Can Ji a b)/\∀m,q=.inr m->m.length=n.Places.length/\Qju Ji a b m) rfl ⟨by simp,λj x y hj=>by omega⟩ (λi st hi hn hJ=>?_)) (λq hq=>?_)
 ·obtain⟨x,m⟩:=st
  replace hi:x=(i:Int):=hi
  obtain⟨hJ1,hJ2⟩:m.length=n.Places.length/\∀(j:Nat) u v,(j:Int)<x->a[j]? = some u->b[j]? = some v->∃z,m[j]? = some z/\Ji u v=some (z,0):=hJ
  show Qj (Uq a b x m) _
  unfold Uq
  rw[hmin]
  refine T1 (λhc=>?_) (λhc=>T2 (Qu ⟨λx e=>(by cases e),λm' e=>(by cases e;exact⟨hJ1,λj u v hu hv=>hJ2 j u v (by
   simp only[Xo,Zz]at hc
   have:=(Xe.1 hu).1
   omega) hu hv⟩)⟩))
  simp only[QM,Zz]at hc
  have i1:i<a.length:=by omega
  have i2:i<b.length:=by omega
  rw[hi,XH,EO i1,Qc,XH,EO i2,Qc]
  have hu2:=ha.2 _ (XW i1)
  have hv2:=hb.2 _ (XW i2)
  have key:∃s,Ji a[i] b[i]=some s:=by
   rcases BO a[i] b[i] (by omega)with⟨_,e⟩|⟨_,_,_,e⟩|⟨_,_,r,e,h1,_,h2⟩
   ·exact⟨_,e⟩
   ·exact⟨_,e⟩
   exact⟨_,e⟩
  obtain⟨s,es⟩:=key
  rw[es,Qc]
  refine T0 (T4 (by omega) (by omega)) λ_ _=>?_
  refine T1 (λD=>T2 (Qu ⟨λx e=>(by cases e;exact⟨by simpa using D,λhcan=>by
   obtain⟨z,hz⟩:=hcan i _ _ (EO i1) (EO i2)
   rw[es]at hz
   cases hz
   simp at D⟩),λm' e=>(by cases e)⟩)) λD=>?_
  simp only[JZ]at D
  refine T2 (QP ⟨by omega,QE (by omega) (by unfold maxLen;omega:n.Places.length<=maxLen),by simpa using hJ1,λj u v hj hu hv=>?_⟩)
  have hj:(j:Int)<Qq ((i:Int)+1):=hj
  rw[QE (show i<n.Places.length by omega) (by unfold maxLen;omega)]at hj
  show ∃z,(m.set (i:Int).toNat s.1)[j]? = some z/\_
  by_cases cj:j=i
  ·subst cj
   rw[EO i1]at hu;rw[EO i2]at hv
   cases hu;cases hv
   refine⟨s.1,by rw[show((j:Int)).toNat=j from DE j];exact Mt (by omega),?_⟩
   rw[es,<-D]
  obtain⟨z,h1,h2⟩:=hJ2 j u v (by omega) hu hv
  exact⟨z,by rw[Ms (by simp;omega)];exact h1,h2⟩
 rcases q with q | q
 ·have:=hq.1 q rfl
  exact T2 ⟨λh=>absurd h this.1,λh=>absurd h this.2⟩
 exact T2 ⟨λ_=>hq.2 q rfl,λ_=>rfl⟩
def Qjv {n:Ql}{m t:L_ Bag}{o:Qk}(h:Dd n m o=some (t,0)):YY n m o=some 0/\∃D,YC n o=some (D,0)/\Yr m D=some (t,0):=by
 unfold Dd at h
 obtain⟨x,hx,h⟩:=Qp h
 rcases Xn h with⟨c,h⟩|⟨c,h⟩
 ·simp only[Option.some.injEq,Prod.mk.injEq]at h
  rw[h.2]at c;cases c
 simp only[JZ]at c
 subst c
 obtain⟨y,hy,h⟩:=Qp h
 obtain⟨y1,y2⟩:=y
 rcases Xn h with⟨c,h⟩|⟨c,h⟩
 ·simp only[Option.some.injEq,Prod.mk.injEq]at h
  simp only[h.2]at c;cases c
 simp only[JZ]at c
 subst c
 obtain⟨z,hz,h⟩:=Qp h
 obtain⟨z1,z2⟩:=z
 simp only[Option.some.injEq,Prod.mk.injEq]at h
 obtain⟨rfl,rfl⟩:=h
 exact⟨hx,y1,hy,hz⟩
def Ql0 {n:Ql}{m t h:L_ Bag}{o:Qk}(y:YY n m o=some 0)(D:YC n o=some (h,0))(h3:Yr m h=some (t,0)):Dd n m o=some (t,0):=by
 unfold Dd
 rw[y,Qc]
 simp only[show((0:Int) != 0)=false from rfl,QJ]
 rw[D,Qc]
 simp only[show((0:Int) != 0)=false from rfl,QJ]
 rw[h3];rfl
def Qg5 {n:Ql}{c:Nat}{m:L_ Bag}(h:Ya n)(hm:Kh n c m)(hc:c<=1000000)(hl:FP n m):Um n m=some true:=by
 have hpl:=h.pl
 have hm1:=hm.1
 unfold Um
 rw[show((m.length:Int) != (n.Places.length:Int))=false by simp;omega,QJ]
 obtain⟨r,h1,h2⟩:=(Qj.up (body:=λst=>GO m n st) m.length (λst=>st) (λ_=>True) (Q:=λq:Unit⊕Unit=>q=.inr ()) (s0:=(0:Int)) rfl trivial (λi st hi hn hJ=>by
  show Qj (GO m n st) _
  unfold GO
  refine T1 (λhc=>?_) (λ_=>T2 (Qu rfl))
  simp only[QM]at hc
  have i1:i<m.length:=by omega
  have i2:i<n.Places.length:=by omega
  rw[hi,XH,EO i1,Qc,XH,EO i2,Qc]
  refine T0 (GY n.Colours (n.Places[i]).Colour h.k.1).self λsz hsz=>?_
  have hb:=hm.2 _ (XW i1)
  have hbl:=hb.2
  refine T0 (P:=λr=>r=false) ?_ λx hx=>?_
  ·unfold MI
   rw[Nz _ (by unfold maxLen;omega),Qc,GH.2 hb.1]
   simp only[Fo,QJ]
   refine T1 (λh0=>?_) (λ_=>T2 rfl)
   simp only[QM]at h0
   have y:(m[i]).length-1<(m[i]).length:=by omega
   rw[Yg (by omega),show((m[i]).length:Int)-1=(((m[i]).length-1:Nat):Int) by omega,XH,EO y,Qc]
   refine T2 ?_
   have hcn:=Iu hb.1.1.nd (XW y)
   have hpos:=hb.1.2 _ (XW y)
   obtain⟨z,D,hz2⟩:=hl i _ _ (EO i1) (EO i2) _ (by rw[hcn];omega)
   rw[hsz.1]at D
   cases D
   exact QZ (by omega)
  subst hx
  unfold MJ
  exact T2 (QP ⟨i1,QE i1 (by unfold maxLen;omega),trivial⟩)))
 rw[h1,h2];rfl
def Px : Bag->Int
 | []=>0
 | p::l=>p.2+Px l
def Qkk {l m:Bag}(h:l.Perm m):Px l=Px m:=by
 induction h with
 | nil=>rfl
 | cons p _ ih=>simp only[Px,ih]
 | swap p q l=>simp only[Px];omega
 | trans _ _ y D=>rw[y,D]
def Qh2 (b:Bag)(hr:Rt b)(h:b.length<=maxLen):CS b=some (Qq (Px b)):=by
 unfold CS
 rw[TN b h,GH.2 hr]
 show Ia b=_
 unfold Ia
 have y:∀(l:Bag) (s:Int),WD (λst (p:Int×Int)=>Ga st p.1 p.2) (Qq s) l=some (.inl (Qq (s+Px l))):=by
  intro l
  induction l with
  | nil=>intro s;simp[WD,Px]
  | cons p l ih=>
   intro s
   simp only[WD]
   rw[show Ga (Qq s) p.1 p.2=some (.inl (Qq (s+p.2)))from by unfold Ga;rw[Qct]]
   simp only[Qc,Sum.elim_inl]
   rw[ih,Px,Int.add_assoc]
 have D:Cw (λst (p:Int×Int)=>Ga st p.1 p.2) (0:Int) b=some (.inl (Qq (Px b))):=by
  have e0:(0:Int)=Qq 0:=by decide
  rw[e0]
  refine HK.2 ⟨λl' hp=>?_,by rw[y];simp⟩
  rw[y,y,Qkk hp]
 rw[D];rfl
def tS (m:L_ Bag):Nat->Int
 | 0=>0
 | i+1=>tS m i+Px (m.getD i [])
def Qg6 {n:Ql}{c:Nat}{m:L_ Bag}(h:Ya n)(hm:Kh n c m)(hc:c<=1000000):Nv m=some (Qq (tS m m.length)):=by
 have hpl:=h.pl
 have hm1:=hm.1
 unfold Nv
 obtain⟨r,h1,h2⟩:=(Qj.up (body:=λst=>FL m st.1 st.2) m.length (λst=>st.2) (λst=>st.1=Qq (tS m st.2.toNat)) (Q:=λq=>q=Qq (tS m m.length)) (s0:=((0:Int),(0:Int))) rfl (by show(0:Int)=Qq 0;decide) (λi st hi hn D=>by
  obtain⟨a,x⟩:=st
  replace hi:x=(i:Int):=hi
  replace D:a=Qq (tS m x.toNat):=D
  subst hi
  show Qj (FL m a i) _
  unfold FL
  refine T1 (λhc=>?_) (λhc=>T2 (Qu ?_))
  ·simp only[QM]at hc
   have y:i<m.length:=by omega
   have hb:=hm.2 _ (XW y)
   rw[XH,EO y,Qc,Qh2 _ hb.1 (by have:=hb.2;unfold maxLen;omega),Qc]
   have hw:Qq ((i:Int)+1)=((i+1:Nat):Int):=QE y (by unfold maxLen;omega)
   refine T2 (QP ⟨y,hw,?_⟩)
   show Qq (a+Qq (Px m[i]))=Qq (tS m (Qq ((i:Int)+1)).toNat)
   rw[hw,D,Qct,Int.add_comm,Qct,DE,DE,tS,Oz,EO y,Int.add_comm];rfl
  simp only[Xo]at hc
  rw[D,show(i:Int).toNat=m.length by omega]))
 rw[h1,h2];rfl
def Qlm (n:Ql)(m:L_ Bag)(o:Qk)(c:Nat)(h:Ya n)(hm:Kh n c m)(hl:FP n m)(hc:c<=900000)(ho:Yu n o):Qj (EU n m o) λr=>r.2=0->FP n r.1:=by
 have hpl:=h.pl
 have hm1:=hm.1
 unfold EU
 refine T0 (Qgj n o h ho) λy hy=>?_
 refine T1 (λhc=>T2 λh=>absurd h (by simpa using hc)) λhc2=>?_
 obtain⟨⟨hy,hyl⟩,h1,h2⟩:=hy (by simpa using hc2)
 rw[SE m (by omega) (λb D=>by have:=(hm.2 b D).2;omega),Qc]
 refine T0 (T4 h1 h2) λe he=>?_
 have hcl:=(h.tk e he).2.2.2
 refine T0 (Qj.up e.Cancel.length (λst=>st.1) (λst=>Kh n c st.2/\FP n st.2) (Q:=λq=>Kh n c q/\FP n q) rfl ⟨hm,hl⟩ (λi st hi hn hJ=>?_)) (λq hq=>?_)
 ·obtain⟨x,l⟩:=st
  replace hi:x=(i:Int):=hi
  replace hJ:Kh n c l/\FP n l:=hJ
  show Qj (BA e x l) _
  unfold BA
  refine T1 (λhc=>?_) (λ_=>T2 (Qu hJ))
  simp only[QM]at hc
  refine T0 (T4 (by omega) (by omega)) λk _=>?_
  have next:∀l,Kh n c l/\FP n l->Qj (DY x l) λo=>(∀s',o=.inl s'->i<e.Cancel.length/\s'.1=((i+1:Nat):Int)/\Kh n c s'.2/\FP n s'.2)/\∀r:L_ QBg,o=.inr r->Kh n c r/\FP n r:=λl hl=>by
   unfold DY
   exact T2 (QP (ix:=λst:Int×L_ QBg=>st.1) (J:=λst:Int×L_ QBg=>Kh n c st.2/\FP n st.2) ⟨by omega,by subst hi;exact QE (by omega) (by unfold maxLen;omega:e.Cancel.length<=maxLen),hl⟩)
  refine T1 (λhc3=>?_) λ_=>next l hJ
  simp only[QL,QM]at hc3
  refine T0 (T4 hc3.1 hc3.2) λ_ _=>?_
  refine next _ ⟨⟨by simpa using hJ.1.1,λb D=>?_⟩,λj b p D hp k' hk=>?_⟩
  ·rcases Zs D with rfl | D
   ·exact⟨Rt.nil,by simp⟩
   exact hJ.1.2 b D
  by_cases cj:k.toNat=j
  ·subst cj
   rw[Mt (by omega)]at D
   cases D
   simp[QV,Xb]at hk
  rw[Ms cj]at D
  exact hJ.2 j b p D hp k' hk
 show Qj (BB y q) _
 unfold BB
 refine T0 (SF n q y.1 c 20 h hq.1 hy (by omega)) λz hz=>T2 λhz0=>?_
 obtain⟨zl,ze⟩:=hz.1 hz0
 intro j b p D hp k hk
 have hj:j<n.Places.length:=(Xe.1 hp).1
 obtain⟨u,hu,hu1,hu2⟩:=TQ hq.1 hj
 obtain⟨v,hv,hv1,hv2⟩:=TQ hy hj
 obtain⟨s,hs1,hs2⟩:=ze j u v hu hv
 have hs1:z.1[j]? = some s:=hs1
 have D:z.1[j]? = some b:=D
 rw[D]at hs1;cases hs1
 have q:=(Qh1 (by omega) hs2).2.2.2 k
 by_cases c0:0<QV u k
 ·exact hq.2 j u p hu hp k c0
 exact hyl j v p hv hp k (by omega)
def JI (n:Ql)(t:QS):LI_:=t.Vars.map λv=>(YO n.Colours v.Colour).getD 0
def CN (b:Xr)(r:LI_):Bool:=decide (Yf b r=some 0)
def AC (n:Ql)(m:L_ QBg)(h:Int)(y outs:L_ LI_)(p:LI_):L_ Qk:=match Jk n m h p with
 | some (c,b)=>if c=0/\XY b=some 0 then y.flatMap λe=>if XM b e=some 0 then(outs.filter (CN b)).map λo=>Qk.mk h p e o else []else []
 | none=>[]
def ne0 (g:Int):(g != 0)=!decide (some g=some (0:Int)):=by by_cases h:g=0<;>simp[h]
def Qkl (t:QS)(n:Ql)(l:LI_)(h:Xm n)(hl:l.length=t.Vars.length)(hv:t.Vars.length<=16)(hd:∀d∈l,0<=d/\d<=1024):
  Qj (QQ (λst=>Dq t n st.1 st.2) ((Qq ((l.length:Int)-1)),l)) λq=>(-1<=q.1/\q.1<l.length/\q.2=l.take (q.1+1).toNat++List.replicate (l.length-(q.1+1).toNat) 0)/\(∀(j:Nat) x s,q.1<(j:Int)->l[j]? = some x->(JI n t)[j]? = some s->¬x+1<s)/\∀x s,0<=q.1->l[q.1.toNat]? = some x->(JI n t)[q.1.toNat]? = some s->x+1<s/\x<1024:=by
 have hw:Qq ((l.length:Int)-1)=(l.length:Int)-1:=Yg (by omega)
 refine Qj.up l.length (λst=>(l.length:Int)-1-st.1) (λst=>st.2=l.take (st.1+1).toNat++List.replicate (l.length-(st.1+1).toNat) 0/\∀(j:Nat) x s,st.1<(j:Int)->l[j]? = some x->(JI n t)[j]? = some s->¬x+1<s) (by rw[hw];omega) ⟨by
  rw[hw]
  show l=_
  rw[show((l.length:Int)-1+1).toNat=l.length by omega,Ln,Nat.sub_self];simp,λj x s hj hx=>by
  replace hj:Qq ((l.length:Int)-1)<(j:Int):=hj
  have:=(Xe.1 hx).1
  omega⟩ (λi st hi hn hJ=>?_)
 obtain⟨a,d⟩:=st
 replace hi:(l.length:Int)-1-a=i:=hi
 obtain⟨hJ,hJ2⟩:d=l.take (a+1).toNat++List.replicate (l.length-(a+1).toNat) 0/\∀(j:Nat) x s,a<(j:Int)->l[j]? = some x->(JI n t)[j]? = some s->¬x+1<s:=hJ
 have hdl:d.length=l.length:=by rw[hJ];simp;omega
 show Qj (Dq t n a d) _
 unfold Dq
 refine T0 (P:=λx=>(x=true->0<=a/\∀e s,l[a.toNat]? = some e->(JI n t)[a.toNat]? = some s->¬e+1<s)/\(x=false->∀e s,0<=a->l[a.toNat]? = some e->(JI n t)[a.toNat]? = some s->e+1<s/\e<1024)) ?_ λx hx=>?_
 ·unfold Nd
  refine T1 (λy=>?_) λy=>T2 ⟨λh=>(by cases h),λ_ e s he=>?_⟩
  ·simp only[QM]at y
   have D:a.toNat<l.length:=by omega
   have hlv:a.toNat<t.Vars.length:=by omega
   have ed:idx d a=some l[a.toNat]:=by
    rw[Mj y,hJ,YL (by simp;omega),Jy,if_pos (by omega),QR D]
   have ev:idx t.Vars a=some t.Vars[a.toNat]:=by rw[Mj y,QR hlv]
   rw[ed,Qc,ev,Qc]
   refine T0 (GY _ _ h.1).self λz hz=>?_
   obtain⟨hze,hz⟩:=hz
   have hsz:(JI n t)[a.toNat]? = some z:=by
    unfold JI
    rw[Yb,QR hlv,DJ,hze];rfl
   have h2:=hd _ (XW D)
   rw[Yg (by omega)]
   refine T2 ⟨λht=>⟨y,λe s he hs=>?_⟩,λhf e s _ he hs=>?_⟩
   ·rw[QR D]at he
    cases he
    rw[hsz]at hs;cases hs
    simp only[QM]at ht
    omega
   rw[QR D]at he
   cases he
   rw[hsz]at hs;cases hs
   simp only[Xo]at hf
   omega
  simp only[Xo]at y;omega
 unfold EF
 refine T1 (λy=>?_) λy=>?_
 ·obtain⟨ha,ha2⟩:=hx.1 y
  refine T0 (T4 ha (by omega)) λ_ _=>?_
  have hw2:Qq (a-1)=a-1:=Yg (by omega)
  refine T2 (QP ⟨by omega,?_,?_,λj x s hj hx hs=>?_⟩)
  ·show(l.length:Int)-1-Qq (a-1)=_
   rw[hw2];omega
  ·show d.set a.toNat 0=l.take (Qq (a-1)+1).toNat++List.replicate (l.length-(Qq (a-1)+1).toNat) 0
   rw[hw2,hJ,show(a+1).toNat=a.toNat+1 by omega,Qh0 (by omega),show(a-1+1).toNat=a.toNat by omega]
   rw[show l.length-a.toNat=(l.length-(a.toNat+1))+1 by omega,List.replicate_succ]
  replace hj:Qq (a-1)<(j:Int):=hj
  rw[hw2]at hj
  by_cases c:a<(j:Int)
  ·exact hJ2 j x s c hx hs
  have:a.toNat=j:=by omega
  subst this
  exact ha2 x s hx hs
 exact T2 (Qu ⟨⟨by omega,by omega,hJ⟩,hJ2,hx.2 y⟩)
def Qiu (n:Ql)(m:L_ QBg)(b:Xr)(l:L_ LI_)(h:Ya n)(hb:BOk n m b)(hl:NA l):Qj (KC l b) λr=>(r=-1/\∀row∈l,CN b row=true)\/∃i:Nat,r=(i:Int)/\i<l.length/\(∀row∈l.take i,CN b row=true)/\∀row,l[i]? = some row->CN b row=false:=by
 have hl1:=hl.1
 unfold KC
 refine T0 (Qj.up l.length (λst=>st) (λst=>∀row∈l.take st.toNat,CN b row=true) (Q:=λq:Int⊕Unit=>(∀x,q=.inl x->∃i:Nat,x=(i:Int)/\i<l.length/\(∀row∈l.take i,CN b row=true)/\∀row,l[i]? = some row->CN b row=false)/\(q=.inr ()->∀row∈l,CN b row=true)) rfl (λrow h=>by cases h) (λi st hi hn hJ=>?_)) (λq hq=>?_)
 ·replace hi:st=(i:Int):=hi
  subst hi
  replace hJ:∀row∈l.take (i:Int).toNat,CN b row=true:=hJ
  rw[DE]at hJ
  show Qj (WK l b i) _
  unfold WK BI
  refine T1 (λhc=>?_) (λhc=>T2 (Qu ⟨λx h=>(by cases h),λ_=>?_⟩))
  ·simp only[QM]at hc
   have y:i<l.length:=by omega
   rw[XH,QR y,Qc]
   have:=hl.2 _ (XW y)
   refine T0 (P:=λc:Bool=>c=!CN b l[i]) ?_ λc hcc=>?_
   ·refine T0 (Qgi n m b l[i] h hb (by omega)).self λg hg=>T2 ?_
    unfold CN
    rw[hg.1];exact ne0 g
   subst hcc
   refine T1 (λhc2=>T2 (Qu ⟨λx e=>(by cases e;exact⟨i,rfl,y,hJ,λrow D=>by rw[QR y]at D;cases D;simpa using hc2⟩),λe=>by cases e⟩)) λhc2=>?_
   have hw:Qq ((i:Int)+1)=((i+1:Nat):Int):=QE y (by unfold maxLen;omega:l.length<=maxLen)
   refine T2 (QP ⟨y,hw,?_⟩)
   show ∀row∈l.take (Qq ((i:Int)+1)).toNat,CN b row=true
   rw[hw,DE,AQ,QR y]
   intro row D
   rcases Ep.1 D with D | D
   ·exact hJ row D
   simp at D;subst D;simpa using hc2
  simp only[Xo]at hc
  rwa[UB (by omega)]at hJ
 rcases q with q | q
 ·exact T2 (.inr (hq.1 q rfl))
 exact T2 (.inl ⟨rfl,hq.2 rfl⟩)
def Qiv (n:Ql)(m:L_ QBg)(b:Xr)(l:L_ LI_)(h:Ya n)(hb:BOk n m b)(hl:NA l):Qj (Kr l b) λr=>r=l.filter (CN b):=by
 have hl1:=hl.1
 unfold Kr
 refine T0 (Qiu n m b l h hb hl) λx hx=>?_
 rcases hx with⟨rfl,hx⟩|⟨y,rfl,hi0,hx1,hx2⟩
 ·exact T1 (λ_=>T2 (List.filter_eq_self.2 hx).symm) λhc=>by simp at hc
 refine T1 (λhc=>by simp at hc) λ_=>?_
 have hw:Qq ((y:Int)+1)=(y:Int)+1:=Yg (by omega)
 have hbad:=hx2 _ (QR hi0)
 refine T0 (Qj.up (l.length-(y+1)) (λst=>st.2.1-((y:Int)+1)) (λst=>0<=st.1/\st.1<st.2.1/\st.2.2.length=l.length/\st.2.2.take st.1.toNat=(l.take st.2.1.toNat).filter (CN b)/\st.2.2.drop st.2.1.toNat=l.drop st.2.1.toNat) (Q:=λq:Int×L_ LI_=>0<=q.1/\q.1<=(l.length:Int)/\q.2.length=l.length/\q.2.take q.1.toNat=l.filter (CN b)) (by show Qq ((y:Int)+1)-((y:Int)+1)=0;omega) ⟨by show(0:Int)<=y;omega,by show(y:Int)<Qq ((y:Int)+1);omega,rfl,?_,rfl⟩ (λi st hi hn hJ=>?_)) (λq hq=>?_)
 ·show l.take (y:Int).toNat=(l.take (Qq ((y:Int)+1)).toNat).filter (CN b)
  rw[hw,DE,show((y:Int)+1).toNat=y+1 by omega,AQ,QR hi0,SY,List.filter_eq_self.2 hx1]
  show l.take y=l.take y++List.filter (CN b) [l[y]]
  rw[Ah,hbad]
  exact(Lm _).symm
 ·obtain⟨a,j,l2⟩:=st
  replace hi:j-((y:Int)+1)=i:=hi
  obtain⟨j1,j2,j3,j4,j5⟩:0<=a/\a<j/\l2.length=l.length/\l2.take a.toNat=(l.take j.toNat).filter (CN b)/\l2.drop j.toNat=l.drop j.toNat:=hJ
  show Qj (JN b a j l2) _
  unfold JN BI
  refine T1 (λhc=>?_) (λhc=>T2 (Qu ⟨j1,?_,j3,?_⟩))
  ·simp only[QM]at hc
   have hj:j.toNat<l2.length:=by omega
   have hj':j.toNat<l.length:=by omega
   have ej:l2[j.toNat]=l[j.toNat]:=by
    have:=congrArg List.head? j5
    rw[SX hj,SX hj']at this
    exact Option.some.inj this
   have ej5:l2.drop (j.toNat+1)=l.drop (j.toNat+1):=by
    have:=congrArg List.tail j5
    simpa using this
   rw[QbX (by omega) (by omega),Qc]
   have:=hl.2 _ (XW hj')
   have hw2:Qq (j+1)=j+1:=Yg (by omega)
   have hw3:Qq (a+1)=a+1:=Yg (by omega)
   have tk:l.take (j+1).toNat=l.take j.toNat++[l[j.toNat]]:=by
    rw[show(j+1).toNat=j.toNat+1 by omega,AQ,QR hj'];rfl
   refine T0 (P:=λc:Bool=>c=!CN b l[j.toNat]) ?_ λc hcc=>?_
   ·rw[ej]
    refine T0 (Qgi n m b l[j.toNat] h hb (by omega)).self λg hg=>T2 ?_
    unfold CN
    rw[hg.1];exact ne0 g
   subst hcc
   refine T1 (λD=>?_) λD=>?_
   ·have D:CN b l[j.toNat]=true:=by simpa using D
    refine T0 (T4 (by omega) (by omega)) λ_ _=>?_
    refine T2 (QP ⟨by omega,by show Qq (j+1)-((y:Int)+1)=_;omega,by show 0<=Qq (a+1);omega,by show Qq (a+1)<Qq (j+1);omega,by simpa using j3,?_,?_⟩)
    ·show(l2.set a.toNat l2[j.toNat]).take (Qq (a+1)).toNat=(l.take (Qq (j+1)).toNat).filter (CN b)
     rw[hw2,hw3,tk,SY,<-j4,show(a+1).toNat=a.toNat+1 by omega,AQ,Mt (by omega),List.take_set_of_le (YZ _),ej]
     simp[D]
    show(l2.set a.toNat l2[j.toNat]).drop (Qq (j+1)).toNat=l.drop (Qq (j+1)).toNat
    rw[hw2,show(j+1).toNat=j.toNat+1 by omega,List.drop_set_of_lt (by omega),ej5]
   have D:CN b l[j.toNat]=false:=by simpa using D
   refine T2 (QP ⟨by omega,by show Qq (j+1)-((y:Int)+1)=_;omega,j1,by show a<Qq (j+1);omega,j3,?_,?_⟩)
   ·show l2.take a.toNat=(l.take (Qq (j+1)).toNat).filter (CN b)
    rw[hw2,tk,SY,<-j4]
    simp[D]
   show l2.drop (Qq (j+1)).toNat=l.drop (Qq (j+1)).toNat
   rw[hw2,show(j+1).toNat=j.toNat+1 by omega,ej5]
  ·simp only[Xo]at hc
   show a<=_
   omega
  simp only[Xo]at hc
  show l2.take a.toNat=_
  rw[j4,UB (by omega)]
 obtain⟨q1,q2⟩:=q
 obtain⟨h1,h2,h3,h4⟩:0<=q1/\q1<=l.length/\q2.length=l.length/\q2.take q1.toNat=l.filter (CN b):=hq
 show Qj (JO q1 q2) _
 unfold JO
 refine T0 (T5 (by simp only[QL,QM];omega)) λ_ _=>?_
 refine T0 (T5 (by simp only[QL,QM,JT,KS,Zz];omega)) λ_ _=>?_
 refine T2 ?_
 rw[Qcm (by simp;omega),List.take_take,Nat.min_self,h4]
def Qjw (n:Ql)(m:L_ QBg)(task D:Int)(l5 l8:L_ Qk)(ins outs:L_ LI_)(p:LI_)(h:Ya n)(hm:Xc (Xc λ_=>True) m)(hmost:D<=4294967296\/l8.length+(AC n m task ins outs p).length<=4294967296)
  (hi:NA ins) (ho:NA outs) (hp:p.length<=16) (ha:(l8.length:Int)<D):
  Qj (GS n m task D l5 ins outs l8 p) λr=>r=KQ D.toNat l8 (AC n m task ins outs p):=by
 have hil:=hi.1
 have hol:=ho.1
 unfold GS
 refine T0 (QiF n m task p h).self λx hx=>?_
 obtain⟨c,b⟩:=x
 obtain⟨hxe,hx⟩:=hx
 refine T0 (P:=λy=>(y=true->AC n m task ins outs p=[])/\(y=false->BOk n m b/\c=0/\XY b=some 0)) ?_ λy hy=>?_
 ·unfold Hn
  refine T1 (λhc=>T2 ⟨λ_=>?_,λh=>by cases h⟩) λhc=>?_
  ·unfold AC
   rw[hxe]
   simp only
   rw[if_neg λe=>by simp[e.1]at hc]
  have hc:c=0:=by simpa using hc
  have hb:=hx hc
  refine T0 (QgB n m b h hb).self λg hg=>T2 ⟨λhg2=>?_,λhg2=>⟨hb,hc,?_⟩⟩
  ·unfold AC
   rw[hxe]
   simp only
   rw[if_neg λe=>by rw[hg.1]at e;simp at e;simp[e.2]at hg2]
  rw[hg.1];simpa using hg2
 unfold Dp
 refine T1 (λhc=>T2 ?_) λhc=>?_
 ·rw[hy.1 hc,Zj (by omega)]
 obtain⟨hb,hc0,hgd⟩:=hy.2 hc
 refine T0 (P:=λz=>z=outs) (by unfold WU;exact T0 (T5 (by simp;omega)) λ_ _=>T2 rfl) λx19 h19=>?_
 rw[h19]
 refine T0 (Qiv n m b outs h hb ho) λx20 h20=>?_
 have h20l:x20.length<=16:=by rw[h20];exact Kj (Zy _ _) ho.1
 have h20e:∀r∈x20,r.length<=16:=λr hr=>by rw[h20]at hr;exact ho.2 r (Fq.1 hr).1
 have hR:AC n m task ins outs p=ins.flatMap λe=>if XM b e=some 0 then x20.map (λo=>Qk.mk task p e o)else []:=by
  unfold AC
  rw[hxe]
  simp only
  rw[if_pos ⟨hc0,hgd⟩,h20]
 rw[hR]at hmost ⊢
 generalize hg:(λe=>if XM b e=some 0 then x20.map (λo=>Qk.mk task p e o)else [])=g at hmost ⊢
 refine T0 (Qj.up ins.length (λst=>st.1) (λst=>(st.2.length:Int)<D/\KQ D.toNat st.2 ((ins.drop st.1.toNat).flatMap g)=KQ D.toNat l8 (ins.flatMap g)/\st.2.length+((ins.drop st.1.toNat).flatMap g).length=l8.length+(ins.flatMap g).length) (Q:=λq=>q=KQ D.toNat l8 (ins.flatMap g)) rfl ⟨ha,rfl,rfl⟩ (λi st hi2 hn hJ=>?_)) (λq hq=>?_)
 ·obtain⟨j,l⟩:=st
  replace hi2:j=(i:Int):=hi2
  subst hi2
  obtain⟨hJ1,hJ2,hJ3⟩:(l.length:Int)<D/\KQ D.toNat l ((ins.drop (i:Int).toNat).flatMap g)=KQ D.toNat l8 (ins.flatMap g)/\l.length+((ins.drop (i:Int).toNat).flatMap g).length=l8.length+(ins.flatMap g).length:=hJ
  rw[DE]at hJ2 hJ3
  show Qj (Dn ins (c,b) x20 p task D i l) _
  unfold Dn
  refine T1 (λhc=>?_) (λhc=>T2 (Qu ?_))
  ·simp only[QM]at hc
   have hlt:i<ins.length:=by omega
   have hel:=hi.2 _ (XW hlt)
   rw[XH,QR hlt,Qc]
   rw[SX hlt,Qci,QiB]at hJ2
   rw[SX hlt,Qci,JT]at hJ3
   have next:∀l',(l'.length:Int)<D->KQ D.toNat l' ((ins.drop (i+1)).flatMap g)=KQ D.toNat l8 (ins.flatMap g)->l'.length+((ins.drop (i+1)).flatMap g).length=l8.length+(ins.flatMap g).length->Qj (KL i l') λo=>(∀s',o=.inl s'->i<ins.length/\s'.1=((i+1:Nat):Int)/\(s'.2.length:Int)<D/\KQ D.toNat s'.2 ((ins.drop s'.1.toNat).flatMap g)=KQ D.toNat l8 (ins.flatMap g)/\s'.2.length+((ins.drop s'.1.toNat).flatMap g).length=l8.length+(ins.flatMap g).length)/\∀r:L_ Qk⊕L_ Qk,o=.inr r->r=KQ D.toNat l8 (ins.flatMap g):=λl' hl1 hl2 hl3=>by
    have hw:Qq ((i:Int)+1)=((i+1:Nat):Int):=QE hlt (by unfold maxLen;omega:ins.length<=maxLen)
    unfold KL
    exact T2 (QP (ix:=λst:Int×L_ Qk=>st.1) (J:=λst:Int×L_ Qk=>(st.2.length:Int)<D/\KQ D.toNat st.2 ((ins.drop st.1.toNat).flatMap g)=KQ D.toNat l8 (ins.flatMap g)/\st.2.length+((ins.drop st.1.toNat).flatMap g).length=l8.length+(ins.flatMap g).length) ⟨hlt,hw,hl1,by
     show KQ D.toNat l' ((ins.drop (Qq ((i:Int)+1)).toNat).flatMap g)=_/\l'.length+((ins.drop (Qq ((i:Int)+1)).toNat).flatMap g).length=_
     rw[hw,DE];exact⟨hl2,hl3⟩⟩)
   refine T0 (QiG n m b ins[i] h hb hm (by omega)).self λz hz=>?_
   refine T1 (λhc2=>?_) λhc2=>?_
   ·have:g ins[i]=[]:=by
     rw[<-hg];simp only
     rw[if_neg λe=>by rw[hz.1]at e;simp at e;simp[e]at hc2]
    rw[this,Zj (by omega)]at hJ2
    rw[this]at hJ3
    exact next l hJ1 hJ2 (by simpa using hJ3)
   have hge:g ins[i]=x20.map (λo=>Qk.mk task p ins[i] o):=by
    rw[<-hg];simp only
    rw[if_pos (by rw[hz.1];simpa using hc2)]
   rw[hge]at hJ2 hJ3
   rw[BW]at hJ3
   refine T0 (Qj.up x20.length (λst=>st.1) (λst=>(st.2.length:Int)<D/\KQ D.toNat st.2 ((x20.drop st.1.toNat).map λo=>Qk.mk task p ins[i] o)=KQ D.toNat l (x20.map λo=>Qk.mk task p ins[i] o)/\(st.2.length:Int)=l.length+st.1) (Q:=λq=>q=KQ D.toNat l (x20.map λo=>Qk.mk task p ins[i] o)) rfl ⟨hJ1,rfl,by simp⟩ (λi2 st hi3 hn2 hK=>?_)) (λq hq=>?_)
   ·obtain⟨j2,l2⟩:=st
    replace hi3:j2=(i2:Int):=hi3
    subst hi3
    obtain⟨hK1,hK2,hK3⟩:(l2.length:Int)<D/\KQ D.toNat l2 ((x20.drop (i2:Int).toNat).map λo=>Qk.mk task p ins[i] o)=KQ D.toNat l (x20.map λo=>Qk.mk task p ins[i] o)/\(l2.length:Int)=l.length+(i2:Int):=hK
    rw[DE]at hK2
    show Qj (Dm x20 p ins[i] task D i2 l2) _
    unfold Dm
    refine T1 (λhc=>?_) (λhc=>T2 (Qu ?_))
    ·simp only[QM]at hc
     have hlt2:i2<x20.length:=by omega
     have hel2:=h20e _ (XW hlt2)
     rw[XH,QR hlt2,Qc]
     rw[SX hlt2,GK,Qld]at hK2
     rw[Pd p (by omega),Qc,Pd ins[i] (by omega),Qc,Pd x20[i2] (by omega),Qc]
     refine T0 (T5 (by simp;omega)) λ_ _=>?_
     refine T1 (λhc2=>T2 (Qu ?_)) λhc2=>?_
     ·simp only[beq_iff_eq,JT,Eo]at hc2
      rw[Qlc (by simp;omega)]at hK2
      exact hK2
     simp only[beq_eq_false_iff_ne,JT,Eo]at hc2
     have hw:Qq ((i2:Int)+1)=((i2+1:Nat):Int):=QE hlt2 (by unfold maxLen;omega:x20.length<=maxLen)
     refine T2 (QP ⟨hlt2,hw,by show((l2++[_]).length:Int)<D;simp;omega,?_,by show((l2++[_]).length:Int)=l.length+Qq ((i2:Int)+1);rw[hw];simp;omega⟩)
     show KQ D.toNat (l2++[_]) ((x20.drop (Qq ((i2:Int)+1)).toNat).map _)=_
     rw[hw,DE];exact hK2
    simp only[Xo]at hc
    rw[List.drop_of_length_le (by omega),List.map_nil,Zj (by omega)]at hK2
    exact hK2
   rw[<-hq]at hJ2
   rcases q with q | q
   ·exact T2 (Qu hJ2)
   exact next q (by have:=Qkd hq.symm;omega) hJ2 (by
    have e:=congrArg List.length (QiC hq.symm)
    rw[JT,BW]at e
    omega)
  simp only[Xo]at hc
  rw[List.drop_of_length_le (by omega),List.flatMap_nil,Zj (by omega)]at hJ2
  exact hJ2
 rcases q with q | q
 ·exact T2 hq
 exact T2 hq
def Qg7 (n:Ql)(m:L_ QBg)(task D:Int)(l5:L_ Qk)(ins outs:L_ LI_)(t:QS)(h:Ya n)(hm:Xc (Xc λ_=>True) m)(hmost:D<=4294967296\/((binds (JI n t)).flatMap (AC n m task ins outs)).length<=4294967296)(h1:1<=D)
  (hi:NA ins) (ho:NA outs) (ht:t∈n.Tasks):Qj (AX n m task D l5 ins outs [] t n) λr=>∀a,r=.inl a\/r=.inr a->a=((binds (JI n t)).flatMap (AC n m task ins outs)).take D.toNat:=by
 have hv:=(h.tk t ht).1
 have hsz:(JI n t).length=t.Vars.length:=by simp[JI]
 generalize hrl:AC n m task ins outs=rl at hmost ⊢
 have fin:∀q:L_ Qk⊕L_ Qk,q.swap=KQ D.toNat [] ((binds (JI n t)).flatMap rl)->∀a,q=.inl a\/q=.inr a->a=((binds (JI n t)).flatMap rl).take D.toNat:=λq hq a ha=>by
  rw[<-Qle (by omega:0<D.toNat),<-hq]
  rcases ha with rfl | rfl<;>rfl
 unfold AX
 refine T0 (T5 (by simp only[QL,QM];omega)) λ_ _=>?_
 refine T0 (Qkj (λst=>(Dv (JI n t) st.1).length) (λst=>st.1.length=t.Vars.length/\(∀d∈st.1,0<=d/\d<=1024)/\(st.2.length:Int)<D/\KQ D.toNat st.2 ((st.1::Dv (JI n t) st.1).flatMap rl)=KQ D.toNat [] ((binds (JI n t)).flatMap rl)/\st.2.length+((st.1::Dv (JI n t) st.1).flatMap rl).length=((binds (JI n t)).flatMap rl).length) (Q:=λq:L_ Qk⊕L_ Qk=>q.swap=KQ D.toNat [] ((binds (JI n t)).flatMap rl))
  ⟨by simp,λd hd=>by have:=Zx hd;omega,by simp;omega,?_⟩ (λst hJ=>?_)) (λq hq=>?_)
 ·show KQ D.toNat [] ((List.replicate (t.Vars.length:Int).toNat 0::Dv (JI n t) (List.replicate (t.Vars.length:Int).toNat 0)).flatMap rl)=_/\0+((List.replicate (t.Vars.length:Int).toNat 0::Dv (JI n t) (List.replicate (t.Vars.length:Int).toNat 0)).flatMap rl).length=_
  rw[Qdj (JI n t),Hz,hsz,DE,Ej]
  exact⟨rfl,rfl⟩
 ·obtain⟨d,l⟩:=st
  obtain⟨j1,j2,j3,j4,j5⟩:d.length=t.Vars.length/\(∀d'∈d,0<=d'/\d'<=1024)/\(l.length:Int)<D/\KQ D.toNat l ((d::Dv (JI n t) d).flatMap rl)=KQ D.toNat [] ((binds (JI n t)).flatMap rl)/\l.length+((d::Dv (JI n t) d).flatMap rl).length=((binds (JI n t)).flatMap rl).length:=hJ
  rw[Qci,JT]at j5
  show Qj (EI n m task D l5 ins outs t n d l) _
  unfold EI
  rw[Pd d (by omega),Qc]
  refine T0 (Qjw n m task D l5 l ins outs d h hm (by rw[hrl];omega) hi ho (by omega) j3) λr hr=>?_
  rw[hrl]at hr
  rw[Qci,QiB,<-hr]at j4
  rcases r with r | r
  ·exact T2 ⟨λs' e=>(by cases e),λq e=>(by cases e;exact j4)⟩
  have hacc:=Qkd hr.symm
  have hlen:=congrArg List.length (QiC hr.symm)
  rw[JT]at hlen
  replace j4:KQ D.toNat r ((Dv (JI n t) d).flatMap rl)=KQ D.toNat [] ((binds (JI n t)).flatMap rl):=j4
  show Qj (EH t n d r) _
  unfold EH
  refine T0 (Qkl t n d h.k j1 hv j2) λq hq=>?_
  obtain⟨a,d2⟩:=q
  obtain⟨⟨q1,q2,q3⟩,q4,q5⟩:(-1<=a/\a<d.length/\d2=d.take (a+1).toNat++List.replicate (d.length-(a+1).toNat) 0)/\(∀(j:Nat) x s,a<(j:Int)->d[j]? = some x->(JI n t)[j]? = some s->¬x+1<s)/\∀x s,0<=a->d[a.toNat]? = some x->(JI n t)[a.toNat]? = some s->x+1<s/\x<1024:=hq
  have hnx:=Qjq (JI n t) d
  show Qj (EG r a d2) _
  unfold EG
  refine T1 (λhc=>T2 ⟨λs' e=>(by cases e),λq e=>(by
   cases e
   simp only[QM]at hc
   rw[Qgz (JI n t) d λj x s=>q4 j x s (by omega)]at hnx
   simp only at hnx
   rw[hnx,List.flatMap_nil,Zj hacc]at j4
   exact j4)⟩) λhc=>?_
  simp only[Xo]at hc
  have hlt:a.toNat<d.length:=by omega
  have hls:a.toNat<(JI n t).length:=by omega
  have ed:idx d2 a=some d[a.toNat]:=by
   rw[Mj (by omega),q3,YL (by simp;omega),Jy,if_pos (by omega),QR hlt]
  rw[ed,Qc,Qc]
  have h9:=q5 _ _ (by omega) (QR hlt) (QR hls)
  have h10:=j2 _ (XW hlt)
  rw[Yg (by omega)]
  have e3:d2.set a.toNat (d[a.toNat]+1)=d.take a.toNat++(d[a.toNat]+1)::List.replicate (d.length-(a.toNat+1)) 0:=by
   rw[q3,show(a+1).toNat=a.toNat+1 by omega,Qh0 hlt]
  rw[e3]
  have hd3:∀x∈d.take a.toNat++(d[a.toNat]+1)::List.replicate (d.length-(a.toNat+1)) 0,0<=x/\x<=1024:=λx hx=>by
   rcases Ep.1 hx with hx | hx
   ·exact j2 x (Ai hx)
   rcases XQ.1 hx with rfl | hx
   ·omega
   have:=Zx hx;omega
  have hlen2:(d.take a.toNat++(d[a.toNat]+1)::List.replicate (d.length-(a.toNat+1)) 0).length=t.Vars.length:=by simp;omega
  rw[QlS a.toNat (JI n t) d _ _ (by omega) (QR hlt) (QR hls) h9.1 λj y z hj=>q4 j y z (by omega)]at hnx
  simp only at hnx
  rw[hnx]at j4
  exact T2 ⟨λs' e=>(by
   cases e
   refine⟨?_,hlen2,hd3,by show(r.length:Int)<D;omega,j4,by show r.length+(List.flatMap rl (_::_)).length=_;rw[<-hnx];omega⟩
   show(Dv (JI n t) (d.take a.toNat++(d[a.toNat]+1)::List.replicate (d.length-(a.toNat+1)) 0)).length<(Dv (JI n t) d).length
   rw[hnx,DG];omega),λq e=>(by cases e)⟩
 rcases q with q | q
 ·exact T2 λa ha=>fin _ hq a (by rcases ha with ha | ha<;>cases ha;exact .inl rfl)
 exact T2 λa ha=>fin _ hq a (by rcases ha with ha | ha<;>cases ha;exact .inr rfl)
def Pf (y h:Int):L_ LI_:=(KW y h).getD []
def JJ (n:Ql)(m:L_ QBg)(h:Int):L_ Qk:=match idx n.Tasks h with
 | some t=>(binds (JI n t)).flatMap (AC n m h (Pf t.Join t.Ins.length) (Pf t.Split t.Outs.length))
 | none=>[]
def Qjx (n:Ql)(m:L_ QBg)(D most:Int)(h:Ya n)(hm:Xc (Xc λ_=>True) m)(hmost:most<=4294967296\/(JJ n m D).length<=4294967296):Hs n m D most=some ((JJ n m D).take most.toNat):=by
 have key:Qj (Hs n m D most) λr=>r=(JJ n m D).take most.toNat:=by
  unfold Hs
  refine T1 (λhc=>T2 ?_) λhc=>?_
  ·simp only[KR,QM]at hc
   rcases hc with hc | hc | hc
   ·unfold JJ idx
    rw[if_neg (by omega)];simp
   ·unfold JJ idx
    rw[if_pos (by omega),List.getElem?_eq_none (by omega)];simp
   rw[show most.toNat=0 by omega,List.take_zero]
  simp only[KA,Xo]at hc
  refine T0 (T4 (by omega) (by omega)).self λe he=>?_
  refine T0 (TP _ _).self λx hx=>?_
  refine T0 (TP _ _).self λy hy=>?_
  refine T0 (P:=λz=>z=(n,e)) (T2 rfl) λz hz=>?_
  subst hz
  have hml:JJ n m D=(binds (JI n e)).flatMap (AC n m D x y):=by
   unfold JJ Pf
   rw[he.1]
   simp only
   rw[hx.1,hy.1];rfl
  refine T0 (Qg7 n m D most [] x y e h hm (by rw[<-hml];exact hmost) (by omega) hx.2 hy.2 he.2) λr hr=>?_
  rw[hml]
  rcases r with r | r
  ·exact T2 (hr r (.inl rfl))
  exact T2 (hr r (.inr rfl))
 obtain⟨r,h1,h2⟩:=key
 rw[h1,h2]
def UW (n:Ql)(m:L_ QBg):L_ Qk:=(List.range n.Tasks.length).flatMap λ(k:Nat)=>JJ n m (k:Int)
def Qln {α:Type}(f:Nat->L_ α)(N:Nat):∀k,k<=N->∃r,(List.range N).flatMap f=(List.range k).flatMap f++r:=by
 induction N with
 | zero=>intro k h;exact⟨[],by rw[show k=0 by omega];rfl⟩
 | succ N D=>
  intro k h
  by_cases c:k=N+1
  ·subst c;exact⟨[],by simp⟩
  obtain⟨r,y⟩:=D k (by omega)
  exact⟨r++f N,by rw[List.range_succ,List.flatMap_append,List.flatMap_singleton,y,De]⟩
def Qlo (n:Ql)(m:L_ QBg)(y:Int)(h:Ya n)(hm:Xc (Xc λ_=>True) m)(h0:0<=y)(h1:y<=9223372036854775807)(hmost:y<=4294967296\/(UW n m).length<=4294967296):Ni n m y=some ((UW n m).take y.toNat):=by
 have key:Qj (Ni n m y) λr=>r=(UW n m).take y.toNat:=by
  unfold Ni
  refine T0 (Qj.up n.Tasks.length (λst=>st.1) (λst=>st.2=((List.range st.1.toNat).flatMap λ(k:Nat)=>JJ n m (k:Int)).take y.toNat) (Q:=λq=>q=(UW n m).take y.toNat) rfl (by simp) (λi st hi hn D=>?_)) (λq hq=>T2 hq)
  obtain⟨x,l⟩:=st
  replace hi:x=(i:Int):=hi
  subst hi
  replace D:l=((List.range (i:Int).toNat).flatMap λ(k:Nat)=>JJ n m (k:Int)).take y.toNat:=D
  rw[DE]at D
  show Qj (Ps n m y i l) _
  unfold Ps
  refine T1 (λhc=>?_) (λhc=>T2 (Qu ?_))
  ·simp only[QM]at hc
   have hll:l.length<=y.toNat:=by rw[D];exact List.length_take_le _ _
   have hw:Qq (y-(l.length:Int))=y-(l.length:Int):=Yg (by omega)
   obtain⟨rest,hrest⟩:=Qln (λ(k:Nat)=>JJ n m (k:Int)) n.Tasks.length (i+1) (by omega)
   have hle:((List.range i).flatMap λ(k:Nat)=>JJ n m (k:Int)).length+(JJ n m (i:Int)).length<=(UW n m).length:=by
    unfold UW
    rw[hrest,List.range_succ,List.flatMap_append,List.flatMap_singleton];simp
   have hl2:l.length<=((List.range i).flatMap λ(k:Nat)=>JJ n m (k:Int)).length:=by rw[D];exact List.length_take_le' _ _
   rw[hw,Qjx n m i _ h hm (by omega),Qc]
   have e:l++(JJ n m (i:Int)).take (y-(l.length:Int)).toNat=((List.range (i+1)).flatMap λ(k:Nat)=>JJ n m (k:Int)).take y.toNat:=by
    rw[List.range_succ,List.flatMap_append,List.flatMap_singleton,List.take_append,<-D]
    congr 1
    by_cases c:((List.range i).flatMap λ(k:Nat)=>JJ n m (k:Int)).length<=y.toNat
    ·have:l.length=((List.range i).flatMap λ(k:Nat)=>JJ n m (k:Int)).length:=by rw[D,KS];omega
     congr 1;omega
    have:l.length=y.toNat:=by rw[D,KS];omega
    rw[show(y-(l.length:Int)).toNat=0 by omega,show y.toNat-((List.range i).flatMap λ(k:Nat)=>JJ n m (k:Int)).length=0 by omega]
   rw[e]
   refine T0 (T5 (by
    have:=List.length_take_le (y-(l.length:Int)).toNat (JJ n m (i:Int))
    have:=List.length_take_le' (y-(l.length:Int)).toNat (JJ n m (i:Int))
    simp only[QM];omega)) λ_ _=>?_
   have hw2:Qq ((i:Int)+1)=((i+1:Nat):Int):=QE (by omega:i<n.Tasks.length) h.k.2.2.1.1
   refine T2 (QP ⟨by omega,hw2,?_⟩)
   show _=((List.range (Qq ((i:Int)+1)).toNat).flatMap λ(k:Nat)=>JJ n m (k:Int)).take y.toNat
   rw[hw2,DE]
  simp only[Xo]at hc
  rw[D,show i=n.Tasks.length by omega];rfl
 obtain⟨r,h1,h2⟩:=key
 rw[h1,h2]
def Qkm {n:Ql}{m:L_ QBg}{y:Int}{D outs:L_ LI_}{p:LI_}{o:Qk}:
  o∈AC n m y D outs p↔o.Task=y/\o.Vars=p/\o.Ins∈D/\o.Outs∈outs/\∃b,Jk n m y p=some (0,b)/\XY b=some 0/\XM b o.Ins=some 0/\Yf b o.Outs=some 0:=by
 unfold AC
 cases hb:Jk n m y p with
 | none=>simp
 | some x=>
  obtain⟨c,b⟩:=x
  simp only
  by_cases hc:c=0/\XY b=some 0
  ·rw[if_pos hc]
   obtain⟨rfl,hg⟩:=hc
   simp only[List.mem_flatMap]
   constructor
   ·rintro ⟨e,he,h⟩
    by_cases ht:XM b e=some 0
    ·rw[if_pos ht]at h
     obtain⟨r,hr,rfl⟩:=Yl.1 h
     obtain⟨h1,h2⟩:=Fq.1 hr
     exact⟨rfl,rfl,he,h1,b,rfl,hg,ht,XC h2⟩
    rw[if_neg ht]at h;cases h
   rintro ⟨h1,h2,h3,h4,b',h5,h6,h7,h8⟩
   cases h5
   refine⟨o.Ins,h3,?_⟩
   rw[if_pos h7]
   refine Yl.2 ⟨o.Outs,Fq.2 ⟨h4,QN h8⟩,?_⟩
   cases o
   simp only at h1 h2
   subst h1;subst h2;rfl
  rw[if_neg hc]
  constructor
  ·intro h;cases h
  rintro ⟨_,_,_,_,b',h5,h6,_⟩
  cases h5
  exact absurd ⟨rfl,h6⟩ hc
def HC {n:Ql}{m:L_ QBg}{h:Int}{o:Qk}:
  o∈JJ n m h↔o.Task=h/\∃e,idx n.Tasks h=some e/\inB (JI n e) o.Vars/\o.Ins∈Pf e.Join e.Ins.length/\o.Outs∈Pf e.Split e.Outs.length/\∃b,Jk n m h o.Vars=some (0,b)/\XY b=some 0/\XM b o.Ins=some 0/\Yf b o.Outs=some 0:=by
 unfold JJ
 cases he:idx n.Tasks h with
 | none=>simp
 | some e=>
  simp only[List.mem_flatMap,Qkc,Qkm,Option.some.injEq,exists_eq_left']
  constructor
  ·rintro ⟨p,y,D,rfl,h3,h4,h5⟩
   exact⟨D,y,h3,h4,h5⟩
  rintro ⟨y,D,h3,h4,h5⟩
  exact⟨o.Vars,D,y,rfl,h3,h4,h5⟩
def Mm {n:Ql}{m:L_ QBg}{o:Qk}:o∈UW n m↔o∈JJ n m o.Task:=by
 unfold UW
 simp only[List.mem_flatMap,Fs]
 constructor
 ·rintro ⟨k,hk,h⟩
  have:=(HC.1 h).1
  rwa[this]
 intro h
 obtain⟨_,e,y,_⟩:=HC.1 h
 have D:0<=o.Task:=by
  unfold idx at y
  split at y
  ·assumption
  cases y
 rw[Mj D]at y
 have:=(Xe.1 y).1
 exact⟨o.Task.toNat,this,by rwa[show((o.Task.toNat:Nat):Int)=o.Task by omega]⟩
def Qjy (a b:LI_)(ha:a.length<=maxLen):Jo a b=some (decide (a=b)):=by
 have key:Qj (Jo a b) λr=>r=decide (a=b):=by
  unfold Jo
  refine T1 (λhc=>T2 ?_) λhc=>?_
  ·rw[QZ λe=>by subst e;simp at hc]
  simp only[JZ]at hc
  have hc:a.length=b.length:=by omega
  refine T0 (Qj.up a.length (λst=>st) (λst=>a.take st.toNat=b.take st.toNat) (Q:=λq:Unit⊕Unit=>(q=.inl ()->a≠b)/\(q=.inr ()->a=b)) rfl rfl (λi st hi hn D=>?_)) (λq hq=>?_)
  ·replace hi:st=(i:Int):=hi
   subst hi
   replace D:a.take (i:Int).toNat=b.take (i:Int).toNat:=D
   rw[DE]at D
   show Qj (Kq a b i) _
   unfold Kq
   refine T1 (λy=>?_) (λy=>T2 (Qu ⟨λe=>(by cases e),λ_=>?_⟩))
   ·simp only[QM]at y
    have i1:i<a.length:=by omega
    have i2:i<b.length:=by omega
    rw[XH,QR i1,Qc,XH,QR i2,Qc]
    refine T1 (λh=>T2 (Qu ⟨λ_ e=>?_,λe=>by cases e⟩)) λh=>?_
    ·subst e;simp at h
    have hw:Qq ((i:Int)+1)=((i+1:Nat):Int):=QE i1 ha
    refine T2 (QP ⟨i1,hw,?_⟩)
    show a.take (Qq ((i:Int)+1)).toNat=b.take (Qq ((i:Int)+1)).toNat
    rw[hw,DE,AQ,AQ,D,QR i1,QR i2]
    simp only[JZ]at h
    rw[h]
   simp only[Xo]at y
   rwa[UB (by omega),UB (by omega)]at D
  rcases q with q | q
  ·exact T2 (QZ (hq.1 rfl)).symm
  exact T2 (QN (hq.2 rfl)).symm
 obtain⟨r,h1,h2⟩:=key
 rw[h1,h2]
def Qh3 (y h:Int):KW y h=some (Pf y h)/\NA (Pf y h):=by
 obtain⟨r,D,h2⟩:=TP y h
 unfold Pf
 rw[D]
 exact⟨rfl,h2⟩
def OP (y h:Int)(row:LI_):DB y h row=some (decide (row∈Pf y h)):=by
 have key:Qj (DB y h row) λr=>r=decide (row∈Pf y h):=by
  unfold DB KB WA
  obtain⟨e,hx⟩:=Qh3 y h
  rw[e,Qc]
  generalize Pf y h=x at hx
  have hl:=hx.1
  have key:Qj ((QQ (λst=>YK x row st) 0)) λq:Int⊕Unit=>(∀k,q=.inl k->0<=k/\row∈x)/\(q=.inr ()->row ∉ x):=by
   refine Qj.up x.length (λst=>st) (λst=>row ∉ x.take st.toNat) rfl (by simp) (λi st hi hn hJ=>?_)
   replace hi:st=(i:Int):=hi
   subst hi
   replace hJ:row ∉ x.take (i:Int).toNat:=hJ
   rw[DE]at hJ
   show Qj (YK x row i) _
   unfold YK Fy
   refine T1 (λhc=>?_) (λhc=>T2 (Qu ⟨λk e=>(by cases e),λ_=>?_⟩))
   ·simp only[QM]at hc
    have i1:i<x.length:=by omega
    have:=hx.2 _ (XW i1)
    rw[XH,QR i1,Qc,Qjy _ _ (by unfold maxLen;omega)]
    simp only[Qc]
    refine T1 (λD=>T2 (Qu ⟨λk e=>(by cases e;exact⟨by omega,by rw[<-XC D];exact XW i1⟩),λe=>by cases e⟩)) λD=>?_
    have hw:Qq ((i:Int)+1)=((i+1:Nat):Int):=QE i1 (by unfold maxLen;omega:x.length<=maxLen)
    refine T2 (QP ⟨i1,hw,?_⟩)
    show row ∉ x.take (Qq ((i:Int)+1)).toNat
    rw[hw,DE,AQ,QR i1]
    simp only[Option.toList_some,Ep,HH,not_or]
    exact⟨hJ,λe=>of_decide_eq_false D e.symm⟩
   simp only[Xo]at hc
   rwa[UB (by omega)]at hJ
  obtain⟨q,hq1,hq2⟩:=key
  rw[hq1]
  rcases q with q | q
  ·have:=hq2.1 q rfl
   refine T2 ?_
   rw[QN this.2]
   exact QN this.1
  refine T2 ?_
  rw[QZ (hq2.2 rfl)];rfl
 obtain⟨r,h1,h2⟩:=key
 rw[h1,h2]
def Qkn (l:L_ Xh)(k m:Int)(hl:Xc Km l):Qj (GP l k m) λr=>r.2=true->0<=m/\∃z,YO l k=some z/\m<z:=by
 unfold GP YO
 refine T0 (CL l k hl).self λx hx=>?_
 obtain⟨hxe,hx⟩:=hx
 refine T0 (P:=λr=>r=false->x.1=true/\0<=m/\∃h:0<=k/\k<(x.2.sizes.length:Int),m<x.2.sizes[k.toNat]'(by omega)) ?_ λr hr=>?_
 ·unfold Hf
  refine T1 (λ_=>T2 λh=>by cases h) λD=>?_
  have D:x.1=true:=by simpa using D
  have h:=hx.2 D
  have hk:k.toNat<x.2.sizes.length:=by omega
  have ei:idx x.2.sizes k=some x.2.sizes[k.toNat]:=QbX h.1.1 h.1.2
  refine T0 (P:=λy=>y=true->0<=m/\m<x.2.sizes[k.toNat]) ?_ λy hy=>T2 λhf=>?_
  ·unfold WG
   refine T0 (P:=λy=>y=true->0<=m/\m<x.2.sizes[k.toNat]) ?_ λy hy=>T2 hy
   unfold UF
   refine T1 (λhc2=>?_) λ_=>T2 λh=>by cases h
   rw[h.2.1,ei,Qc]
   exact T2 λh=>⟨by simpa using hc2,by simpa using h⟩
  have:=hy (by simpa using hf)
  exact⟨D,this.1,h.1,this.2⟩
 unfold Hg
 refine T1 (λ_=>T2 λh=>by cases h) λD=>?_
 obtain⟨h1,h2,h3,h4⟩:=hr D
 have h:=hx.2 h1
 have fin:0<=m/\∃z,((ET l k).bind λx5=>bif (!x5.1)then some 0 else(idx x5.2.sizes k).bind λe7=>some e7)=some z/\m<z:=⟨h2,x.2.sizes[k.toNat]'(by omega),by
  rw[hxe,Qc,h1]
  simp only[Fo,QJ]
  rw[QbX h3.1 h3.2];rfl,h4⟩
 refine T0 (BP x.2 (by omega)) λ_ _=>?_
 refine T1 (λ_=>?_) λ_=>T2 λ_=>fin
 exact T0 (BP x.2 (by omega)) λ_ _=>T2 λ_=>fin
def QmL {l d:LI_}(h:d.length=l.length)(D:∀(j:Nat) x s,d[j]? = some x->l[j]? = some s->0<=x/\x<s):inB l d:=by
 induction l generalizing d with
 | nil=>cases d with
  | nil=>trivial
  | cons x d=>simp at h
 | cons s r ih=>cases d with
  | nil=>simp at h
  | cons x d=>
   have:=D 0 x s rfl rfl
   exact⟨this.1,.inr this.2,ih (by simpa using h) λj y z h1 h2=>D (j+1) y z (by simpa using h1) (by simpa using h2)⟩
def QmM (n:Ql)(task:Int)(y:LI_)(h:Ya n):Qj (Gk n task y) λr=>r.2=0->∃e,idx n.Tasks task=some e/\e∈n.Tasks/\inB (JI n e) y/\∀s∈JI n e,0<s:=by
 unfold Gk
 refine T1 (λ_=>T2 λh=>by cases h) λhc=>?_
 simp only[KA,Xo]at hc
 refine T0 (T4 (by omega) (by omega)).self λe he=>?_
 have hv:=(h.tk e he.2).1
 have ke:=h.k.2.2.1.2 e he.2
 refine T1 (λ_=>T2 λh=>by cases h) λhl=>?_
 simp only[JZ]at hl
 have hl:y.length=e.Vars.length:=by omega
 refine T0 (T5 (by simp only[QL,QM];omega)) λ_ _=>?_
 refine T0 (Qj.up e.Vars.length (λst=>st.1) (λst=>st.2.length=e.Vars.length/\∀(j:Nat) x s,(j:Int)<st.1->y[j]? = some x->(JI n e)[j]? = some s->0<=x/\x<s) (Q:=λq:Unit⊕LI_=>∀out,q=.inr out->inB (JI n e) y/\∀s∈JI n e,0<s) rfl ⟨by simp,λj x s D=>by simp at D;omega⟩ (λi st hi hn hJ=>?_)) (λq hq=>?_)
 ·obtain⟨x,l⟩:=st
  replace hi:x=(i:Int):=hi
  subst hi
  obtain⟨hJ,hJ2⟩:l.length=e.Vars.length/\∀(j:Nat) x s,(j:Int)<(i:Int)->y[j]? = some x->(JI n e)[j]? = some s->0<=x/\x<s:=hJ
  show Qj (Cy e y n i l) _
  unfold Cy
  refine T1 (λhc=>?_) (λhc=>T2 (Qu λout _=>?_))
  ·simp only[QM]at hc
   have i1:i<e.Vars.length:=by omega
   have i2:i<y.length:=by omega
   rw[XH,QR i1,Qc,XH,QR i2,Qc]
   refine T0 (Qkn _ _ _ h.k.1) λc hc3=>?_
   refine T1 (λ_=>T2 (Qu λout e=>by cases e)) λhc4=>?_
   obtain⟨h1,z,h2,h3⟩:=hc3 (by simpa using hc4)
   refine T0 (T4 (by omega) (by omega)) λd _=>?_
   have hw:Qq ((i:Int)+1)=((i+1:Nat):Int):=QE i1 (by unfold maxLen;omega:e.Vars.length<=maxLen)
   refine T2 (QP ⟨i1,hw,by simpa using hJ,λj x s D hx hs=>?_⟩)
   replace D:(j:Int)<Qq ((i:Int)+1):=D
   rw[hw]at D
   by_cases cj:j=i
   ·subst cj
    rw[QR i2]at hx
    cases hx
    unfold JI at hs
    rw[Yb,QR i1,DJ,h2]at hs
    cases hs
    exact⟨h1,h3⟩
   exact hJ2 j x s (by omega) hx hs
  simp only[Xo]at hc
  have hb:∀(j:Nat) x s,y[j]? = some x->(JI n e)[j]? = some s->0<=x/\x<s:=λj x s hx hs=>hJ2 j x s (by have:=(Xe.1 hx).1;omega) hx hs
  refine⟨QmL (by simp[JI,hl]) hb,λs hs=>?_⟩
  obtain⟨j,D,rfl⟩:=BX.1 hs
  have hj2:j<y.length:=by simp[JI]at D;omega
  have:=hb j _ _ (QR hj2) (QR D)
  omega
 rcases q with q | q
 ·exact T2 λh=>by cases h
 exact T2 λ_=>⟨e,he.1,he.2,hq q rfl⟩
def NB {n:Ql}{m:L_ QBg}{y:Int}{D:LI_}{b:Xr}(h:Ya n)(e:Jk n m y D=some (0,b)):idx n.Tasks y=some b.task/\b.task∈n.Tasks/\b.net=n/\b.m=m/\(inB (JI n b.task) D/\∀s∈JI n b.task,0<s)/\Gk n y D=some (b.env,0):=by
 unfold Jk at e
 obtain⟨x,hx,e⟩:=Qp e
 obtain⟨x1,x2⟩:=x
 rcases Xn e with⟨c,e⟩|⟨c,e⟩
 ·simp only[Option.some.injEq,Prod.mk.injEq]at e
  simp only[e.1]at c;cases c
 simp only[JZ]at c
 subst c
 obtain⟨t,ht,h1,h2⟩:=CW (QmM n y D h) hx rfl
 rw[ht,Qc]at e
 simp only[Option.some.injEq,Prod.mk.injEq,true_and]at e
 subst e
 exact⟨ht,h1,rfl,rfl,h2,hx⟩
def HD {n:Ql}{m:L_ QBg}{o:Qk}(h:Ya n)(hm:Xc (Xc λ_=>True) m)(ho:Yu n o):YY n m o=some 0↔o∈JJ n m o.Task:=by
 rw[HC]
 constructor
 ·intro e
  unfold YY at e
  obtain⟨x,hx,e⟩:=Qp e
  obtain⟨c,b⟩:=x
  have k3:∀g,Wj (c,b) o g=some 0->g=0/\o.Ins∈Pf b.task.Join b.task.Ins.length/\o.Outs∈Pf b.task.Split b.task.Outs.length/\XM b o.Ins=some 0/\Yf b o.Outs=some 0:=λg e=>by
   unfold Wj at e
   rcases Xn e with⟨c2,e⟩|⟨c2,e⟩
   ·simp only[Option.some.injEq]at e;rw[e]at c2;cases c2
   simp only[JZ]at c2
   obtain⟨y,D,e⟩:=Qp e
   unfold Fz at D
   rw[OP,Qc]at D
   unfold FA at e
   rcases Xn e with⟨_,e⟩|⟨c3,e⟩
   ·cases e
   subst c3
   rcases Xn D with⟨_,D⟩|⟨c4,D⟩
   ·cases D
   rw[OP,Qc]at D
   simp only[AP,QM]at c4
   simp only[Option.some.injEq,AP,QM]at D
   obtain⟨z,hz,e⟩:=Qp e
   rcases Xn e with⟨c5,e⟩|⟨c5,e⟩
   ·simp only[Option.some.injEq]at e;rw[e]at c5;cases c5
   simp only[JZ]at c5
   subst c5
   obtain⟨w,hw,e⟩:=Qp e
   simp only[Option.some.injEq]at e
   subst e
   exact⟨c2,c4,D,hz,hw⟩
  have fin:c=0->XY b=some 0->(o.Ins∈Pf b.task.Join b.task.Ins.length/\o.Outs∈Pf b.task.Split b.task.Outs.length/\XM b o.Ins=some 0/\Yf b o.Outs=some 0)->o.Task=o.Task/\∃e,idx n.Tasks o.Task=some e/\inB (JI n e) o.Vars/\o.Ins∈Pf e.Join e.Ins.length/\o.Outs∈Pf e.Split e.Outs.length/\∃b,Jk n m o.Task o.Vars=some (0,b)/\XY b=some 0/\XM b o.Ins=some 0/\Yf b o.Outs=some 0:=λhc hg q=>by
   subst hc
   obtain⟨h1,_,_,_,h2,_⟩:=NB h hx
   exact⟨rfl,b.task,h1,h2.1,q.1,q.2.1,b,hx,hg,q.2.2.1,q.2.2.2⟩
  rcases Xn e with⟨c1,e⟩|⟨c1,e⟩
  ·simp only[beq_iff_eq]at c1
   obtain⟨g,hg,e⟩:=Qp e
   obtain⟨rfl,q⟩:=k3 g e
   exact fin c1 hg q
  have e1:=(k3 _ e).1
  simp only[beq_eq_false_iff_ne]at c1
  exact absurd e1 c1
 rintro ⟨_,e,he,h1,h2,h3,b,hb,hg,ht,hv⟩
 obtain⟨k1,k2,_⟩:=NB h hb
 rw[he]at k1;cases k1
 unfold YY
 rw[hb,Qc]
 simp only[show((0:Int)==0)=true from rfl,XK,hg,Qc]
 unfold Wj
 simp only[show((0:Int) != 0)=false from rfl,QJ]
 unfold Fz
 rw[OP,Qc,QN h2]
 simp only[Fo,QJ]
 rw[OP,Qc,QN h3,Qc]
 unfold FA
 simp only[Fo,QJ,ht,Qc,show((0:Int) != 0)=false from rfl,hv]
def Qaw {n:Ql}{m:L_ QBg}{y:Int}{o:Qk}(h:Ya n)(hm:Xc (Xc λ_=>True) m)(ho:o∈JJ n m y):Yu n o:=by
 obtain⟨_,e,D,h1,h2,h3,_⟩:=HC.1 ho
 have hem:e∈n.Tasks:=by
  unfold idx at D
  split at D
  ·exact XU D
  cases D
 have hv:=(h.tk e hem).1
 have hl:=QlU h1
 have h4:=(Qh3 e.Join e.Ins.length).2.2 _ h2
 have h5:=(Qh3 e.Split e.Outs.length).2.2 _ h3
 have:(JI n e).length=e.Vars.length:=by simp[JI]
 exact⟨by omega,by omega,by omega⟩
open Classical in
def IN (a b:Int):(a==b)=decide (a=b):=by rw[Zw];simp
open Classical in
def HE (a b:Int):(a != b)=!decide (a=b):=by rw[Zw];simp
def Qec {α:Type}{l:L_ α}{i:Nat}{x:α}(h:l[i]? = some x):idx l (i:Int)=some x:=by rw[XH];exact h
def ltN {α:Type}{l:L_ α}{i:Nat}{x:α}(h:l[i]? = some x):decide ((i:Int)<(l.length:Int))=true:=QN (by have:=(Xe.1 h).1;omega)
def ltE {n:Nat}:decide ((n:Int)<(n:Int))=false:=QZ (by omega)
def TR (x:Qw):Prop:=x.Mode.Vars.length<=17592186044416/\x.Mode.Ins.length<=17592186044416/\x.Mode.Outs.length<=17592186044416
def Ot {s:LI_}(h:s.length<=17592186044416):Xs s=some s:=by
 unfold Xs
 rw[FN (by show(0+s.length)*8<=140737488355328;omega)];simp
def QgD {x:Qw}(h:TR x):Bu x=some x:=by
 unfold Bu
 rw[Ot h.1,Ot h.2.1,Ot h.2.2];rfl
def dropL (l:L_ Qw)(id:Int):L_ Qw:=l.filter λx=>x.Id != id
def Zu {l:L_ Qw}{id:Int}(hf:∀x∈l,TR x)(hl:l.length<=4294967296)(hm:l.length<=maxLen):Bv l id=some (dropL l id):=by
 unfold Bv
 have h:=Qcu (body:=λst:Int×L_ Qw=>GR l id st.1 st.2) l.length (λi s=>s=((i:Int),dropL (l.take i) id)) (λr=>r=dropL l id) (λi s hi hs=>by
  subst hs
  left
  have hx:l[i]? = some l[i]:=QR hi
  have D:l.take (i+1)=l.take i++[l[i]]:=by rw[AQ,hx];rfl
  show ∃s',GR l id (i:Int) (dropL (l.take i) id)=_/\_
  unfold GR
  rw[ltN hx,Qec hx]
  simp only[XK,Qc]
  have hlen:(dropL (l.take i) id).length<=i:=by
   refine Kj (Zy _ _) ?_
   simp;omega
  by_cases e:l[i].Id=id
  ·have y:(l[i].Id != id)=false:=by simp[e]
   rw[y]
   refine⟨_,rfl,?_⟩
   rw[D];unfold dropL;rw[SY,Ah,y,QE hi hm];simp
  ·have y:(l[i].Id != id)=true:=by simp[e]
   rw[y,XK,QgD (hf _ (XW hi)),Qc,FN (by simp;omega),Qc]
   refine⟨_,rfl,?_⟩
   rw[D];unfold dropL;rw[SY,Ah,y,QE hi hm];simp) (λs hs=>by
  subst hs
  refine⟨_,?_,rfl⟩
  show GR l id (l.length:Int) (dropL (l.take l.length) id)=_
  unfold GR
  rw[ltE,Ln];rfl) (0,[]) rfl
 obtain⟨r,hr,rfl⟩:=h
 rw[hr];rfl
def SG (x:Qw):L_ Qw->L_ Qw
 | []=>[x]
 | y::r=>if x.Id<y.Id then x::y::r else y::SG x r
def Fm (l:L_ Qw)(x:Qw):L_ Qw:=SG x (dropL l x.Id)
def Qh4 (x:Qw):∀l:L_ Qw,(SG x l).length=l.length+1
 | []=>rfl
 | y::r=>by rw[SG];split<;>simp[Qh4 x r]
def Qcc (x:Qw):∀l:L_ Qw,(SG x l).Perm (x::l)
 | []=>List.Perm.refl _
 | y::r=>by
  rw[SG];split
  ·exact List.Perm.refl _
  exact(List.Perm.cons y (Qcc x r)).trans (List.Perm.swap x y r)
def QgE (x:Qw):∀(l:L_ Qw) (k:Nat),(match UL (λ_ y=>decide (x.Id<y.Id)) k l with | some i=>k<=i/\i-k<=l.length/\SG x l=l.take (i-k)++x::l.drop (i-k) | none=>SG x l=l++[x])
 | [],k=>rfl
 | y::r,k=>by
  rw[UL,SG]
  by_cases h:x.Id<y.Id
  ·simp[h]
  have D:=QgE x r (k+1)
  rw[QZ h,QJ,if_neg h]
  cases hs:UL (λ_ y=>decide (x.Id<y.Id)) (k+1) r with
  | none=>rw[hs]at D;simp only at D;rw[D];rfl
  | some i=>
   rw[hs]at D;simp only at D
   obtain⟨h1,h2,h3⟩:=D
   refine⟨by omega,by simp;omega,?_⟩
   rw[h3,show i-k=(i-(k+1))+1 by omega];rfl
def Qlp {l:L_ Qw}{x:Qw}(hm:l.length<=maxLen):YS l x=some ((UL (λ_ y=>decide (x.Id<y.Id)) 0 l).elim (-1) λi=>(i:Int)):=by
 unfold YS
 have h:=Qgy (body:=λst=>XS l x st) (l:=l) (λi=>(i:Int)) (λ_ y=>decide (x.Id<y.Id)) (λi=>.inl (i:Int)) (.inr ()) (λi y hi D=>by
  show XS l x (i:Int)=_
  unfold XS Pp
  rw[ltN D,Qec D,QE hi hm]
  simp only[XK,Qc]
  cases decide (x.Id<y.Id)<;>rfl) (by
  show XS l x (l.length:Int)=_
  unfold XS
  rw[ltE];rfl) (s0:=0) rfl
 rw[h]
 cases UL (λ_ y=>decide (x.Id<y.Id)) 0 l<;>rfl
def QgF {l:L_ Qw}{x:Qw}{i:Nat}(h:i<=l.length)(y:l.length+1<=4294967296):Ym l (i:Int) [x]=some (l.take i++x::l.drop i):=by
 show(chk _).bind _=_
 rw[Qaq (by simp;omega)]
 simp
def Qnp {α:Type}{p:Prop}[Decidable p](h:p)(a b:α):(bif decide p then a else b)=a:=by rw[QN h];rfl
def Qnq {α:Type}{p:Prop}[Decidable p](h:¬p)(a b:α):(bif decide p then a else b)=b:=by rw[QZ h];rfl
def Qh5 {l:L_ Qw}{x:Qw}(hf:∀x∈l,TR x)(hx:TR x)(hl:l.length+1<=4294967296)(hm:l.length<=maxLen):IW l x=some (Fm l x):=by
 unfold IW
 have hd:(dropL l x.Id).length<=l.length:=Zy _ _
 rw[Zu hf (by omega) hm,Qc,Qlp (by omega),Qc]
 have h:=QgE x (dropL l x.Id) 0
 unfold HV
 rw[QgD hx]
 unfold Fm
 cases hs:UL (λ_ y=>decide (x.Id<y.Id)) 0 (dropL l x.Id)with
 | none=>
  rw[hs]at h;simp only at h
  rw[h]
  simp only[Option.elim,Qc]
  refine(Qnp (by decide) _ _).trans ?_
  show(Ym (dropL l x.Id) ((dropL l x.Id).length:Int) [x]).bind some=_
  rw[QgF (YZ _) (by omega)]
  simp
 | some i=>
  rw[hs]at h;simp only at h
  obtain⟨_,D,h3⟩:=h
  rw[Nat.sub_zero]at D h3
  simp only[Option.elim,Qc]
  refine(Qnq (by omega) _ _).trans ?_
  show(Ym (dropL l x.Id) (i:Int) [x]).bind some=_
  rw[h3,QgF D (by omega)]
  rfl
def Up (l:L_ Qw):Prop:=l.Pairwise λa b=>a.Id<b.Id
def Up.ext : ∀{l m:L_ Qw},Up l->Up m->(∀x,x∈l↔x∈m)->l=m
 | [],[],_,_,_=>rfl
 | [],y::m,_,_,h=>by have:=(h y).2 YF;cases this
 | x::l,[],_,_,h=>by have:=(h x).1 YF;cases this
 | x::l,y::m,hl,hm,h=>by
  obtain⟨l1,l2⟩:=Fu.1 hl
  obtain⟨m1,m2⟩:=Fu.1 hm
  have e:x=y:=by
   rcases XQ.1 ((h x).1 YF)with e | hx
   ·exact e
   rcases XQ.1 ((h y).2 YF)with e | hy
   ·exact e.symm
   have:=m1 x hx;have:=l1 y hy;omega
  subst e
  rw[Up.ext l2 m2 λz=>?_]
  have:=h z
  simp only[XQ]at this
  constructor
  ·intro D
   rcases this.1 (.inr D)with e | h'
   ·subst e;have:=l1 z D;omega
   exact h'
  intro D
  rcases this.2 (.inr D)with e | h'
  ·subst e;have:=m1 z D;omega
  exact h'
def Up.drop {l:L_ Qw}(h:Up l)(id:Int):Up (dropL l id):=List.Pairwise.filter _ h
def Cq {l:L_ Qw}{id:Int}{x:Qw}:x∈dropL l id↔x∈l/\x.Id≠id:=by simp[dropL,Fq]
def Up.ins {x:Qw}:∀{l:L_ Qw},Up l->(∀y∈l,y.Id≠x.Id)->Up (SG x l)
 | [],_,_=>List.pairwise_singleton _ _
 | y::r,h,hn=>by
  obtain⟨h1,h2⟩:=Fu.1 h
  rw[SG]
  split
  ·rename_i hlt
   refine Fu.2 ⟨λz D=>?_,h⟩
   rcases XQ.1 D with rfl | D
   ·exact hlt
   have:=h1 z D;omega
  rename_i hge
  have hy:=hn y YF
  refine Fu.2 ⟨λz D=>?_,Up.ins h2 λz D=>hn z (Jz _ D)⟩
  rcases XQ.1 ((Qcc x r).mem_iff.1 D)with rfl | D
  ·omega
  exact h1 z D
def Up.put {l:L_ Qw}(h:Up l)(x:Qw):Up (Fm l x):=(h.drop x.Id).ins λy D=>(Cq.1 D).2
def Ro {l:L_ Qw}{x z:Qw}:z∈Fm l x↔z=x\/(z∈l/\z.Id≠x.Id):=by
 unfold Fm
 rw[(Qcc x _).mem_iff,XQ,Cq]
def HF (n y h:Int):Wz n y h=some (decide (y<=n)&&decide (n<=h)):=rfl
open Classical in
def Qh6 (b:Xp):∃r,KF b=some r:=by
 unfold KF MK
 simp only[HF,Qc]
 have h:∀c:Bool,∃r,Am b c=some r:=λc=>by
  unfold Am
  cases c with
  | true=>exact⟨_,rfl⟩
  | false=>
   have h:=QhQ (body:=λst=>Jj b st) (l:=[b.Open,b.Done,b.Failed]) (λi=>(i:Int)) (λ_ x=>!(decide (0<=x)&&decide (x<=b.Most))) (.inl ()) (.inr ()) (λi x D y=>by
    show Jj b (i:Int)=_
    unfold Jj
    rw[ltN y,Qec y,QE D (by show 3<=_;decide)]
    simp only[XK,Qc,HF]
    cases (!(decide (0<=x)&&decide (x<=b.Most)))<;>rfl) (by
    show Jj b (([b.Open,b.Done,b.Failed].length:Nat):Int)=_
    unfold Jj
    rw[ltE];rfl) (s0:=0) rfl
   rw[QJ,h]
   cases QdY (λ(_:Nat) (x:Int)=>!(decide (0<=x)&&decide (x<=b.Most))) 0 [b.Open,b.Done,b.Failed]<;>exact⟨_,rfl⟩
 cases (!(decide (1<=b.Most)&&decide (b.Most<=16)))with
 | true=>exact h _
 | false=>exact h _
def NC (b:Xp):Bool:=((KF b).getD false)&&!(((Dc b).getD true))
def Qlq (b:Xp):∃r,Dc b=some r:=by
 obtain⟨r,h⟩:=Qh6 b
 unfold Dc NS NT
 rw[h]
 cases r with
 | true=>simp only[Qc,XK];cases decide (b.Enough<=b.Done)<;>exact⟨_,rfl⟩
 | false=>exact⟨_,rfl⟩
def Ql1 (b:Xp):((KF b).bind λx=>bif !x then some true else(Dc b).bind λy=>some y)=some (!NC b):=by
 obtain⟨r,D⟩:=Qh6 b
 obtain⟨q,h⟩:=Qlq b
 unfold NC
 rw[D,h]
 cases r<;>cases q<;>rfl
def Pg (next h:Int)(x:Qw):Bool:=decide (h<x.Id)&&decide (x.Id<next)&&decide (0<=x.Until)&&NC x.Batch
def upF (next:Int):Int->L_ Qw->Bool
 | _,[]=>true
 | h,x::l=>Pg next h x&&upF next x.Id l
def Ql2 (x:Qw)(h next:Int):LP x h next=some (!Pg next h x):=by
 unfold LP
 have:=Ql1 x.Batch
 unfold Pg
 by_cases y:x.Id<=h
 ·rw[QN y,QZ (show ¬h<x.Id by omega)];rfl
 rw[QZ y,QN (show h<x.Id by omega)]
 by_cases D:next<=x.Id
 ·rw[QN D,QZ (show ¬x.Id<next by omega)];rfl
 rw[QZ D,QN (show x.Id<next by omega)]
 by_cases h3:x.Until<0
 ·rw[QN h3,QZ (show ¬0<=x.Until by omega)];rfl
 rw[QZ h3,QN (show 0<=x.Until by omega)]
 simp only[QJ,Bool.true_and]
 exact this
def Qlr {l:L_ Qw}{next:Int}(hm:l.length<=maxLen):Lt l next=some (upF next 0 l&&decide ((l.length:Int)<=64)):=by
 unfold Lt
 have h:=TK (body:=λst:Int×Int=>DU l next st.1 st.2) (l:=l) (λi t=>(t,(i:Int))) (λi t x=>bif Pg next t x then .inl x.Id else .inr (.inl ())) (λ_=>.inr ()) (λi t x D y=>by
  show DU l next t (i:Int)=_
  unfold DU RT
  rw[ltN y,Qec y,QE D hm]
  simp only[XK,Qc,Ql2]
  cases Pg next t x<;>rfl) (λt=>by
  show DU l next t (l.length:Int)=_
  unfold DU
  rw[ltE];rfl) 0 (s0:=(0,0)) rfl
 rw[h]
 have key:∀(l:L_ Qw) (i:Nat) (t:Int),Iq (λ(_:Nat) (t:Int) (x:Qw)=>bif Pg next t x then Sum.inl x.Id else Sum.inr (Sum.inl ())) (λ_=>(Sum.inr ():Unit⊕Unit)) i t l=bif upF next t l then .inr ()else .inl ():=by
  intro l
  induction l with
  | nil=>intro i t;rfl
  | cons x l ih=>
   intro i t
   rw[Iq,upF]
   cases Pg next t x with
   | true=>simpa using ih (i+1) x.Id
   | false=>rfl
 rw[key]
 cases upF next 0 l<;>rfl
def Uc {next:Int}:∀{l:L_ Qw} {D:Int},upF next D l=true↔Up l/\∀x∈l,D<x.Id/\x.Id<next/\0<=x.Until/\NC x.Batch=true
 | [],D=>⟨λ_=>⟨List.Pairwise.nil,λx h=>by cases h⟩,λ_=>rfl⟩
 | x::l,D=>by
  rw[upF,QL,Uc (l:=l)]
  unfold Pg Up
  simp only[QL,QM,Fu,XQ,forall_eq_or_imp]
  constructor
  ·rintro ⟨⟨⟨⟨a1,a2⟩,a3⟩,a4⟩,a5,a6⟩
   exact⟨⟨λy hy=>(a6 y hy).1,a5⟩,⟨a1,a2,a3,a4⟩,λy hy=>⟨by have:=(a6 y hy).1;omega,(a6 y hy).2⟩⟩
  rintro ⟨⟨a1,a5⟩,⟨b1,b2,b3,b4⟩,a6⟩
  exact⟨⟨⟨⟨b1,b2⟩,b3⟩,b4⟩,a5,λy hy=>⟨a1 y hy,(a6 y hy).2⟩⟩
def lens (x:Qw):Nat:=x.Mode.Vars.length+x.Mode.Ins.length+x.Mode.Outs.length
def TR.of {x:Qw}(h:lens x<=1000):TR x:=by unfold lens at h;unfold TR;omega
section
variable {Pe:Int->Int->Prop}
def HOk (Pe:Int->Int->Prop)(l:L_ (O_ Nat))(t:L_ Qh):Prop:=(∀o∈l,∃k,o=some k/\k<t.length)/\∀e∈t,Pe e.id e.at_
def HOk.at {l:L_ (O_ Nat)}{t:L_ Qh}(h:HOk Pe l t){i:Int}(h0:0<=i)(h1:i<l.length):∃k e,idx l i=some (some k)/\t[k]? = some e/\k<t.length/\Pe e.id e.at_/\some k∈l:=by
 have D:i.toNat<l.length:=by omega
 obtain⟨k,hk,y⟩:=h.1 _ (XW D)
 refine⟨k,t[k],?_,QR y,y,h.2 _ (XW y),?_⟩
 ·rw[Mj h0,QR D,hk]
 rw[<-hk];exact XW D
def HOk.setT {l:L_ (O_ Nat)}{t:L_ Qh}(h:HOk Pe l t){k:Nat}{e:Qh}(hk:t[k]? = some e)(v:Int):HOk Pe l (t.set k ⟨e.id,e.at_,v⟩):=by
 refine⟨λo ho=>?_,λx y=>?_⟩
 ·obtain⟨j,D,h2⟩:=h.1 o ho
  exact⟨j,D,by rw[ZA];exact h2⟩
 rcases ZB y with y | rfl
 ·exact h.2 x y
 exact h.2 e (XU hk)
def HOk.setL {l:L_ (O_ Nat)}{t:L_ Qh}(h:HOk Pe l t){o:O_ Nat}(D:o∈l)(i:Nat):HOk Pe (l.set i o) t:=by
 refine⟨λx y=>?_,h.2⟩
 rcases ZB y with y | rfl
 ·exact h.1 x y
 exact h.1 _ D
def Qls {a b:Nat}(h:a<=b){o:O_ Nat}(y:RK a o=true):RK b o=true:=by
 cases o with
 | none=>rfl
 | some k=>simp only[RK,QM]at y ⊢;omega
def Qlt {m:L_ (Int×O_ Nat)}{k:Int}{v:O_ Nat}{q:Int×O_ Nat}(h:q∈Jd Ge m k v):q=(k,v)\/q∈m:=by
 have D:∀m:L_ (Int×O_ Nat),q∈CX Ge m k v->q=(k,v)\/q∈m:=by
  intro m
  induction m with
  | nil=>intro h;exact .inl (by simpa[CX] using h)
  | cons p m y=>
   obtain⟨a,x⟩:=p
   intro h
   rw[CX]at h
   split at h
   ·rcases XQ.1 h with h | h
    ·exact .inl h
    exact .inr h
   rcases XQ.1 h with h | h
   ·exact .inr (h▸YF)
   exact(y h).imp id (Jz _)
 have rep:∀m:L_ (Int×O_ Nat),q∈FZ m k v->q=(k,v)\/q∈m:=by
  intro m
  induction m with
  | nil=>intro h;cases h
  | cons p m y=>
   obtain⟨a,x⟩:=p
   intro h
   rw[FZ]at h
   split at h
   ·rcases XQ.1 h with h | h
    ·exact .inl h
    exact .inr (Jz _ h)
   rcases XQ.1 h with h | h
   ·exact .inr (h▸YF)
   exact(y h).imp id (Jz _)
 unfold Jd at h
 split at h
 ·exact rep m h
 exact D m h
end
def QiJ {l:L_ Qw}{id:Int}(hm:l.length<=maxLen):Wt l id=some ((UL (λ_ y=>y.Id==id) 0 l).elim (-1) λi=>(i:Int)):=by
 unfold Wt Kb
 have h:=Qgy (body:=λst=>XR l id st) (l:=l) (λi=>(i:Int)) (λ_ y=>y.Id==id) (λi=>.inl (i:Int)) (.inr ()) (λi y hi D=>by
  show XR l id (i:Int)=_
  unfold XR Oa
  rw[ltN D,Qec D,QE hi hm]
  simp only[XK,Qc]
  cases (y.Id==id)<;>rfl) (by
  show XR l id (l.length:Int)=_
  unfold XR
  rw[ltE];rfl) (s0:=0) rfl
 rw[h]
 cases UL (λ_ y=>y.Id==id) 0 l<;>rfl
def Qko {l:L_ Qw}{id:Int}(hm:l.length<=maxLen)(h:∀x∈l,x.Id≠id):Wt l id=some (-1):=by
 rw[QiJ hm]
 cases hs:UL (λ_ y=>y.Id==id) 0 l with
 | none=>rfl
 | some i=>
  obtain⟨j,x,_,hx,D⟩:=Qfd hs
  exact absurd (by simpa using D) (h x (XU hx))
def Qcd {l:L_ Qw}{id:Int}(hm:l.length<=maxLen){x:Qw}(hx:x∈l)(h:x.Id=id):∃i:Nat,∃y,Wt l id=some (i:Int)/\l[i]? = some y/\y.Id=id:=by
 rw[QiJ hm]
 cases D:UL (λ_ y=>y.Id==id) 0 l with
 | none=>
  obtain⟨i,hi,rfl⟩:=BX.1 hx
  have:=Qjo D i _ (QR hi)
  simp[h]at this
 | some i=>
  obtain⟨j,y,e,hy,h⟩:=Qfd D
  rw[Ej]at e;subst e
  exact⟨i,y,rfl,hy,by simpa using h⟩
def Up.inj : ∀{l:L_ Qw},Up l->∀{x y:Qw},x∈l->y∈l->x.Id=y.Id->x=y
 | [],_,_,_,h,_,_=>by cases h
 | z::l,h,x,y,hx,hy,e=>by
  obtain⟨h1,h2⟩:=Fu.1 h
  rcases XQ.1 hx with ex | hx'
  ·rcases XQ.1 hy with ey | D
   ·rw[ex,ey]
   have:=h1 y D;rw[ex]at e;omega
  rcases XQ.1 hy with ey | D
  ·have:=h1 x hx';rw[ey]at e;omega
  exact Up.inj h2 hx' D e
def Qce {l:L_ Qw}{id:Int}(h:∀x∈l,x.Id≠id):dropL l id=l:=List.filter_eq_self.2 λx y=>by simpa using h x y
def Ou : ∀{l:L_ Qw} {x:Qw},Up l->x∈l->(dropL l x.Id).length+1=l.length
 | [],_,_,h=>by cases h
 | z::l,x,h,D=>by
  obtain⟨h1,h2⟩:=Fu.1 h
  unfold dropL
  rcases XQ.1 D with rfl | D
  ·have hn:∀y∈l,y.Id≠x.Id:=λy hy=>by have:=h1 y hy;omega
   rw[Ah,if_neg (by simp)]
   have:=Qce hn
   unfold dropL at this
   rw[this];rfl
  have:=h1 x D
  have ih:=Ou h2 D
  unfold dropL at ih
  rw[Ah,if_pos (by simp;omega),DG,ih,DG]
abbrev Ky := Int×Int
def Mn (a b:Ky):Prop:=a.1<b.1\/(a.1=b.1/\a.2<b.2)
instance (a b:Ky):Decidable (Mn a b):=by unfold Mn;infer_instance
def Wl (a b:Ky):Prop:=¬Mn b a
def Wl.refl (a:Ky):Wl a a:=by unfold Wl Mn;omega
def Wl.trans {a b c:Ky}(h:Wl a b)(k:Wl b c):Wl a c:=by unfold Wl Mn at *;omega
def Mn.le {a b:Ky}(h:Mn a b):Wl a b:=by unfold Wl Mn at *;omega
def Wl.anti {a b:Ky}(h:Wl a b)(k:Wl b a):a=b:=by
 obtain⟨y,D⟩:=a
 obtain⟨b1,b2⟩:=b
 unfold Wl Mn at *
 simp only at h k
 have:y=b1:=by omega
 have:D=b2:=by omega
 subst_vars;rfl
def Wl.tot {a b:Ky}(h:¬Wl a b):Wl b a:=by unfold Wl Mn at *;omega
def gt (K:L_ Ky)(i:Nat):Ky:=K.getD i (0,0)
def Qfv {K:L_ Ky}{i:Nat}(h:i<K.length):gt K i=K[i]:=by simp[gt,h]
def swp (i j:Nat)(K:L_ Ky):L_ Ky:=(K.set i (gt K j)).set j (gt K i)
def Qcw {i j:Nat}{K:L_ Ky}(D:i<K.length)(hj:j<K.length)(c:Nat):gt (swp i j K) c=if c=j then gt K i else if c=i then gt K j else gt K c:=by
 unfold swp
 conv=>lhs;unfold gt
 rw[Oz]
 by_cases h:c=j
 ·subst h;rw[if_pos rfl,Mt (by simpa using hj)];rfl
 rw[if_neg h,Ms (Ne.symm h)]
 by_cases y:c=i
 ·subst y;rw[if_pos rfl,Mt D];rfl
 rw[if_neg y,Ms (Ne.symm y)];unfold gt;rw[Oz]
def Qed {i j:Nat}{K:L_ Ky}(hi:i<K.length)(hj:j<K.length):(swp i j K).Perm K:=by
 rw[List.perm_iff_count]
 intro a
 unfold swp
 rw[Qfv hi,Qfv hj]
 have h1:j<(K.set i K[j]).length:=by simpa using hj
 rw[List.count_set h1,List.count_set hi]
 have D:(K.set i K[j])[j]=K[j]:=by
  rw[List.getElem_set];split<;>simp_all
 rw[D]
 have c1:K[i]∈K:=XW hi
 have c2:K[j]∈K:=XW hj
 by_cases h:K[i]=a<;>by_cases y:K[j]=a
 ·have:=List.count_pos_iff.2 (h▸c1);simp[h,y];omega
 ·have:=List.count_pos_iff.2 (h▸c1);simp[h,y];omega
 ·have:=List.count_pos_iff.2 (y▸c2);simp[h,y]
 simp[h,y]
def Ov (n:Nat)(K:L_ Ky):Prop:=∀c,0<c->c<n->Wl (gt K ((c-1) / 2)) (gt K c)
def Ov.min {n:Nat}{K:L_ Ky}(h:Ov n K):∀c,c<n->Wl (gt K 0) (gt K c):=by
 intro c
 induction c using Nat.strongRecOn with
 | ind c ih=>
  intro D
  by_cases y:c=0
  ·subst y;exact Wl.refl _
  exact(ih ((c-1) / 2) (by omega) (by omega)).trans (h c (by omega) D)
def Qax (n:Nat)(K:L_ Ky)(j:Nat):Prop:=(∀c,0<c->c<n->c≠j->Wl (gt K ((c-1) / 2)) (gt K c))/\∀c,0<c->c<n->(c-1) / 2=j->0<j->Wl (gt K ((j-1) / 2)) (gt K c)
def Qax.done {n j:Nat}{K:L_ Ky}(h:Qax n K j)(y:j=0\/Wl (gt K ((j-1) / 2)) (gt K j)):Ov n K:=λc D hc=>by
 by_cases e:c=j
 ·subst e
  rcases y with rfl | y
  ·omega
  exact y
 exact h.1 c D hc e
def Qax.up {n j:Nat}{K:L_ Ky}(h:Qax n K j)(hj:j<n)(hn:n<=K.length)(h0:j≠0)(hlt:Mn (gt K j) (gt K ((j-1) / 2))):Qax n (swp ((j-1) / 2) j K) ((j-1) / 2):=by
 have hi:(j-1) / 2<K.length:=by omega
 have hj2:j<K.length:=by omega
 have g:=Qcw (i:=(j-1) / 2) (j:=j) hi hj2
 generalize hI:(j-1) / 2=i at *
 have hij:i<j:=by omega
 constructor
 ·intro c y D ci
  rw[g,g]
  by_cases e:c=j
  ·subst e
   rw[if_pos rfl,hI,if_neg (by omega),if_pos rfl];exact hlt.le
  rw[if_neg e,if_neg ci]
  by_cases p:(c-1) / 2=j
  ·rw[if_pos p]
   have:=h.2 c y D p (by omega)
   rwa[hI]at this
  rw[if_neg p]
  by_cases p2:(c-1) / 2=i
  ·rw[if_pos p2]
   have:=h.1 c y D e
   rw[p2]at this
   exact hlt.le.trans this
  rw[if_neg p2];exact h.1 c y D e
 intro c y D p i0
 have hp:(i-1) / 2<i:=by omega
 rw[g,g,if_neg (by omega),if_neg (by omega)]
 have hgi:Wl (gt K ((i-1) / 2)) (gt K i):=h.1 i i0 (by omega) (by omega)
 by_cases e:c=j
 ·subst e;rw[if_pos rfl];exact hgi
 rw[if_neg e,if_neg (by omega)]
 have:=h.1 c y D e
 rw[p]at this
 exact hgi.trans this
def Qay (n:Nat)(K:L_ Ky)(i:Nat):Prop:=(∀c,0<c->c<n->(c-1) / 2≠i->Wl (gt K ((c-1) / 2)) (gt K c))/\∀c,0<c->c<n->(c-1) / 2=i->0<i->Wl (gt K ((i-1) / 2)) (gt K c)
def Qay.done {n i:Nat}{K:L_ Ky}(h:Qay n K i)(hc:∀c,0<c->c<n->(c-1) / 2=i->Wl (gt K i) (gt K c)):Ov n K:=λc D y=>by
 by_cases e:(c-1) / 2=i
 ·rw[e];exact hc c D y e
 exact h.1 c D y e
def Qay.down {n i j:Nat}{K:L_ Ky}(h:Qay n K i)(hj:j<n)(hn:n<=K.length)(hp:(j-1) / 2=i)(h0:0<j)(hlt:Mn (gt K j) (gt K i))(ho:∀c,0<c->c<n->(c-1) / 2=i->Wl (gt K j) (gt K c)):Qay n (swp i j K) j:=by
 have hij:i<j:=by omega
 have g:=Qcw (i:=i) (j:=j) (K:=K) (by omega) (by omega)
 constructor
 ·intro c y D p
  rw[g,g,if_neg p]
  by_cases e:c=j
  ·subst e;rw[if_pos rfl,hp,if_pos rfl];exact hlt.le
  rw[if_neg e]
  by_cases p2:(c-1) / 2=i
  ·rw[if_pos p2,if_neg (by omega)];exact ho c y D p2
  rw[if_neg p2]
  by_cases e2:c=i
  ·subst e2;rw[if_pos rfl];exact h.2 j h0 hj hp y
  rw[if_neg e2];exact h.1 c y D p2
 intro c y D p _
 rw[g,g,hp,if_neg (by omega),if_pos rfl,if_neg (by omega),if_neg (by omega)]
 have:=h.1 c y D (by omega)
 rwa[p]at this
def Srt (S:L_ Ky):Prop:=S.Pairwise Wl
def Qlu {s:Ky}{S K:L_ Ky}(hS:Srt (s::S))(hp:(s::S).Perm K)(hh:Ov K.length K)(y:0<K.length):gt K 0=s:=by
 have h1:gt K 0∈s::S:=hp.mem_iff.2 (by rw[Qfv y];exact XW y)
 have h2:Wl s (gt K 0):=by
  rcases XQ.1 h1 with h | h
  ·rw[h];exact Wl.refl _
  exact List.rel_of_pairwise_cons hS h
 have h3:s∈K:=hp.mem_iff.1 YF
 obtain⟨i,D,rfl⟩:=BX.1 h3
 have:=hh.min i D
 rw[Qfv D]at this
 exact this.anti h2
def ky (t:L_ Qh)(o:O_ Nat):Ky:=match o with
 | some k=>match t[k]? with
  | some e=>(e.at_,e.id)
  | none=>(0,0)
 | none=>(0,0)
def Rp (t:L_ Qh)(k:Nat):ky t (some k)=match t[k]? with
  | some e=>(e.at_,e.id)
  | none=>(0,0):=rfl
def Yq (t:L_ Qh)(l:L_ (O_ Nat)):L_ Ky:=l.map (ky t)
abbrev NJ (l:L_ (O_ Nat))(t:L_ Qh):Prop:=HOk (λ_ _=>True) l t
def WS (t:L_ Qh)(l:L_ (O_ Nat)):(Yq t l).length=l.length:=by simp[Yq]
def Qh7 {l:L_ (O_ Nat)}{t:L_ Qh}(h:NJ l t){i:Nat}(hi:i<l.length):∃k e,idx l (i:Int)=some (some k)/\t[k]? = some e/\gt (Yq t l) i=(e.at_,e.id):=by
 obtain⟨k,e,y,D,_⟩:=h.at (i:=(i:Int)) (by omega) (by omega)
 refine⟨k,e,y,D,?_⟩
 rw[XH]at y
 unfold gt Yq
 rw[Oz,Yb,y]
 show ky t (some k)=_
 rw[Rp,D]
def Qaz {l:L_ (O_ Nat)}{t:L_ Qh}(h:NJ l t){i j:Nat}(hi:i<l.length)(hj:j<l.length):KY l i j t=some (decide (Mn (gt (Yq t l) i) (gt (Yq t l) j))):=by
 obtain⟨k,e,h1,h2,h3⟩:=Qh7 h hi
 obtain⟨k',e',h1',h2',h3'⟩:=Qh7 h hj
 unfold KY Iv Iw
 simp only[h1,h1',h2,h2',Qc,h3,h3']
 have hd:∀p:Prop,[Decidable p]->(p↔Mn (e.at_,e.id) (e'.at_,e'.id))->decide p=decide (Mn (e.at_,e.id) (e'.at_,e'.id)):=λp _ hp=>decide_eq_decide.2 hp
 by_cases y:e.at_<e'.at_
 ·rw[QN y,XK,Qc,QN (show Mn _ _ from .inl y)]
 rw[QZ y,QJ]
 by_cases D:e.at_=e'.at_
 ·rw[show(e.at_==e'.at_)=true by simpa using D,XK,Qc]
  exact congrArg some (hd _ ⟨λh=>.inr ⟨D,h⟩,λh=>by rcases h with h | h;exact absurd h y;exact h.2⟩)
 rw[show(e.at_==e'.at_)=false by simpa using D,QJ,Qc,QZ]
 rintro (h | h)
 ·exact y h
 exact D h.1
def Qh8 {t:L_ Qh}{k:Nat}{e:Qh}(h:t[k]? = some e)(v:Int)(o:O_ Nat):ky (t.set k ⟨e.id,e.at_,v⟩) o=ky t o:=by
 cases o with
 | none=>rfl
 | some m=>
  rw[Rp,Rp]
  by_cases c:k=m
  ·subst c
   have:=(Xe.1 h).1
   rw[Mt this,h]
  rw[Ms c]
def Qee {l:L_ (O_ Nat)}{t:L_ Qh}(h:NJ l t){i j:Nat}(hi:i<l.length)(hj:j<l.length):
  ∃p,JV l i j t=some p/\NJ p.1 p.2/\p.1.length=l.length/\p.2.length=t.length/\Yq p.2 p.1=swp i j (Yq t l):=by
 obtain⟨k,e,h1,h2,h3,_,m1⟩:=h.at (i:=(i:Int)) (by omega) (by omega)
 obtain⟨k',e',D,h2',h3',_,m1'⟩:=h.at (i:=(j:Int)) (by omega) (by omega)
 have hA:NJ (l.set (i:Int).toNat (some k')) t:=h.setL m1' _
 have lA:(l.set (i:Int).toNat (some k')).length=l.length:=ZA
 obtain⟨kA,eA,hA1,hA2,_⟩:=hA.at (i:=(j:Int)) (by omega) (by rw[lA];omega)
 have hB:NJ ((l.set (i:Int).toNat (some k')).set (j:Int).toNat (some k)) t:=by
  refine⟨λx hx=>?_,h.2⟩
  rcases ZB hx with hx | rfl
  ·exact hA.1 x hx
  exact h.1 _ m1
 have lB:((l.set (i:Int).toNat (some k')).set (j:Int).toNat (some k)).length=l.length:=by rw[ZA,ZA]
 obtain⟨k1,y,g1,g2,_⟩:=hB.at (i:=(i:Int)) (by omega) (by rw[lB];omega)
 obtain⟨k2,e2,f1,f2,f3,_⟩:=hB.at (i:=(j:Int)) (by omega) (by rw[lB];omega)
 have hC:=hB.setT g2 (i:Int)
 have lt2:k2<(t.set k1 ⟨y.id,y.at_,(i:Int)⟩).length:=by rw[ZA];exact f3
 have g3:(t.set k1 ⟨y.id,y.at_,(i:Int)⟩)[k2]? = some (t.set k1 ⟨y.id,y.at_,(i:Int)⟩)[k2]:=QR lt2
 have hD:=hC.setT g3 (j:Int)
 refine⟨(_,_),?_,hD,lB,by simp,?_⟩
 ·unfold JV
  simp only[h1,D,hA1,g1,f1,g2,g3,Qc]
 have e1':gt (Yq t l) i=ky t (some k):=by
  rw[XH]at h1
  unfold gt Yq;rw[Oz,Yb,h1];rfl
 have e2':gt (Yq t l) j=ky t (some k'):=by
  rw[XH]at D
  unfold gt Yq;rw[Oz,Yb,D];rfl
 unfold swp
 rw[e1',e2']
 show List.map _ _=_
 have hf:∀o,ky ((t.set k1 ⟨y.id,y.at_,(i:Int)⟩).set k2 ⟨(t.set k1 ⟨y.id,y.at_,(i:Int)⟩)[k2].id,(t.set k1 ⟨y.id,y.at_,(i:Int)⟩)[k2].at_,(j:Int)⟩) o=ky t o:=λo=>by rw[Qh8 g3,Qh8 g2]
 rw[OA λo _=>hf o,List.map_set,List.map_set]
 rfl
def QmN : ∀(j:Nat) {l:L_ (O_ Nat)} {t:L_ Qh},NJ l t->j<l.length->l.length<=4000000->
  ∃p,QQ (λst=>Wv st.1 st.2.1 st.2.2) ((j:Int),t,l)=some p/\NJ p.2 p.1/\p.2.length=l.length/\p.1.length=t.length/\(Yq p.1 p.2).Perm (Yq t l)/\(Qax l.length (Yq t l) j->Ov l.length (Yq p.1 p.2)):=by
 intro j
 induction j using Nat.strongRecOn with
 | ind j ih=>
  intro l t h hj hl
  have hi:(Qq (Int.tdiv (Qq ((j:Int)-1)) 2))=(((j-1) / 2:Nat):Int):=by
   by_cases D:j=0
   ·subst D;decide
   rw[Yg (n:=(j:Int)-1) (by omega)]
   have:Int.tdiv ((j:Int)-1) 2=(((j-1) / 2:Nat):Int):=by
    rw[show(j:Int)-1=((j-1:Nat):Int) by omega]
    exact(Int.ofNat_tdiv (j-1) 2).symm
   rw[this,Yg (by omega)]
  rw[KD]
  show ∃p,(Wv (j:Int) t l).bind _=some p/\_
  unfold Wv Ld
  rw[hi]
  by_cases e:(j-1) / 2=j
  ·have D:j=0:=by omega
   rw[e,beq_self_eq_true]
   exact⟨_,rfl,h,rfl,rfl,List.Perm.refl _,λy=>y.done (.inl D)⟩
  have e1:((((j-1) / 2:Nat):Int)==(j:Int))=false:=by simp;omega
  have hlt:(j-1) / 2<j:=by omega
  rw[e1,QJ,Qaz h hj (by omega),Qc,Qc]
  unfold Gp
  by_cases c:Mn (gt (Yq t l) j) (gt (Yq t l) ((j-1) / 2))
  ·rw[QN c,hi]
   obtain⟨p,hp,h1,h2,h3,h4⟩:=Qee h (i:=(j-1) / 2) (j:=j) (by omega) hj
   rw[Fo,QJ,hp,Qc,FN h2,Qc]
   obtain⟨q,g1,g2,g3,g4,g5,g6⟩:=ih ((j-1) / 2) hlt h1 (by omega) (by omega)
   refine⟨q,g1,g2,by omega,by omega,?_,λy=>?_⟩
   ·rw[h4]at g5
    exact g5.trans (Qed (by rw[WS];omega) (by rw[WS];omega))
   rw[h4,h2]at g6
   exact g6 (y.up hj (by rw[WS];exact YZ _) (by omega) c)
  rw[QZ c]
  exact⟨_,rfl,h,rfl,rfl,List.Perm.refl _,λy=>y.done (.inr c)⟩
def Ql3 {n i:Nat}{l:L_ (O_ Nat)}{t:L_ Qh}(h:NJ l t)(hi:i<l.length)(hn:n<=l.length)(hl:l.length<=4000000):
  (n<=2*i+1/\JH (n:Int) (i:Int) t l=some (.inr ((i:Int),t,l)))\/
  ∃j:Nat,i<j/\j<n/\(j-1) / 2=i/\(∀c,0<c->c<n->(c-1) / 2=i->Wl (gt (Yq t l) j) (gt (Yq t l) c))/\JH (n:Int) (i:Int) t l=YD l (i:Int) t (j:Int):=by
 unfold JH
 have e1:Qq ((Qq (2*(i:Int)))+1)=((2*i+1:Nat):Int):=by
  rw[Qct,Yg (by omega)];omega
 have e2:Qq (((2*i+1:Nat):Int)+1)=((2*i+2:Nat):Int):=by rw[Yg (by omega)];omega
 rw[e1]
 by_cases hc:n<=2*i+1
 ·rw[QN (show(n:Int)<=((2*i+1:Nat):Int) by omega)]
  exact .inl ⟨hc,rfl⟩
 right
 rw[QZ (show ¬(n:Int)<=((2*i+1:Nat):Int) by omega),QZ (show ¬((2*i+1:Nat):Int)<0 by omega),Bool.or_false,QJ]
 unfold Hl
 rw[e1,e2]
 have two:∀c,0<c->c<n->(c-1) / 2=i->c=2*i+1\/c=2*i+2:=λc y D p=>by omega
 by_cases hc2:2*i+2<n
 ·rw[QN (show((2*i+2:Nat):Int)<(n:Int) by omega),XK,Qaz h (by omega) (by omega),Qc,Qc]
  unfold Us
  rw[e1,e2]
  by_cases cl:Mn (gt (Yq t l) (2*i+2)) (gt (Yq t l) (2*i+1))
  ·rw[QN cl]
   exact⟨2*i+2,by omega,hc2,by omega,λc y D p=>by
    rcases two c y D p with rfl | rfl
    ·exact cl.le
    exact Wl.refl _,rfl⟩
  rw[QZ cl]
  exact⟨2*i+1,by omega,by omega,by omega,λc y D p=>by
   rcases two c y D p with rfl | rfl
   ·exact Wl.refl _
   exact cl,rfl⟩
 rw[QZ (show ¬((2*i+2:Nat):Int)<(n:Int) by omega),QJ,Qc]
 unfold Us
 rw[e1]
 exact⟨2*i+1,by omega,by omega,by omega,λc y D p=>by
  have:c=2*i+1:=by omega
  subst this;exact Wl.refl _,rfl⟩
def Qlv {n:Nat}:∀(m i:Nat) {l:L_ (O_ Nat)} {t:L_ Qh},n-i=m->NJ l t->i<l.length->n<=l.length->l.length<=4000000->
  ∃p,QQ (λst=>JH (n:Int) st.1 st.2.1 st.2.2) ((i:Int),t,l)=some p/\NJ p.2.2 p.2.1/\p.2.2.length=l.length/\p.2.1.length=t.length/\(Yq p.2.1 p.2.2).Perm (Yq t l)/\(∀c,n<=c->gt (Yq p.2.1 p.2.2) c=gt (Yq t l) c)/\
   (Qay n (Yq t l) i->Ov n (Yq p.2.1 p.2.2)):=by
 intro m
 induction m using Nat.strongRecOn with
 | ind m ih=>
  intro i l t hm h D hn hl
  rw[KD]
  rcases Ql3 h D hn hl with⟨hc,hs⟩|⟨j,hij,hj,hpj,ho,hs⟩
  ·exact⟨((i:Int),t,l),(congrArg (λo=>Option.bind o _) hs).trans rfl,h,rfl,rfl,List.Perm.refl _,λ_ _=>rfl,λy=>y.done λc _ cn p=>by omega⟩
  by_cases c:Mn (gt (Yq t l) j) (gt (Yq t l) i)
  ·obtain⟨p,hp,h1,h2,h3,h4⟩:=Qee h (i:=i) (j:=j) D (by omega)
   have hk:YD l (i:Int) t (j:Int)=some (.inl ((j:Int),p.2,p.1)):=by
    unfold YD
    rw[Qaz h (by omega) D,Qc,QN c,Fo,QJ,hp,Qc,FN h2,Qc]
   obtain⟨q,g1,g2,g3,g4,g5,g6,g7⟩:=ih (n-j) (by omega) j rfl h1 (by omega) (by omega) (by omega)
   rw[h4]at g5 g6 g7
   refine⟨q,(congrArg (λo=>Option.bind o _) (hs.trans hk)).trans g1,g2,by omega,by omega,g5.trans (Qed (by rw[WS];omega) (by rw[WS];omega)),λc cn=>?_,λy=>g7 (y.down hj (by rw[WS];exact hn) hpj (by omega) c ho)⟩
   rw[g6 c cn,Qcw (by rw[WS];omega) (by rw[WS];omega),if_neg (by omega),if_neg (by omega)]
  have hk:YD l (i:Int) t (j:Int)=some (.inr ((i:Int),t,l)):=by
   unfold YD
   rw[Qaz h (by omega) D,Qc,QZ c];rfl
  exact⟨((i:Int),t,l),(congrArg (λo=>Option.bind o _) (hs.trans hk)).trans rfl,h,rfl,rfl,List.Perm.refl _,λ_ _=>rfl,λy=>y.done λd d0 dn dp=>Wl.trans c (ho d d0 dn dp)⟩
structure OkQ (l:List (Option Nat)) (m:List (Int×Option Nat)) (t:List Qh):Prop where
 h:NJ l t
 p:∀q∈m,RK t.length q.2=true
 k:Ov l.length (Yq t l)
def QmO {l:L_ (O_ Nat)}{t:L_ Qh}(h:NJ l t)(e:Qh):Yq (t++[e]) l=Yq t l:=by
 unfold Yq
 refine OA λo D=>?_
 obtain⟨k,rfl,y⟩:=h.1 o D
 rw[Rp,Rp,YL y]
def Ql4 {l:L_ (O_ Nat)}{m:L_ (Int×O_ Nat)}{t:L_ Qh}(h:OkQ l m t)(hn:l.length<4096){id at_:Int}(hm:Xb m id=none):
  ∃r,ED l m id at_ t=some r/\OkQ r.2.1 r.2.2.2 r.2.2.1/\r.2.1.length=l.length+1/\(Yq r.2.2.1 r.2.1).Perm (Yq t l++[(at_,id)])/\∃v,r.2.2.2=Jd Ge m id v:=by
 obtain⟨h1,h2,h3⟩:=h
 unfold ED
 rw[hm]
 show ∃r,(bif false then _ else _)=some r/\_
 unfold En
 rw[QJ,Qc,show((l.length:Int)==4096)=false by simp;omega]
 have c1:l.all (RK t.length)=true:=XE.2 λo y=>by
  obtain⟨k,rfl,hk⟩:=h1.1 o y
  simpa[RK] using hk
 have c2:(m.all λq=>RK t.length q.2)=true:=XE.2 h2
 rw[QJ,Qaq c1,Qc,Qaq c2,Qc]
 unfold BE Cb
 have g0:(t++[(Qh.mk id at_ 0)])[t.length]? = some (Qh.mk id at_ 0):=by simp
 rw[Qc,g0,Qc,FN (by simp;omega),Qc,Qc]
 have D:NJ (l++[some t.length]) (t++[Qh.mk id at_ 0]):=by
  refine⟨λo y=>?_,λ_ _=>trivial⟩
  rcases Ep.1 y with y | y
  ·obtain⟨k,e,hk⟩:=h1.1 o y
   exact⟨k,e,by simp;omega⟩
  rw[HH]at y
  exact⟨t.length,y,by simp⟩
 have hq2:=D.setT g0 (l.length:Int)
 have ln:(l++[some t.length]).length=l.length+1:=by simp
 show ∃r,((Wp (l++[some t.length]) _).bind _).bind _=some r/\_
 unfold Wp
 rw[Qc,ln]
 have ew:Qq (((l.length+1:Nat):Int)-1)=(l.length:Int):=by rw[Yg (by omega)];omega
 rw[ew]
 unfold Fe
 obtain⟨p,g1,g2,g3,g4,g5,g6⟩:=QmN l.length hq2 (by omega) (by omega)
 have hk:Yq ((t++[Qh.mk id at_ 0]).set t.length ⟨id,at_,(l.length:Int)⟩) (l++[some t.length])=Yq t l++[(at_,id)]:=by
  have:∀o,ky ((t++[Qh.mk id at_ 0]).set t.length ⟨id,at_,(l.length:Int)⟩) o=ky (t++[Qh.mk id at_ 0]) o:=Qh8 g0 _
  show List.map _ _=_
  rw[OA λo _=>this o,List.map_append]
  show Yq (t++[Qh.mk id at_ 0]) l++[ky (t++[Qh.mk id at_ 0]) (some t.length)]=_
  rw[QmO h1,Rp,g0]
 have hx:Qax (l.length+1) (Yq t l++[(at_,id)]) l.length:=by
  have gl:∀c,c<l.length->gt (Yq t l++[(at_,id)]) c=gt (Yq t l) c:=λc hc=>by
   unfold gt
   rw[Oz,YL (by rw[WS];exact hc),Oz]
  refine⟨λc c0 cn ce=>?_,λc c0 cn p _=>by omega⟩
  rw[gl c (by omega),gl _ (by omega)]
  exact h3 c c0 (by omega)
 rw[hk]at g5 g6
 rw[ln]at g6 g3
 have gh:=g6 hx
 refine⟨_,(congrArg (λo=>Option.bind (Option.bind (Option.bind o _) _) _) g1).trans rfl,⟨g2,λq D=>?_,?_⟩,g3,g5,_,rfl⟩
 ·have lt:p.1.length=t.length+1:=by rw[g4];simp
  show RK p.1.length q.2=true
  rw[lt]
  rcases Qlt D with rfl | D
  ·simp[RK]
  exact Qls (Ko _) (h2 q D)
 show Ov p.2.length (Yq p.1 p.2)
 rw[g3];exact gh
def QaA {l:L_ (O_ Nat)}(m:L_ (Int×O_ Nat)){t:L_ Qh}(h:NJ l t):(l=[]/\Jl l m t=some (0,0,false))\/(0<l.length/\Jl l m t=some ((gt (Yq t l) 0).2,(gt (Yq t l) 0).1,true)):=by
 unfold Jl En
 rw[Qc]
 by_cases D:l.length=0
 ·have:=Mu.1 D
  subst this
  exact .inl ⟨rfl,rfl⟩
 right
 refine⟨by omega,?_⟩
 rw[show((l.length:Int)==0)=false by simp;intro h;exact D (by simp[h])]
 obtain⟨k,e,y,h2,h3⟩:=Qh7 h (i:=0) (by omega)
 have y:idx l 0=some (some k):=y
 rw[QJ,y,Qc,Qc,h2,Qc,Qc,Qc,h2,Qc,h3]
def Qlw {K:L_ Ky}{n:Nat}(h:K.length=n+1):K=K.take n++[gt K n]:=by
 have e:K.drop n=[gt K n]:=by
  rw[SX (by omega),Qfv (by omega),List.drop_eq_nil_of_le (by omega)]
 rw[<-e,List.take_append_drop]
def Ql5 {l:L_ (O_ Nat)}(m:L_ (Int×O_ Nat)){t:L_ Qh}(h1:NJ l t)(h3:Ov l.length (Yq t l))(hl:0<l.length)(hn:l.length<=4000000):
  ∃r,EE l m t=some r/\NJ r.2.1 r.2.2/\Ov r.2.1.length (Yq r.2.2 r.2.1)/\r.2.1.length+1=l.length/\(gt (Yq t l) 0::Yq r.2.2 r.2.1).Perm (Yq t l):=by
 unfold EE Wp
 have ew:Qq ((l.length:Int)-1)=((l.length-1:Nat):Int):=by rw[Yg (by omega)];omega
 rw[Qc,ew]
 obtain⟨p,hp,g1,g2,g3,g4⟩:=Qee h1 (i:=0) (j:=l.length-1) (by omega) (by omega)
 have hp:JV l 0 ((l.length-1:Nat):Int) t=some p:=hp
 rw[hp,Qc,FN g2,Qc]
 unfold BF
 obtain⟨q,f1,f2,f3,f4,f5,f6,f7⟩:=Qlv (n:=l.length-1) _ 0 rfl g1 (by omega) (by omega) (by omega)
 have e0:QQ (λst=>JH ((l.length-1:Nat):Int) st.1 st.2.1 st.2.2) (0,p.2,p.1)=some q:=f1
 rw[e0,Qc]
 unfold Hm
 rw[Qc]
 unfold Ff
 show ∃r,((idx q.2.2 (Qq ((q.2.2.length:Int)-1))).bind _).bind _=some r/\_
 rw[g2]at f3
 rw[f3,ew]
 obtain⟨k,e,i1,i2,i3,_⟩:=f2.at (i:=((l.length-1:Nat):Int)) (by omega) (by omega)
 rw[i1,Qc]
 rw[Qaq (by simp),Qc,Qc]
 have tk:(q.2.2.take (((l.length-1:Nat):Int)).toNat).length=l.length-1:=by rw[KS];omega
 have kl:(Yq t l).length=l.length:=WS t l
 have sw:=λc=>Qcw (i:=0) (j:=l.length-1) (K:=Yq t l) (by omega) (by omega) c
 rw[g4]at f5 f6 f7
 have hd:Qay (l.length-1) (swp 0 (l.length-1) (Yq t l)) 0:=by
  refine⟨λc c0 cn p=>?_,λc c0 cn p h0=>by omega⟩
  rw[sw,sw,if_neg (by omega),if_neg p,if_neg (by omega),if_neg (by omega)]
  exact h3 c c0 (by omega)
 have hh:=f7 hd
 have h:gt (Yq q.2.1 q.2.2) (l.length-1)=gt (Yq t l) 0:=by rw[f6 _ (YZ _),sw,if_pos rfl]
 have y:(Yq q.2.1 q.2.2).Perm (Yq t l):=f5.trans (Qed (by omega) (by omega))
 have ktk:Yq q.2.1 (q.2.2.take (((l.length-1:Nat):Int)).toNat)=(Yq q.2.1 q.2.2).take (l.length-1):=by
  unfold Yq;rw[DE,List.map_take]
 refine⟨_,rfl,⟨λo ho=>f2.1 o (Ai ho),f2.2⟩,?_,?_,?_⟩
 ·show Ov (q.2.2.take (((l.length-1:Nat):Int)).toNat).length (Yq q.2.1 (q.2.2.take (((l.length-1:Nat):Int)).toNat))
  rw[tk,ktk]
  intro c c0 cn
  have D:∀c,c<l.length-1->gt ((Yq q.2.1 q.2.2).take (l.length-1)) c=gt (Yq q.2.1 q.2.2) c:=λc hc=>by
   unfold gt
   rw[Oz,Jy,if_pos hc,Oz]
  rw[D c cn,D _ (by omega)]
  exact hh c c0 cn
 ·show(q.2.2.take (((l.length-1:Nat):Int)).toNat).length+1=l.length
  omega
 show(gt (Yq t l) 0::Yq q.2.1 (q.2.2.take (((l.length-1:Nat):Int)).toNat)).Perm (Yq t l)
 rw[ktk]
 have:=Qlw (K:=Yq q.2.1 q.2.2) (n:=l.length-1) (by rw[WS];omega)
 rw[h]at this
 refine(List.perm_append_comm (l₁:=[gt (Yq t l) 0])).trans ?_
 rw[<-this];exact y
def Qef (now:Int)(S:L_ Ky):LI_:=(S.takeWhile λs=>decide (s.1<=now)).map Prod.snd
def Qh9 {now:Int}:∀(S:L_ Ky) {id at_:Int} {is:Bool} {out:LI_} {m:L_ (Int×O_ Nat)} {t:L_ Qh} {l:L_ (O_ Nat)},NJ l t->Ov l.length (Yq t l)->Srt S->S.Perm (Yq t l)->
  (some (id,at_,is)=Jl l m t)->out.length+l.length<=4000000->
  ∃r,QQ (λst=>JW now st.1 st.2.1 st.2.2.1 st.2.2.2.1 st.2.2.2.2.1 st.2.2.2.2.2.1 st.2.2.2.2.2.2) (id,at_,is,out,m,t,l)=some r/\r.1=out++Qef now S:=by
 intro S
 induction S with
 | nil=>
  intro id at_ is out m t l h hh hs hp D hc
  have hl:l=[]:=by
   have:=hp.length_eq
   rw[WS]at this
   exact Mu.1 this.symm
  subst hl
  rcases QaA m h with⟨_,e⟩|⟨h0,_⟩
  ·rw[e]at D;cases D
   rw[KD]
   exact⟨_,rfl,by simp[Qef]⟩
  cases h0
 | cons s S ih=>
  intro id at_ is out m t l h hh hs hp D hc
  have hl:0<l.length:=by
   have:=hp.length_eq
   rw[WS]at this;simp at this;omega
  rcases QaA m h with⟨e,_⟩|⟨_,e⟩
  ·subst e;cases hl
  have h0:=Qlu hs hp (by rw[WS];exact hh) (by rw[WS];exact hl)
  rw[e,h0]at D;cases D
  rw[KD]
  show ∃r,((JW now s.2 s.1 true out m t l).bind _)=some r/\_
  by_cases ha:s.1<=now
  ·obtain⟨r,hr,k1,k2,k3,k4⟩:=Ql5 m h hh hl (by omega)
   rw[h0]at k4
   have hp2:S.Perm (Yq r.2.2 r.2.1):=(List.perm_cons s).1 (hp.trans k4.symm)
   obtain⟨v,hv⟩:∃v,Jl r.2.1 (Bg m s.2) r.2.2=some v:=by
    rcases QaA (Bg m s.2) k1 with⟨_,e⟩|⟨_,e⟩<;>exact⟨_,e⟩
   obtain⟨q,g1,g2⟩:=ih (id:=v.1) (at_:=v.2.1) (is:=v.2.2) (out:=out++[s.2]) (m:=Bg m s.2) k1 k2 (List.Pairwise.of_cons hs) hp2 hv.symm (by rw[JT,Eo];omega)
   have y:JW now s.2 s.1 true out m t l=some (.inl (v.1,v.2.1,v.2.2,out++[s.2],Bg m s.2,r.2.2,r.2.1)):=by
    unfold JW
    rw[QN ha,Bool.and_true,XK,FN (by rw[Eo];omega),Qc,hr,Qc,hv,Qc]
   refine⟨q,(congrArg (λo=>Option.bind o _) y).trans g1,?_⟩
   rw[g2]
   unfold Qef
   rw[List.takeWhile_cons_of_pos (by simpa using ha),GK,De];rfl
  have y:JW now s.2 s.1 true out m t l=some (.inr (out,m,t,l)):=by
   unfold JW
   rw[QZ ha];rfl
  refine⟨_,(congrArg (λo=>Option.bind o _) y).trans rfl,?_⟩
  unfold Qef
  rw[List.takeWhile_cons_of_neg (by simpa using ha)];simp
def Lk (L:L_ Qw):Nat->L_ Ky
 | 0=>[]
 | i+1=>match L[i]? with
  | some x=>if (∀y∈L.take i,y.Id≠x.Id)/\0<x.Until then Lk L i++[(x.Until,x.Id)]else Lk L i
  | none=>Lk L i
def Qcx (L:L_ Qw):∀i,(Lk L i).length<=i
 | 0=>YZ _
 | i+1=>by
  rw[Lk]
  have:=Qcx L i
  split
  ·split
   ·simp;omega
   omega
  omega
def Qkp {L:L_ Qw}{now:Int}(hL:L.length<=80){S:L_ Ky}(hS:Srt S)(hp:S.Perm (Lk L L.length)):CR L now=some (Qef now S):=by
 have mx:(80:Nat)<=maxLen:=by decide
 unfold CR Vv
 rw[Qc]
 have h:=Qcu (body:=λst:Int×L_ (Int×Bool)×L_ (O_ Nat)×L_ (Int×O_ Nat)×L_ Qh=>WQ L st.1 st.2.1 st.2.2.1 st.2.2.2.1 st.2.2.2.2) L.length (λi s=>s.1=(i:Int)/\(∀k,(Xb s.2.1 k).getD false=true↔∃y∈L.take i,y.Id=k)/\OkQ s.2.2.1 s.2.2.2.1 s.2.2.2.2/\(Yq s.2.2.2.2 s.2.2.1).Perm (Lk L i)/\∀k,Xb s.2.2.2.1 k≠none->∃y∈L.take i,y.Id=k)
  (λr=>OkQ r.1 r.2.1 r.2.2/\(Yq r.2.2 r.1).Perm (Lk L L.length)) (λi s hi hs=>by
  obtain⟨j,m,l,mm,t⟩:=s
  obtain⟨rfl,hm,hq,D,hmm⟩:=hs
  replace hm:∀k,(Xb m k).getD false=true↔∃y∈L.take i,y.Id=k:=hm
  replace hq:OkQ l mm t:=hq
  replace D:(Yq t l).Perm (Lk L i):=D
  replace hmm:∀k,Xb mm k≠none->∃y∈L.take i,y.Id=k:=hmm
  left
  have hx:L[i]? = some L[i]:=QR hi
  have htk:L.take (i+1)=L.take i++[L[i]]:=by rw[AQ,hx];rfl
  have hm':∀k,(Xb (Jd Ge m L[i].Id true) k).getD false=true↔∃y∈L.take (i+1),y.Id=k:=λk=>by
   rw[AB,htk]
   by_cases e:k=L[i].Id
   ·rw[if_pos e]
    exact⟨λ_=>⟨L[i],List.mem_append_right _ (HH.2 rfl),e.symm⟩,λ_=>rfl⟩
   rw[if_neg e,hm]
   refine⟨λ⟨y,h1,h2⟩=>⟨y,SZ _ h1,h2⟩,λ⟨y,h1,h2⟩=>?_⟩
   rcases Ep.1 h1 with h1 | h1
   ·exact⟨y,h1,h2⟩
   simp at h1;subst h1;exact absurd h2.symm e
  show ∃s',WQ L (i:Int) m l mm t=_/\_
  unfold WQ HW
  rw[ltN hx,Qec hx,XK,Qc,QE hi (by omega)]
  have hpr:Lk L (i+1)=if (∀y∈L.take i,y.Id≠L[i].Id)/\0<L[i].Until then Lk L i++[(L[i].Until,L[i].Id)]else Lk L i:=by rw[Lk,hx]
  have hlen:l.length<=i:=by
   have:=D.length_eq
   rw[WS]at this
   have:=Qcx L i
   omega
  by_cases c1:∃y∈L.take i,y.Id=L[i].Id
  ·rw[(hm _).2 c1]
   refine⟨_,rfl,rfl,hm',hq,?_,λk D=>?_⟩
   ·rw[hpr,if_neg λh=>by obtain⟨y,h1,h2⟩:=c1;exact h.1 y h1 h2];exact D
   obtain⟨y,h1,h2⟩:=hmm k D
   exact⟨y,by rw[htk];exact SZ _ h1,h2⟩
  ·rw[Bool.eq_false_iff.2 λh=>c1 ((hm _).1 h)]
   have c1':∀y∈L.take i,y.Id≠L[i].Id:=λy h1 h2=>c1 ⟨y,h1,h2⟩
   by_cases c2:0<L[i].Until
   ·rw[QN c2]
    obtain⟨r,hr,g1,g2,g3,v,g4⟩:=Ql4 hq (by omega) (id:=L[i].Id) (at_:=L[i].Until) (by
     cases hmg:Xb mm L[i].Id with
     | none=>rfl
     | some v=>exact absurd (hmm _ (by rw[hmg];simp)) c1)
    simp only[Bool.not_false,Bool.and_self,XK]
    rw[hr,Qc]
    refine⟨_,rfl,rfl,hm',g1,?_,λk D=>?_⟩
    ·rw[hpr,if_pos ⟨c1',c2⟩]
     exact g3.trans (D.append_right _)
    replace D:Xb r.2.2.2 k≠none:=D
    rw[g4,AB]at D
    by_cases e:k=L[i].Id
    ·exact⟨L[i],by rw[htk];exact List.mem_append_right _ (HH.2 rfl),e.symm⟩
    rw[if_neg e]at D
    obtain⟨y,h1,h2⟩:=hmm k D
    exact⟨y,by rw[htk];exact SZ _ h1,h2⟩
   rw[QZ c2]
   refine⟨_,rfl,rfl,hm',hq,?_,λk D=>?_⟩
   ·rw[hpr,if_neg λh=>c2 h.2];exact D
   obtain⟨y,h1,h2⟩:=hmm k D
   exact⟨y,by rw[htk];exact SZ _ h1,h2⟩) (λs hs=>by
  obtain⟨j,m,l,mm,t⟩:=s
  obtain⟨rfl,hm,hq,D,hmm⟩:=hs
  refine⟨(l,mm,t),?_,hq,D⟩
  show WQ L (L.length:Int) m l mm t=_
  unfold WQ
  rw[ltE];rfl) (0,[],[],[],[]) ⟨rfl,λk=>by simp[Xb],⟨⟨(λo h=>by cases h),(λe h=>by cases h)⟩,(λq h=>by cases h),λc _ h=>by cases h⟩,List.Perm.refl _,λk h=>absurd rfl h⟩
 obtain⟨r,hr,hq,D⟩:=h
 show((QQ (λst=>WQ L st.1 st.2.1 st.2.2.1 st.2.2.2.1 st.2.2.2.2) (0,[],[],[],[])).bind _)=_
 rw[hr,Qc]
 unfold HX IJ
 have hlen:r.1.length<=80:=by
  have:=D.length_eq
  rw[WS]at this
  have:=Qcx L L.length
  omega
 obtain⟨v,hv⟩:∃v,Jl r.1 r.2.1 r.2.2=some v:=by
  rcases QaA r.2.1 hq.h with⟨_,e⟩|⟨_,e⟩<;>exact⟨_,e⟩
 obtain⟨q,h4,h5⟩:=Qh9 (now:=now) S hq.h hq.k hS (hp.trans D.symm) hv.symm (out:=[]) (by simp;omega)
 rw[hv,Qc,h4,Qc]
 unfold MZ
 rw[Qc,h5,PT]
def UX (n:Ql)(m:L_ Bag):Prop:=Kh n 1024 m/\FP n m
def UX.len {n:Ql}{m:L_ Bag}(y:UX n m)(h:Ya n):Xc (Xc λ_=>True) m:=y.1.len h (by omega)
def Qeg {n:Ql}{m:L_ Bag}{c:Nat}(h:Ya n)(hm:Kh n c m)(hl:FP n m):UX n m:=by
 refine⟨⟨hm.1,λb hb=>?_⟩,hl⟩
 have D:=(hm.2 b hb).1
 refine⟨D,?_⟩
 obtain⟨j,hj,rfl⟩:=BX.1 hb
 have hj2:j<n.Places.length:=by have:=hm.1;omega
 by_cases c0:(m[j]).length=0
 ·omega
 have y:(m[j]).length-1<(m[j]).length:=by omega
 have h1:=QiE D.1 (a:=0) (λp hp=>(D.2 p hp).1) ((m[j]).length-1) y
 have h2:=Iu D.1.nd (XW y)
 have h3:=(D.2 _ (XW y)).2.1
 obtain⟨z,hz,hk⟩:=hl j _ _ (QR hj) (QR hj2) _ (by rw[h2];omega)
 have:=CW (GY _ _ h.k.1) hz
 omega
def Qkq {n:Ql}{m:L_ Bag}{o:Qk}(h:Ya n)(hg:UX n m)(ho:Yu n o):Qj (Dd n m o) λr=>r.2=0->UX n r.1/\YY n m o=some 0/\∃y,YC n o=some (y,0)/\Yr m y=some (r.1,0):=by
 obtain⟨hm,hl⟩:=hg
 have hpl:=h.pl
 have hm1:=hm.1
 obtain⟨⟨t,c⟩,hT,hmk⟩:=QmJ n m o 1024 h hm (by omega) ho
 refine⟨_,hT,λh0=>?_⟩
 replace h0:c=0:=h0
 subst h0
 obtain⟨hCk,y,hN,hL⟩:=Qjv hT
 obtain⟨hnd,hndl⟩:=CW (Oq n o h ho) hN rfl
 obtain⟨_,eL⟩:=(CW (VL n m y 1024 20 h hm hnd (by omega)) hL).1 rfl
 refine⟨Qeg h (hmk rfl) λj b p hb hp k hk=>?_,hCk,y,hN,hL⟩
 have hj:=(Xe.1 hp).1
 obtain⟨a,ha,ha1,ha2⟩:=TQ hm hj
 obtain⟨u,hu,hu1,hu2⟩:=TQ hnd hj
 obtain⟨p',D,hp2⟩:=eL j a u ha hu
 have D:t[j]? = some p':=D
 have hb:t[j]? = some b:=hb
 rw[hb]at D;cases D
 have q:=QiI (by omega) hp2
 have:=hu1.cnt k
 have:=q.2.2.2.2 k
 exact hl j a p ha hp k (by omega)
def Qkr {n:Ql}{m:L_ Bag}{o:Qk}(h:Ya n)(y:UX n m)(ho:Yu n o):Qj (EU n m o) λr=>r.2=0->UX n r.1:=by
 obtain⟨⟨t,c⟩,hT,D⟩:=QmK n m o 1024 h y.1 (by omega) ho
 have hl:=CW (Qlm n m o 1024 h y.1 y.2 (by omega) ho) hT
 exact⟨_,hT,λh0=>Qeg h (D h0) (hl h0)⟩
def Qks {n:Ql}{m:L_ Bag}{o:Qk}(h:Ya n)(hg:UX n m)(ho:Yu n o):Qj (KP n m o) λr=>r.2=0->UX n r.1:=by
 unfold KP
 refine T0 (Oq n o h ho) λy hy=>?_
 refine T1 (λhc=>T2 λh=>absurd h (by simpa using hc)) λhc2=>?_
 obtain⟨hym,hyl⟩:=hy (by simpa using hc2)
 obtain⟨r,hr,hmk⟩:=QgC n m y.1 1024 20 h hg.1 hym (by omega)
 have hsp:=CW (SF n m y.1 1024 20 h hg.1 hym (by omega)) hr
 rw[hr,Qc]
 refine T2 λh0=>Qeg h (hmk h0) λj b p hb hp k hk=>?_
 obtain⟨_,ze⟩:=hsp.1 h0
 have hj:j<n.Places.length:=(Xe.1 hp).1
 obtain⟨u,hu,hu1,hu2⟩:=TQ hg.1 hj
 obtain⟨v,hv,hv1,hv2⟩:=TQ hym hj
 obtain⟨s,D,hs2⟩:=ze j u v hu hv
 have D:r.1[j]? = some s:=D
 have hb:r.1[j]? = some b:=hb
 rw[hb]at D;cases D
 have q:=Qh1 (by omega) hs2
 by_cases c0:0<QV u k
 ·exact hg.2 j u p hu hp k c0
 have:=hu1.cnt k
 have:=q.2.2.2 k
 exact hyl j v p hv hp k (by omega)
def Qjz {s:L_ Qw}(h:s.length<=1000000000):YX s=some s:=by
 unfold YX
 rw[FN (by simp;omega),Qc,PT]
structure QjA (c:QT):Prop where
 m:c.M.length<=100000
 b:∀b∈c.M,b.length<=100000
 i:c.Items.length<=1000
 f:∀x∈c.Items,x.Mode.Vars.length<=20000/\x.Mode.Ins.length<=20000/\x.Mode.Outs.length<=20000
def QjA.fit {c:QT}(h:QjA c):∀x∈c.Items,TR x:=λx y=>by have:=h.f x y;unfold TR;omega
def ND {c:QT}(h:QjA c):Yp c=some c:=by
 have mx:(1000:Nat)<=maxLen:=by decide
 have hi:=h.i
 unfold Yp
 have hM:=h.m
 rw[SE c.M (by omega) (λb hb=>by have:=h.b b hb;omega),Qc,Qjz (by omega),Qc]
 have D:Qj (QQ (λst=>Gz c.Items st.1 st.2) (0,c.Items)) λq=>q=c.Items:=by
  refine Qj.up c.Items.length (λst=>st.1) (λst=>st.2=c.Items) rfl rfl (λi st y hn hJ=>?_)
  obtain⟨x,l⟩:=st
  replace y:x=(i:Int):=y
  subst y
  replace hJ:l=c.Items:=hJ
  subst hJ
  show Qj (Gz c.Items i c.Items) _
  unfold Gz
  refine T1 (λhc=>?_) (λ_=>T2 (Qu rfl))
  simp only[QM]at hc
  have i1:i<c.Items.length:=by omega
  have hx:=QR i1
  have hf:=h.f _ (XW i1)
  rw[XH,hx,Qc,Ot (by omega),Qc,Ot (by omega),Qc,Ot (by omega),Qc,Qc]
  refine T2 (QP ⟨i1,QE i1 (by omega),?_⟩)
  show c.Items.set (i:Int).toNat _=c.Items
  rw[DE]
  exact List.ext_getElem? λj=>by
   rw[List.getElem?_set]
   split
   ·rename_i e;subst e;rw[hx]
   rfl
 obtain⟨q,q1,rfl⟩:=D
 rw[q1,Qc];rfl
def Rm (n:Ql)(o:Qk):Prop:=(∃a,YC n o=some (a,0))/\∃b,Uo n o=some (b,0)
structure Ki (n:Ql) (c:QT):Prop where
 g:UX n c.M
 n1:1<=c.Next/\c.Next<=1099511627776
 n2:0<=c.Now/\c.Now<=1099511627776
 up:upF c.Next 0 c.Items=true
 len:c.Items.length<=64
 f:∀x∈c.Items,Yu n x.Mode/\Rm n x.Mode
def Ki.lens {n:Ql}{c:QT}(h:Ya n)(y:Ki n c):QjA c:=by
 have hpl:=h.pl
 have hl:=y.len
 exact⟨by have:=y.g.1.1;omega,λb D=>by have:=(y.g.1.2 b D).2;omega,by omega,λx hx=>by have:=(y.f x hx).1;unfold Yu at this;omega⟩
def Qkt {n:Ql}{x:Qw}(h:Ya n)(hm:Yu n x.Mode):∃b,Ca x n=some b/\(b=false↔Rm n x.Mode):=by
 obtain⟨⟨a,p⟩,h1,_⟩:=Oq n x.Mode h hm
 obtain⟨⟨b,q⟩,h2,_⟩:=Qgj n x.Mode h hm
 unfold Ca Rm
 rw[h1,h2,Qc,Qc]
 refine⟨_,rfl,?_⟩
 simp only[KA,JZ]
 constructor
 ·rintro ⟨rfl,rfl⟩;exact⟨⟨a,rfl⟩,b,rfl⟩
 rintro ⟨⟨a',y⟩,b',D⟩
 simp only[Option.some.injEq,Prod.mk.injEq]at y D
 exact⟨y.2,D.2⟩
def QjB {n:Ql}(h:Ya n){l:L_ Qw}(hl:l.length<=maxLen)(hm:∀x∈l,Yu n x.Mode):∃b,YR l n=some b/\(b=false↔∀x∈l,Rm n x.Mode):=by
 unfold YR KJ
 have main:Qj (QQ (λst=>YQ l n st) 0) λq=>(∀r,q=.inl r->0<=r/\∃x∈l,¬Rm n x.Mode)/\(q=.inr ()->∀x∈l,Rm n x.Mode):=by
  refine Qj.up l.length (λst=>st) (λst=>∀(j:Nat) x,(j:Int)<st->l[j]? = some x->Rm n x.Mode) rfl (λj x hj=>by omega) (λi st hi hn hJ=>?_)
  replace hi:st=(i:Int):=hi
  subst hi
  show Qj (YQ l n i) _
  unfold YQ
  refine T1 (λhc=>?_) (λhc=>T2 (Qu ⟨λr e=>(by cases e),λ_ x D=>?_⟩))
  ·simp only[QM]at hc
   have i1:i<l.length:=by omega
   have D:=QR i1
   obtain⟨b,hb,hb2⟩:=Qkt h (hm _ (XW i1))
   rw[XH,D,Qc,hb,Qc]
   cases b with
   | true=>exact T2 (Qu ⟨λr e=>by cases e;exact⟨by omega,_,XW i1,λhB=>by have:=hb2.2 hB;cases this⟩,λe=>by cases e⟩)
   | false=>
    refine T2 (QP ⟨i1,QE i1 hl,λj x hj y=>?_⟩)
    rw[QE i1 hl]at hj
    by_cases cj:j=i
    ·subst cj;rw[D]at y;cases y;exact hb2.1 rfl
    exact hJ j x (by omega) y
  simp only[Xo]at hc
  obtain⟨j,hj,rfl⟩:=BX.1 D
  exact hJ j _ (by omega) (QR hj)
 obtain⟨q,q1,q2,q3⟩:=main
 rw[q1,Qc]
 rcases q with r | q
 ·obtain⟨h0,x,D,hB⟩:=q2 r rfl
  exact⟨true,by show some (decide (0<=r))=_;rw[QN h0],⟨λe=>(by cases e),λe=>absurd (e x D) hB⟩⟩
 exact⟨false,rfl,λ_=>q3 rfl,λ_=>rfl⟩
def TS {n:Ql}{c:QT}(h:Ya n)(y:Ki n c):DX n c=some true:=by
 have hL:=y.lens h
 have hi:=hL.i
 have mx:(1000:Nat)<=maxLen:=by decide
 obtain⟨b,b1,b2⟩:=QjB h (l:=c.Items) (by omega) λx D=>(y.f x D).1
 have hb:=b2.2 λx D=>(y.f x D).2
 subst hb
 have h1:=y.n1
 have h2:=y.n2
 have hlen:=y.len
 unfold DX PI
 rw[Qg5 h y.g.1 (by omega) y.g.2,Qc,show(!true)=false from rfl,QJ,QZ (by omega),QJ,QZ (by omega),QJ,QZ (by omega),QJ,QZ (by omega),QJ,
  Qlr (by omega),Qc,y.up,QN (by omega)]
 show IG c n false=_
 unfold IG
 rw[QJ,b1];rfl
def RB (b:Xp):Prop:=1<=b.Most/\b.Most<=16/\1<=b.Enough/\b.Enough<=b.Most/\0<=b.Open/\b.Open<=b.Most/\0<=b.Done/\b.Done<=b.Most/\0<=b.Failed/\b.Failed<=b.Most/\1<=b.Open+b.Done+b.Failed/\b.Open+b.Done+b.Failed<=b.Most
instance (b : Xp):Decidable (RB b):=Classical.propDecidable _
def Qia {b:Xp}(h:0<=b.Open/\b.Open<=16)(y:0<=b.Done/\b.Done<=16)(D:0<=b.Failed/\b.Failed<=16):He b=some (b.Open+b.Done+b.Failed):=by
 unfold He
 rw[Yg (n:=b.Open+b.Done) (by omega),Yg (by omega)]
def TT (b:Xp):KF b=some (decide (RB b)):=by
 unfold KF MK
 simp only[HF,Qc]
 have hl:=QhQ (body:=λst=>Jj b st) (l:=[b.Open,b.Done,b.Failed]) (λi=>(i:Int)) (λ_ x=>!(decide (0<=x)&&decide (x<=b.Most))) (.inl ()) (.inr ()) (λi x hi hx=>by
    show Jj b (i:Int)=_
    unfold Jj
    rw[ltN hx,Qec hx,QE hi (by show 3<=_;decide)]
    simp only[XK,Qc,HF]
    cases (!(decide (0<=x)&&decide (x<=b.Most)))<;>rfl) (by
    show Jj b (([b.Open,b.Done,b.Failed].length:Nat):Int)=_
    unfold Jj
    rw[ltE];rfl) (s0:=0) rfl
 have no:∀c,¬RB b->c=true->Am b c=some (decide (RB b)):=λc h1 h2=>by subst h2;rw[QZ h1];rfl
 by_cases y:1<=b.Most/\b.Most<=16
 ·rw[QN y.1,QN y.2,show(!(true&&true))=false from rfl,QJ,Qc]
  by_cases D:1<=b.Enough/\b.Enough<=b.Most
  ·rw[QN D.1,QN D.2,show(!(true&&true))=false from rfl]
   unfold Am
   rw[QJ,hl]
   have ha:QdY (λ(_:Nat) (x:Int)=>!(decide (0<=x)&&decide (x<=b.Most))) 0 [b.Open,b.Done,b.Failed]=!decide ((0<=b.Open/\b.Open<=b.Most)/\(0<=b.Done/\b.Done<=b.Most)/\(0<=b.Failed/\b.Failed<=b.Most)):=by
    simp only[QdY,Bool.or_false]
    rw[Zw]
    simp only[KR,Wy,SV,Xo]
    omega
   rw[ha]
   by_cases c3:(0<=b.Open/\b.Open<=b.Most)/\(0<=b.Done/\b.Done<=b.Most)/\(0<=b.Failed/\b.Failed<=b.Most)
   ·rw[QN c3]
    show Fw b=_
    unfold Fw
    rw[Qia (by omega) (by omega) (by omega),Qc,HF,Qc]
    congr 1
    rw[Zw]
    simp only[QL,QM]
    unfold RB
    constructor
    ·intro h;refine⟨?_,?_,?_,?_,?_,?_,?_,?_,?_,?_,?_,?_⟩<;>omega
    intro h;omega
   rw[QZ c3,QZ (λh:RB b=>c3 (by unfold RB at h;omega))];rfl
  exact no _ (λh=>D (by unfold RB at h;omega)) (by rw[Wy,SV];simp only[Xo];omega)
 have hb:(!(decide (1<=b.Most)&&decide (b.Most<=16)))=true:=by rw[Wy,SV];simp only[Xo];omega
 rw[hb]
 exact no _ (λh=>y (by unfold RB at h;omega)) rfl
def Qeh (b:Xp):Dc b=some (decide (RB b)&&(decide (b.Enough<=b.Done)||decide (b.Open=0))):=by
 unfold Dc NS NT
 rw[TT,Qc,IN]
 cases decide (RB b)<;>cases decide (b.Enough<=b.Done)<;>rfl
def Qcf {b:Xp}:NC b=true↔RB b/\b.Done<b.Enough/\b.Open≠0:=by
 unfold NC
 rw[TT,Qeh]
 simp only[OR,QL,QM,Wy,SV,KA,Xo]
 constructor
 ·rintro ⟨y,h⟩
  rcases h with h | h
  ·exact absurd y h
  exact⟨y,by omega,h.2⟩
 rintro ⟨y,h,D⟩;exact⟨y,.inr ⟨by omega,D⟩⟩
def Qku {b:Xp}(hb:NC b=true)(v:QB):∃e y,Ez v b=some (e,y)/\(e=0->RB y)/\y.Most=b.Most:=by
 obtain⟨h1,h2,h3⟩:=Qcf.1 hb
 have h:∀w:Int,∃e y,CQ b w=some (e,y)/\(w<=2->0<=w->e=0->RB y)/\y.Most=b.Most:=λw=>by
  unfold CQ
  rw[TT,Qeh,QN h1,Qc,Qc,QZ (by omega),QZ h3]
  show ∃e y,(bif w==0 then _ else _)=some (e,y)/\_
  unfold RB at h1
  by_cases w0:w=0
  ·rw[IN,QN w0,XK,Qia (by omega) (by omega) (by omega),Qc,IN]
   by_cases cm:b.Open+b.Done+b.Failed=b.Most
   ·rw[QN cm];exact⟨_,_,rfl,λ_ _ e=>(by cases e),rfl⟩
   rw[QZ cm,Yg (by omega)]
   exact⟨_,_,rfl,λ_ _ _=>by unfold RB;simp only;omega,rfl⟩
  rw[IN,QZ w0,QJ,IN,IN]
  by_cases w1:w=1
  ·rw[QN w1,XK]
   unfold EX EW
   simp only
   rw[Yg (n:=b.Open-1) (by omega),Yg (n:=b.Done+1) (by omega),Yg (n:=b.Failed-1) (by omega),Yg (n:=b.Failed-1+1) (by omega)]
   exact⟨_,_,rfl,λ_ _ _=>by unfold RB;simp only;omega,rfl⟩
  rw[QZ w1,QJ]
  by_cases w2:w=2
  ·rw[QN w2,XK]
   unfold EX EW
   rw[Yg (n:=b.Open-1) (by omega),Yg (n:=b.Failed+1) (by omega)]
   exact⟨_,_,rfl,λ_ _ _=>by unfold RB;simp only;omega,rfl⟩
  rw[QZ w2];exact⟨_,_,rfl,λu1 D _=>absurd D (by omega),rfl⟩
 unfold Ez Qak Vq Vr
 obtain⟨e0,b0,s0,t0,u0⟩:=h 0
 obtain⟨e1,b1,s1,t1,u1⟩:=h 1
 obtain⟨e2,b2,s2,t2,D⟩:=h 2
 rw[s0,s1,s2]
 cases v.call.Do==4 with
 | true=>exact⟨_,_,rfl,t0 (by omega) (by omega),u0⟩
 | false=>
  cases v.call.Do==2 with
  | true=>exact⟨_,_,rfl,t1 (by omega) (by omega),u1⟩
  | false=>exact⟨_,_,rfl,t2 (by omega) (by omega),D⟩
def Qlx (m:Int×Int×Int)(k:Int):∃e b,BD m k=some (e,b)/\(e=0->NC b=true):=by
 have k3:∀m:Int×Int×Int,∃e b,Dl k m=some (e,b)/\(e=0->NC b=true):=λm=>by
  unfold Dl MX Au
  simp only[HF,Qc]
  by_cases h:m.1<1
  ·rw[QN h];exact⟨_,_,rfl,λe=>by cases e⟩
  rw[QZ h,QJ]
  by_cases y:m.1<=m.2.1/\m.2.1<=16
  ·rw[QN y.1,QN y.2,show(!(true&&true))=false from rfl,QJ]
   by_cases D:1<=m.2.2/\m.2.2<=m.2.1
   ·rw[QN D.1,QN D.2,show(!(true&&true))=false from rfl,QJ,Qc]
    by_cases c4:m.1<=k/\k<=m.2.1
    ·rw[QN c4.1,QN c4.2,show(!(true&&true))=false from rfl,QJ]
     exact⟨_,_,rfl,λ_=>Qcf.2 (by unfold RB;simp only;omega)⟩
    have:(!(decide (m.1<=k)&&decide (k<=m.2.1)))=true:=by rw[Wy,SV];simp only[Xo];omega
    rw[this];exact⟨_,_,rfl,λe=>by cases e⟩
   have:(!(decide (1<=m.2.2)&&decide (m.2.2<=m.2.1)))=true:=by rw[Wy,SV];simp only[Xo];omega
   rw[this];exact⟨_,_,rfl,λe=>by cases e⟩
  have:(!(decide (m.1<=m.2.1)&&decide (m.2.1<=16)))=true:=by rw[Wy,SV];simp only[Xo];omega
  rw[this];exact⟨_,_,rfl,λe=>by cases e⟩
 unfold BD
 cases ((m.1==0)&&((m.2.1==0)&&(m.2.2==0)))with
 | true=>exact k3 _
 | false=>exact k3 _
def Qly {n:Ql}{m:L_ Bag}{o:Qk}{a:L_ Bag}(h:Ya n)(hm:Xc (Xc λ_=>True) m)(ho:Yu n o)(hc:YY n m o=some 0)(ha:YC n o=some (a,0)):Rm n o/\∃e,idx n.Tasks o.Task=some e/\e∈n.Tasks:=by
 obtain⟨_,e,he,_,_,_,b,y,_,_,D⟩:=HC.1 ((HD h hm ho).1 hc)
 obtain⟨k1,k2,_⟩:=NB h y
 rw[he]at k1;cases k1
 refine⟨⟨⟨a,ha⟩,?_⟩,_,he,k2⟩
 unfold Jk at y
 obtain⟨⟨x1,x2⟩,hx,y⟩:=Qp y
 rcases Xn y with⟨c,y⟩|⟨c,y⟩
 ·simp only[Option.some.injEq,Prod.mk.injEq]at y
  simp only[y.1]at c;cases c
 simp only[JZ]at c
 subst c
 rw[he,Qc]at y
 simp only[Option.some.injEq,Prod.mk.injEq,true_and]at y
 unfold Yf at D
 obtain⟨⟨y1,y2⟩,hy,D⟩:=Qp D
 simp only[Option.some.injEq]at D
 subst D
 refine⟨y1,?_⟩
 unfold Uo
 rw[hx,Qc,show((0:Int) != 0)=false from rfl,QJ,he,Qc]
 rw[<-y]at hy
 simp only at hy
 rw[hy];rfl
def OQ {n:Ql}{m:L_ Bag}{o:Qk}(h:Ya n)(hm:Xc (Xc λ_=>True) m)(ho:Yu n o)(hc:YY n m o=some 0):∃e,idx n.Tasks o.Task=some e/\e∈n.Tasks:=by
 obtain⟨_,e,y,_,_,_,b,hb,_⟩:=HC.1 ((HD h hm ho).1 hc)
 obtain⟨D,k2,_⟩:=NB h hb
 rw[y]at D;cases D
 exact⟨_,y,k2⟩
structure EOk (n:Ql):Prop where
 h:Ya n
 a:∀t∈n.Tasks,0<=t.After/\t.After<=65536
 j:∀t∈n.Tasks,t.Join≠3
def QiK (l:L_ Qw)(id:Int):(dropL l id).length<=l.length:=Zy _ _
def Zv {l:L_ Qw}(x:Qw):(Fm l x).length=(dropL l x.Id).length+1:=Qh4 x _
def Ki.drop {n:Ql}{c:QT}(h:Ki n c){M:L_ Bag}(D:UX n M)(id:Int):Ki n ⟨M,dropL c.Items id,c.Next,c.Now⟩:=by
 obtain⟨u1,u2⟩:=Uc.1 h.up
 refine⟨D,h.n1,h.n2,Uc.2 ⟨u1.drop id,λx y=>u2 x (Cq.1 y).1⟩,?_,λx y=>h.f x (Cq.1 y).1⟩
 have:=QiK c.Items id
 have:=h.len
 show(dropL c.Items id).length<=64
 omega
def Ki.put {n:Ql}{c:QT}(D:Ki n c){M:L_ Bag}(hM:UX n M){x:Qw}{nx:Int}(h1:c.Next<=nx)(h2:nx<=1099511627776)(hx:0<x.Id/\x.Id<nx/\0<=x.Until/\NC x.Batch=true)(hm:Yu n x.Mode/\Rm n x.Mode)(hl:(Fm c.Items x).length<=64):Ki n ⟨M,Fm c.Items x,nx,c.Now⟩:=by
 obtain⟨u1,u2⟩:=Uc.1 D.up
 have n1:=D.n1
 refine⟨hM,⟨by show 1<=nx;omega,h2⟩,D.n2,Uc.2 ⟨u1.put x,λy h=>?_⟩,hl,λy h=>?_⟩
 ·rcases Ro.1 h with rfl | ⟨h,_⟩
  ·exact hx
  have:=u2 y h
  exact⟨this.1,by show y.Id<nx;omega,this.2.2⟩
 rcases Ro.1 h with rfl | ⟨h,_⟩
 ·exact hm
 exact D.f y h
def Ki.fit {n:Ql}{c:QT}(h:Ya n)(y:Ki n c):∀x∈c.Items,TR x:=(y.lens h).fit
def Ll {n:Ql}{c:QT}(h:Ki n c):c.Items.length<=maxLen:=by
 have:=h.len
 have mx:(64:Nat)<=maxLen:=by decide
 omega
def Qgk {n:Ql}{c:QT}(hc:Ki n c)(k:Xt):∃e x,GC ⟨n,c,k⟩=some (e,x)/\((e=0/\x∈c.Items/\x.Id=k.Id)\/(e≠0/\(∀y∈c.Items,y.Id≠k.Id)/\(0<k.Id->k.Id<c.Next->e=12))):=by
 have hm:=Ll hc
 unfold GC
 by_cases hx:∃x∈c.Items,x.Id=k.Id
 ·obtain⟨x,hx,he⟩:=hx
  obtain⟨i,y,h1,h2,h3⟩:=Qcd hm hx he
  show ∃e x,((Wt c.Items k.Id).bind _)=_/\_
  rw[h1,Qc,QN (by omega),XK,XH,h2]
  exact⟨0,y,rfl,.inl ⟨rfl,XU h2,h3⟩⟩
 have D:∀y∈c.Items,y.Id≠k.Id:=λy hy e=>hx ⟨y,hy,e⟩
 show ∃e x,((Wt c.Items k.Id).bind _)=_/\_
 rw[Qko hm D,Qc,QZ (by omega),QJ]
 by_cases c1:0<k.Id
 ·by_cases c2:k.Id<c.Next
  ·simp only[QN c1,QN c2]
   exact⟨12,_,rfl,.inr ⟨by omega,D,λ_ _=>rfl⟩⟩
  simp only[QN c1,QZ c2]
  exact⟨3,_,rfl,.inr ⟨by omega,D,λ_ h=>absurd h c2⟩⟩
 simp only[QZ c1]
 exact⟨3,_,rfl,.inr ⟨by omega,D,λh=>absurd h c1⟩⟩
def Qkv {n:Ql}{c:QT}(h:Ya n)(y:Ki n c)(k:Xt){p:Qw}(hp:Yu n p.Mode):∃e v,Ar ⟨n,c,k⟩ p=some (e,v)/\(e=0->∃M,EU n c.M p.Mode=some (M,0)/\UX n M/\v=⟨n,⟨M,dropL c.Items p.Id,c.Next,c.Now⟩,k⟩):=by
 obtain⟨⟨M,e⟩,hG,hg⟩:=Qkr h y.g hp
 have hl:=y.len
 unfold Ar
 simp only
 rw[hG,Qc,HE]
 by_cases D:e=0
 ·subst D
  rw[QN rfl,show(!true)=false from rfl,QJ,Zu (y.fit h) (by omega) (Ll y)]
  exact⟨0,_,rfl,λ_=>⟨M,rfl,hg rfl,rfl⟩⟩
 simp only[QZ D]
 exact⟨e,_,rfl,λh=>absurd h D⟩
def Qcg {n:Ql}{c:QT}(h:Ya n)(y:Ki n c)(k:Xt){p:Qw}(hp:Yu n p.Mode):∃e v,Jc ⟨n,c,k⟩ p=some (e,v)/\(e=0->∃M,KP n c.M p.Mode=some (M,0)/\UX n M/\v=⟨n,⟨M,dropL c.Items p.Id,c.Next,c.Now⟩,k⟩):=by
 obtain⟨⟨M,e⟩,hG,hg⟩:=Qks h y.g hp
 have hl:=y.len
 unfold Jc
 simp only
 rw[hG,Qc,HE]
 by_cases D:e=0
 ·subst D
  rw[QN rfl,show(!true)=false from rfl,QJ,Zu (y.fit h) (by omega) (Ll y)]
  exact⟨0,_,rfl,λ_=>⟨M,rfl,hg rfl,rfl⟩⟩
 simp only[QZ D]
 exact⟨e,_,rfl,λh=>absurd h D⟩
inductive Eff (n:Ql) (c:QT) (k:Xt):QT->Qz->Prop
 | start (x:Qw) (e:QS) (need M:List Bag) (hd:k.Do=1) (hx:x.Id=c.Next) (hm:x.Mode=k.Mode) (he:idx n.Tasks k.Mode.Task=some e) (hu:x.Until=if 0<e.After then c.Now+e.After else 0) (hN:YC n k.Mode=some (need,0)) (hT:Yr c.M need=some (M,0)):Eff n c k ⟨M,Fm c.Items x,c.Next+1,c.Now⟩ ⟨0,x.Id,[]⟩
 | keep (x y:Qw) (hd:k.Do≠1) (hy:y∈c.Items) (hx:x.Id=y.Id):Eff n c k ⟨c.M,Fm c.Items x,c.Next,c.Now⟩ ⟨0,x.Id,[]⟩
 | shut (y:Qw) (M:List Bag) (hd:k.Do≠1) (hy:y∈c.Items) (hB:k.Do=5->KP n c.M y.Mode=some (M,0)) (hk:y.Id=k.Id):Eff n c k ⟨M,dropL c.Items y.Id,c.Next,c.Now⟩ ⟨0,y.Id,[y.Id]⟩
 | tick (ds:List Int) (M:List Bag) (hd:k.Do=6) (hn:ds.Nodup) (hi:∀d∈ds,∃x∈c.Items,x.Id=d) (hD:CR c.Items (c.Now+1)=some ds):Eff n c k ⟨M,ds.foldl dropL c.Items,c.Next,c.Now+1⟩ ⟨0,0,ds⟩
def Qiw {n:Ql}{c:QT}(h:Ya n)(hc:Ki n c)(k:Xt)(hd:k.Do≠1)(hd5:k.Do≠5):∃e a v,Gl ⟨n,c,k⟩=some (e,a,v)/\(e=0->Ki n v.now/\Eff n c k v.now a)/\((∀y∈c.Items,y.Id≠k.Id)->0<k.Id->k.Id<c.Next->e=12):=by
 obtain⟨e,x,hf,hx⟩:=Qgk hc k
 have hl:=hc.len
 unfold Gl
 rw[hf,Qc]
 rcases hx with⟨rfl,hx,hi⟩|⟨h0,D,h12⟩
 ·obtain⟨u1,u2⟩:=Uc.1 hc.up
  have hxx:=u2 x hx
  obtain⟨e,b,hb,hr,_⟩:=Qku hxx.2.2.2 ⟨n,c,k⟩
  obtain⟨m1,m2⟩:=hc.f x hx
  rw[show((0:Int)==0)=true from rfl,XK,hb,Qc]
  have n12:∀{q:Prop},(∀y∈c.Items,y.Id≠k.Id)->q:=λD=>absurd hi (D x hx)
  show ∃e' a v,Jr ⟨n,c,k⟩ e ⟨x.Id,x.Mode,b,x.Until⟩=_/\_
  unfold Jr
  rw[HE]
  by_cases c0:e=0
  ·rw[QN c0,show(!true)=false from rfl,QJ]
   simp only
   rw[Qeh,Qc,QN (hr c0)]
   have hB:=hr c0
   by_cases c1:b.Enough<=b.Done\/b.Open=0
   ·have:(true&&(decide (b.Enough<=b.Done)||decide (b.Open=0)))=true:=by
     rcases c1 with c1 | c1
     ·rw[QN c1];rfl
     rw[QN c1,Bool.or_true];rfl
    rw[this,show(!true)=false from rfl,QJ]
    have hw:∃w,OL b=some w:=by
     unfold OL VZ Za
     rw[TT]
     cases decide (RB b)<;>exact⟨_,rfl⟩
    obtain⟨w,hw⟩:=hw
    rw[hw,Qc]
    cases w with
    | true=>
     obtain⟨e2,v,hv,hv0⟩:=Qkv h hc k (p:=⟨x.Id,x.Mode,b,x.Until⟩) m1
     rw[XK,hv]
     refine⟨_,_,_,rfl,λhz=>?_,λD=>n12 D⟩
     obtain⟨M,g1,g2,rfl⟩:=hv0 hz
     exact⟨hc.drop g2 _,.shut x M hd hx (λh=>absurd h hd5) hi⟩
    | false=>
     obtain⟨e2,v,hv,hv0⟩:=Qcg h hc k (p:=⟨x.Id,x.Mode,b,x.Until⟩) m1
     rw[QJ,hv]
     refine⟨_,_,_,rfl,λhz=>?_,λD=>n12 D⟩
     obtain⟨M,g1,g2,rfl⟩:=hv0 hz
     exact⟨hc.drop g2 _,.shut x M hd hx (λh=>absurd h hd5) hi⟩
   have:(true&&(decide (b.Enough<=b.Done)||decide (b.Open=0)))=false:=by
    rw[QZ (λh=>c1 (.inl h)),QZ (λh=>c1 (.inr h))];rfl
   have hg:NC b=true:=Qcf.2 ⟨hB,by omega,λh=>c1 (.inr h)⟩
   have hF:=hc.fit h x hx
   rw[this,show(!false)=true from rfl,XK,Qh5 (hc.fit h) (x:=⟨x.Id,x.Mode,b,x.Until⟩) hF (by omega) (Ll hc)]
   refine⟨_,_,_,rfl,λ_=>⟨?_,.keep ⟨x.Id,x.Mode,b,x.Until⟩ x hd hx rfl⟩,λD=>n12 D⟩
   refine hc.put hc.g (x:=⟨x.Id,x.Mode,b,x.Until⟩) (Int.le_refl _) hc.n1.2 ⟨hxx.1,hxx.2.1,hxx.2.2.1,hg⟩ ⟨m1,m2⟩ ?_
   have:=Ou u1 hx
   have:=Zv (l:=c.Items) ⟨x.Id,x.Mode,b,x.Until⟩
   simp only at this
   omega
  simp only[QZ c0]
  exact⟨e,_,_,rfl,λh=>absurd h c0,λD=>n12 D⟩
 rw[IN,QZ h0,QJ]
 unfold Jr
 rw[HE,QZ h0]
 exact⟨e,_,_,rfl,λh=>absurd h h0,λ_=>h12⟩
def Qkw {n:Ql}{c:QT}(h:Ya n)(hc:Ki n c)(k:Xt)(hd:k.Do=5):∃e a v,KX ⟨n,c,k⟩=some (e,a,v)/\(e=0->Ki n v.now/\Eff n c k v.now a)/\((∀y∈c.Items,y.Id≠k.Id)->0<k.Id->k.Id<c.Next->e=12):=by
 obtain⟨e,x,hf,hx⟩:=Qgk hc k
 unfold KX
 rw[hf,Qc,HE]
 rcases hx with⟨rfl,hx,hi⟩|⟨h0,D,h12⟩
 ·obtain⟨m1,m2⟩:=hc.f x hx
  obtain⟨e2,v,hv,hv0⟩:=Qcg h hc k (p:=x) m1
  rw[QN rfl,show(!true)=false from rfl,QJ,hv]
  refine⟨_,_,_,rfl,λhz=>?_,λD=>absurd hi (D x hx)⟩
  obtain⟨M,g1,g2,rfl⟩:=hv0 hz
  exact⟨hc.drop g2 _,.shut x M (by omega) hx (λ_=>g1) hi⟩
 simp only[QZ h0]
 exact⟨e,_,_,rfl,λh=>absurd h h0,λ_=>h12⟩
def Qkx {n:Ql}{c:QT}(H:EOk n)(y:Ki n c)(k:Xt)(D:Yu n k.Mode)(hd:k.Do=1):∃e a v,Wo ⟨n,c,k⟩=some (e,a,v)/\(e=0->Ki n v.now/\Eff n c k v.now a):=by
 have h:=H.h
 have hl:=y.len
 have n1:=y.n1
 have n2:=y.n2
 obtain⟨r,hr,_⟩:=QiH n c.M k.Mode h (y.g.1.len h (by decide)) D
 unfold Wo
 simp only
 rw[hr,Qc,HE]
 by_cases c0:r=0
 case neg=>
  simp only[QZ c0]
  exact⟨r,_,_,rfl,λh=>absurd h c0⟩
 subst c0
 rw[QN rfl,show(!true)=false from rfl,QJ]
 obtain⟨⟨M,e⟩,hT,hG⟩:=Qkq h y.g D
 obtain⟨⟨need,e2⟩,hN,_⟩:=Oq n k.Mode h D
 obtain⟨t,ht,htm⟩:=OQ h (y.g.1.len h (by decide)) D hr
 have hR:DZ n c.M k.Mode 64=some 1:=by
  unfold DZ
  rw[hr,Qc,show((0:Int) != 0)=false from rfl,QJ,ht,Qc,HE,QZ (H.j t htm)];rfl
 rw[hR,Qc,show((1:Int) != 1)=false from rfl,QJ,ht,Qc]
 obtain⟨q,b,hb,hb0⟩:=Qlx t.Many k.Num
 rw[hb,Qc,HE]
 by_cases c1:q=0
 case neg=>
  simp only[QZ c1]
  exact⟨q,_,_,rfl,λh=>absurd h c1⟩
 subst c1
 have hgb:=hb0 rfl
 rw[QN rfl,show(!true)=false from rfl,QJ]
 by_cases c2:64<=(c.Items.length:Int)
 ·rw[QN c2];exact⟨2,_,_,rfl,λh=>by cases h⟩
 rw[QZ c2,QJ,IN]
 by_cases c3:c.Next=1099511627776
 ·rw[QN c3];exact⟨1,_,_,rfl,λh=>by cases h⟩
 rw[QZ c3,QJ]
 have hA:=H.a t htm
 obtain⟨u1,u2⟩:=Uc.1 y.up
 have k1:∀u:Int,0<=u->(u=if 0<t.After then c.Now+t.After else 0)->∃e a v,Jp ⟨n,c,k⟩ ⟨c.Next,k.Mode,b,u⟩=some (e,a,v)/\(e=0->Ki n v.now/\Eff n c k v.now a):=λu hu he=>by
  unfold Jp
  simp only
  rw[hT,Qc,HE]
  by_cases c4:e=0
  ·subst c4
   obtain⟨g1,g2,need',g3,g4⟩:=hG rfl
   have hF:TR (⟨c.Next,k.Mode,b,u⟩:Qw):=by have:=D;unfold Yu at this;unfold TR;simp only;omega
   rw[QN rfl,show(!true)=false from rfl,QJ,Qh5 (y.fit h) hF (by omega) (Ll y),Yg (by omega)]
   refine⟨_,_,_,rfl,λ_=>⟨?_,.start ⟨c.Next,k.Mode,b,u⟩ t need' M hd rfl rfl ht he g3 g4⟩⟩
   refine y.put g1 (by omega) (by omega) (x:=⟨c.Next,k.Mode,b,u⟩) ⟨by show 0<c.Next;omega,by show c.Next<c.Next+1;omega,hu,hgb⟩ ⟨D,(Qly h (y.g.1.len h (by decide)) D g2 g3).1⟩ ?_
   have:=Zv (l:=c.Items) ⟨c.Next,k.Mode,b,u⟩
   have:=QiK c.Items c.Next
   simp only at *
   omega
  simp only[QZ c4]
  exact⟨e,_,_,rfl,λh=>absurd h c4⟩
 by_cases c5:0<t.After
 ·rw[QN c5,XK,Yg (by omega)]
  exact k1 _ (by omega) (by rw[if_pos c5])
 rw[QZ c5,QJ]
 exact k1 _ (by omega) (by rw[if_neg c5])
end Go.Proofs
