/- A part of the proof. -/
import Derived.Test.YtopbdpofkfimkaaGreatDoorS2P1
import Derived.Test.YtopbdpofkfimkaaGreatDoorS2P1
import Derived.Test.YtopbdpofkfimkaaGreatDoorS2P1
import Derived.Test.YtopbdpofkfimkaaGreatDoorS2P1
import Derived.Test.YtopbdpofkfimkaaGreatDoorS2P1
import Derived.KernelRfl
import Derived.Test.YtopbdpofkfimkaaGreatDoorS2P1
import Derived.Test.YtopbdpofkfimkaaGreatDoorS2XPlA
import Derived.Test.YtopbdpofkfimkaaGreatDoorS2T3
set_option linter.all false
noncomputable section
namespace Go.Proofs
open Go Go.RowKit Go.Vm
open Option renaming some→C
open Bool renaming true→t_,false→f_
variable {n:Qg}{m x y:L_ Bag}{o:Qq}{c i most:Nat}{O a:Int}{L:L_ (L_ Bag)}{s:ByteArray}{mm:L_ (ByteArray×Int)}{E:L_ Xj}{e:Xj}{fl:Bool}
def Qtc (n:Qg)(a b:L_ Bag)(c d:Nat)(h:XE n)(ha:KA n c a)(hb:KA n d b)(hcd:c+d<=1000000):Qk (Dv a b) λr=>(r.2=0->r.1.length=n.Places.length/\Quh Kr a b r.1)/\(Can Kr a b->r.2=0):=by
 have hpl:=h.pl;have ha1:=ha.1;have hb1:=hb.1;have hmin:min2 (a.length:Int) (b.length:Int)=(n.Places.length:Int):=by unfold min2;split<;>omega
 unfold Dv;rw[hmin];refine T0 (T5 (by simp only[QL,QT];omega)) λ_ _=>?_;refine T0 (Qk.up n.Places.length (λst=>st.1) (λst=>st.2.length=n.Places.length/\∀(j:Nat) x y,(j:Int)<st.1->a[j]? = C x->b[j]? = C y->∃z,st.2[j]? = C z/\Kr x y=C (z,0)) (Q:=λq:Int⊕L_ Bag=>(∀x,q=.inl x->x≠0/\¬Can Kr a b)/\∀m,q=.inr m->m.length=n.Places.length/\Quh Kr a b m) rfl ⟨by simp,λj x y hj=>by omega⟩ (λi st hi hn hJ=>?_)) (λq hq=>?_)
 ·obtain⟨x,m⟩:=st;replace hi:x=(i:Int):=hi;obtain⟨hJ1,hJ2⟩:m.length=n.Places.length/\∀(j:Nat) u v,(j:Int)<x->a[j]? = C u->b[j]? = C v->∃z,m[j]? = C z/\Kr u v=C (z,0):=hJ;show Qk (GP a b x m) _;unfold GP;rw[hmin];refine T1 (λhc=>?_) (λhc=>T2 (Qw ⟨λx e=>(by cases e),λm' e=>(by cases e;exact⟨hJ1,λj u v hu hv=>hJ2 j u v (by
   simp only[XA,QgP]at hc;have:=(QX.1 hu).1;omega) hu hv⟩)⟩))
  simp only[QT,QgP]at hc;have i1:i<a.length:=by omega
  have i2:i<b.length:=by omega
  rw[hi,Xe,RU i1,Qh,Xe,RU i2,Qh];have hu2:=ha.2 _ (Jc i1);have hv2:=hb.2 _ (Jc i2);have key:∃s,Kr a[i] b[i]=C s:=by
   rcases Qa8 a[i] b[i] (by omega)with⟨_,e⟩|⟨_,_,_,e⟩|⟨_,_,_,r,e,h1,_,h2⟩
   ·exact⟨_,e⟩
   ·exact⟨_,e⟩
   exact⟨_,e⟩
  obtain⟨s,es⟩:=key;rw[es,Qh];refine T0 (T4 (by omega) (by omega)) λ_ _=>?_;refine T1 (λO=>T2 (Qw ⟨λx e=>(by cases e;exact⟨by simpa using O,λhcan=>by
   obtain⟨z,hz⟩:=hcan i _ _ (RU i1) (RU i2);rw[es]at hz;cases hz;simp at O⟩),λm' e=>(by cases e)⟩)) λO=>?_
  simp only[WK]at O;refine T2 (QY ⟨by omega,QE (by omega) (by unfold maxLen;omega:n.Places.length<=maxLen),by simpa using hJ1,λj u v hj hu hv=>?_⟩);have hj:(j:Int)<Qf ((i:Int)+1):=hj;rw[QE (show i<n.Places.length by omega) (by unfold maxLen;omega)]at hj;show ∃z,(m.set (i:Int).toNat s.1)[j]? = C z/\_;by_cases cj:j=i
  ·subst cj;rw[RU i1]at hu;rw[RU i2]at hv;cases hu;cases hv;refine⟨s.1,by rw[show((j:Int)).toNat=j from Jb j];exact Qbx (by omega),?_⟩;rw[es,<-O]
  obtain⟨z,h1,h2⟩:=hJ2 j u v (by omega) hu hv;exact⟨z,by rw[SA (by simp;omega)];exact h1,h2⟩
 rcases q with q|q
 ·have:=hq.1 q rfl;exact T2 ⟨λh=>absurd h this.1,λh=>absurd h this.2⟩
 exact T2 ⟨λ_=>hq.2 q rfl,λ_=>rfl⟩
def QsH (n:Qg)(a b:L_ Bag)(c d:Nat)(h:XE n)(ha:KA n c a)(hb:KA n d b)(hcd:c+d<=1000000):Qk (Bp a b) λr=>(r.2=0->r.1.length=n.Places.length/\Quh JS a b r.1)/\(Can JS a b->r.2=0):=by
 have hpl:=h.pl;have ha1:=ha.1;have hb1:=hb.1;have hmin:min2 (a.length:Int) (b.length:Int)=(n.Places.length:Int):=by unfold min2;split<;>omega
 unfold Bp;rw[hmin];refine T0 (T5 (by simp only[QL,QT];omega)) λ_ _=>?_;refine T0 (Qk.up n.Places.length (λst=>st.1) (λst=>st.2.length=n.Places.length/\∀(j:Nat) x y,(j:Int)<st.1->a[j]? = C x->b[j]? = C y->∃z,st.2[j]? = C z/\JS x y=C (z,0)) (Q:=λq:Int⊕L_ Bag=>(∀x,q=.inl x->x≠0/\¬Can JS a b)/\∀m,q=.inr m->m.length=n.Places.length/\Quh JS a b m) rfl ⟨by simp,λj x y hj=>by omega⟩ (λi st hi hn hJ=>?_)) (λq hq=>?_)
 ·obtain⟨x,m⟩:=st;replace hi:x=(i:Int):=hi;obtain⟨hJ1,hJ2⟩:m.length=n.Places.length/\∀(j:Nat) u v,(j:Int)<x->a[j]? = C u->b[j]? = C v->∃z,m[j]? = C z/\JS u v=C (z,0):=hJ;show Qk (Au a b x m) _;unfold Au;rw[hmin];refine T1 (λhc=>?_) (λhc=>T2 (Qw ⟨λx e=>(by cases e),λm' e=>(by cases e;exact⟨hJ1,λj u v hu hv=>hJ2 j u v (by
   simp only[XA,QgP]at hc;have:=(QX.1 hu).1;omega) hu hv⟩)⟩))
  simp only[QT,QgP]at hc;have i1:i<a.length:=by omega
  have i2:i<b.length:=by omega
  rw[hi,Xe,RU i1,Qh,Xe,RU i2,Qh];have hu2:=ha.2 _ (Jc i1);have hv2:=hb.2 _ (Jc i2);have key:∃s,JS a[i] b[i]=C s:=by
   rcases Nm a[i] b[i] (by omega)with⟨_,e⟩|⟨_,_,_,e⟩|⟨_,_,r,e,h1,_,h2⟩
   ·exact⟨_,e⟩
   ·exact⟨_,e⟩
   exact⟨_,e⟩
  obtain⟨s,es⟩:=key;rw[es,Qh];refine T0 (T4 (by omega) (by omega)) λ_ _=>?_;refine T1 (λO=>T2 (Qw ⟨λx e=>(by cases e;exact⟨by simpa using O,λhcan=>by
   obtain⟨z,hz⟩:=hcan i _ _ (RU i1) (RU i2);rw[es]at hz;cases hz;simp at O⟩),λm' e=>(by cases e)⟩)) λO=>?_
  simp only[WK]at O;refine T2 (QY ⟨by omega,QE (by omega) (by unfold maxLen;omega:n.Places.length<=maxLen),by simpa using hJ1,λj u v hj hu hv=>?_⟩);have hj:(j:Int)<Qf ((i:Int)+1):=hj;rw[QE (show i<n.Places.length by omega) (by unfold maxLen;omega)]at hj;show ∃z,(m.set (i:Int).toNat s.1)[j]? = C z/\_;by_cases cj:j=i
  ·subst cj;rw[RU i1]at hu;rw[RU i2]at hv;cases hu;cases hv;refine⟨s.1,by rw[show((j:Int)).toNat=j from Jb j];exact Qbx (by omega),?_⟩;rw[es,<-O]
  obtain⟨z,h1,h2⟩:=hJ2 j u v (by omega) hu hv;exact⟨z,by rw[SA (by simp;omega)];exact h1,h2⟩
 rcases q with q|q
 ·have:=hq.1 q rfl;exact T2 ⟨λh=>absurd h this.1,λh=>absurd h this.2⟩
 exact T2 ⟨λ_=>hq.2 q rfl,λ_=>rfl⟩
def QoR {t:L_ Bag}(h:UW n m o=C (t,0)):Kx n m o=C 0/\∃O,Ar n o=C (O,0)/\Dv m O=C (t,0):=by
 unfold UW at h;obtain⟨x,hx,h⟩:=XO h;rcases KI h with⟨c,h⟩|⟨c,h⟩
 ·simp only[Option.some.injEq,Prod.mk.injEq]at h;rw[h.2]at c;cases c
 simp only[WK]at c;subst c;obtain⟨y,hy,h⟩:=XO h;obtain⟨y1,y2⟩:=y;rcases KI h with⟨c,h⟩|⟨c,h⟩
 ·simp only[Option.some.injEq,Prod.mk.injEq]at h;simp only[h.2]at c;cases c
 simp only[WK]at c;subst c;obtain⟨z,hz,h⟩:=XO h;obtain⟨z1,z2⟩:=z;simp only[Option.some.injEq,Prod.mk.injEq]at h;obtain⟨rfl,rfl⟩:=h;exact⟨hx,y1,hy,hz⟩
def QsI (h:YZ n m o=C (x,0)):∃t,UW n m o=C (t,0)/\UV n t o=C (x,0):=by
 unfold YZ at h;obtain⟨y,O,h⟩:=XO h;obtain⟨y1,y2⟩:=y;rcases KI h with⟨c,h⟩|⟨c,h⟩
 ·simp only[Option.some.injEq,Prod.mk.injEq]at h;simp only[h.2]at c;cases c
 simp only[WK]at c;subst c;obtain⟨z,hz,h⟩:=XO h;obtain⟨z1,z2⟩:=z;simp only[Option.some.injEq,Prod.mk.injEq]at h;obtain⟨rfl,rfl⟩:=h;exact⟨y1,O,hz⟩
def Qa9 : Bag->Int
 |[]=>0|p::l=>p.2+Qa9 l
def Qvq {l m:Bag}(h:l.Perm m):Qa9 l=Qa9 m:=by
 induction h with|nil=>rfl|cons p _ ih=>simp only[Qa9,ih]|swap p q l=>simp only[Qa9];omega|trans _ _ O ih2=>rw[O,ih2]
def QsJ (b:Bag)(hr:Rt b)(h:b.length<=maxLen):UX b=C (Qf (Qa9 b)):=by
 unfold UX;rw[QeO b h,Ur.2 hr];show Od b=_;unfold Od;have O:∀(l:Bag) (s:Int),JP (λst (p:Int×Int)=>KG st p.1 p.2) (Qf s) l=C (.inl (Qf (s+Qa9 l))):=by
  intro l
  induction l with
  |nil=>intro s;simp[JP,Qa9]|cons p l ih=>
   intro s;simp only[JP];rw[show KG (Qf s) p.1 p.2=C (.inl (Qf (s+p.2)))from by unfold KG;rw[Qkm]];simp only[Qh,Sum.elim_inl];rw[ih,Qa9,Int.add_assoc]
 have h0:Ih (λst (p:Int×Int)=>KG st p.1 p.2) (0:Int) b=C (.inl (Qf (Qa9 b))):=by
  have e0:(0:Int)=Qf 0:=by decide
  rw[e0];refine Hp.2 ⟨λl' hp=>?_,by rw[O];simp⟩;rw[O,O,Qvq hp]
 rw[h0];rfl
def tS (m:L_ Bag):Nat->Int
 |0=>0|i+1=>tS m i+Qa9 (m.getD i [])
def Qh2 (h:XE n)(hm:KA n c m)(hc:c<=1000000):Nc m=C (Qf (tS m m.length)):=by
 have hpl:=h.pl;have hm1:=hm.1;unfold Nc;obtain⟨r,h1,h2⟩:=(Qk.up (body:=λst=>LW m st.1 st.2) m.length (λst=>st.2) (λst=>st.1=Qf (tS m st.2.toNat)) (Q:=λq=>q=Qf (tS m m.length)) (s0:=((0:Int),(0:Int))) rfl (by show(0:Int)=Qf 0;decide) (λi st hi hn hJ=>by
  obtain⟨a,x⟩:=st;replace hi:x=(i:Int):=hi;replace hJ:a=Qf (tS m x.toNat):=hJ;subst hi;show Qk (LW m a i) _;unfold LW;refine T1 (λhc=>?_) (λhc=>T2 (Qw ?_))
  ·simp only[QT]at hc;have O:i<m.length:=by omega
   have hb:=hm.2 _ (Jc O);rw[Xe,RU O,Qh,QsJ _ hb.1 (by have:=hb.2;unfold maxLen;omega),Qh];have hw:Qf ((i:Int)+1)=((i+1:Nat):Int):=QE O (by unfold maxLen;omega);refine T2 (QY ⟨O,hw,?_⟩);show Qf (a+Qf (Qa9 m[i]))=Qf (tS m (Qf ((i:Int)+1)).toNat);rw[hw,hJ,Qkm,Int.add_comm,Qkm,Jb,Jb,tS,Qm3,RU O,Int.add_comm];rfl
  simp only[XA]at hc;rw[hJ,show(i:Int).toNat=m.length by omega]))
 rw[h1,h2];rfl
def QwQ (n:Qg)(m:L_ Bag)(o:Qq)(c:Nat)(h:XE n)(hm:KA n c m)(hl:Mc n m)(hc:c<=900000)(ho:Wy n o):Qk (UV n m o) λr=>r.2=0->Mc n r.1:=by
 have hpl:=h.pl;have hm1:=hm.1;unfold UV;refine T0 (Qtt n o h ho) λy hy=>?_;refine T1 (λhc=>T2 λh=>absurd h (by simpa using hc)) λhc2=>?_;obtain⟨⟨hy,hyl⟩,h1,h2⟩:=hy (by simpa using hc2);rw[TS m (by omega) (λb O=>by have:=(hm.2 b O).2;omega),Qh];refine T0 (T4 h1 h2) λe he=>?_;have hcl:=(h.tk e he).2.2.2;refine T0 (Qk.up e.Cancel.length (λst=>st.1) (λst=>KA n c st.2/\Mc n st.2) (Q:=λq=>KA n c q/\Mc n q) rfl ⟨hm,hl⟩ (λi st hi hn hJ=>?_)) (λq hq=>?_)
 ·obtain⟨x,l⟩:=st;replace hi:x=(i:Int):=hi;replace hJ:KA n c l/\Mc n l:=hJ;show Qk (Fy e x l) _;unfold Fy;refine T1 (λhc=>?_) (λ_=>T2 (Qw hJ));simp only[QT]at hc;refine T0 (T4 (by omega) (by omega)) λk _=>?_;have next:∀l,KA n c l/\Mc n l->Qk (GZ x l) λo=>(∀s',o=.inl s'->i<e.Cancel.length/\s'.1=((i+1:Nat):Int)/\KA n c s'.2/\Mc n s'.2)/\∀r:L_ QBg,o=.inr r->KA n c r/\Mc n r:=λl hl=>by
   unfold GZ;exact T2 (QY (ix:=λst:Int×L_ QBg=>st.1) (J:=λst:Int×L_ QBg=>KA n c st.2/\Mc n st.2) ⟨by omega,by subst hi;exact QE (by omega) (by unfold maxLen;omega:e.Cancel.length<=maxLen),hl⟩)
  refine T1 (λhc3=>?_) λ_=>next l hJ;simp only[QL,QT]at hc3;refine T0 (T4 hc3.1 hc3.2) λ_ _=>?_;refine next _ ⟨⟨by simpa using hJ.1.1,λb O=>?_⟩,λj b p O hp k' hk=>?_⟩
  ·rcases QgJ O with rfl|O
   ·exact⟨Rt.nil,by simp⟩
   exact hJ.1.2 b O
  by_cases cj:k.toNat=j
  ·subst cj;rw[Qbx (by omega)]at O;cases O;simp[Xd,Qy]at hk
  rw[SA cj]at O;exact hJ.2 j b p O hp k' hk
 show Qk (Fz y q) _;unfold Fz;refine T0 (QsH n q y.1 c 20 h hq.1 hy (by omega)) λz hz=>T2 λhz0=>?_;obtain⟨zl,ze⟩:=hz.1 hz0;intro j b p O hp k hk;have hj:j<n.Places.length:=(QX.1 hp).1;obtain⟨u,hu,hu1,hu2⟩:=QrF hq.1 hj;obtain⟨v,hv,hv1,hv2⟩:=QrF hy hj;obtain⟨s,hs1,hs2⟩:=ze j u v hu hv;have hs1:z.1[j]? = C s:=hs1;have O:z.1[j]? = C b:=O;rw[O]at hs1;cases hs1;have q:=(Qzh (by omega) hs2).2.2.2 k;by_cases c0:0<Xd u k
 ·exact hq.2 j u p hu hp k c0
 exact hyl j v p hv hp k (by omega)
def QxR (h:XE n)(hD:YZ n m o=C (x,0)):∃e,idx n.Tasks o.Task=C e/\e∈n.Tasks:=by
 obtain⟨t,hT,_⟩:=QsI hD;obtain⟨_,need,O,_⟩:=QoR hT;unfold Ar at O;obtain⟨v,hv,O⟩:=XO O;obtain⟨v1,v2⟩:=v;rcases KI O with⟨c,O⟩|⟨c,O⟩
 ·simp only[Option.some.injEq,Prod.mk.injEq]at O;simp only[O.2]at c;cases c
 simp only[WK]at c;have:=Bx (QrE n o.Task o.Vars h) hv c;obtain⟨e,he,hm⟩:=T4 this.1 this.2;exact⟨e,he,hm⟩
def YF (n:Qg)(t:Qm):LI_:=t.Vars.map λv=>(Jk n.Colours v.Colour).getD 0
def IT (b:Xx)(r:LI_):Bool:=decide (YB b r=C 0)
def Us (n:Qg)(m:L_ QBg)(h:Int)(O outs:L_ LI_)(p:LI_):L_ Qq:=match Kb n m h p with
 |some (c,b)=>if c=0/\XX b=C 0 then O.flatMap λe=>if XU b e=C 0 then(outs.filter (IT b)).map λo=>Qq.mk h p e o else []else []
 |none=>[]
def ne0 (g:Int):(g != 0)=!decide (C g=C (0:Int)):=by by_cases h:g=0<;>simp[h]
def Qvr (t:Qm)(n:Qg)(l:LI_)(h:Xu n)(hl:l.length=t.Vars.length)(hv:t.Vars.length<=16)(hd:∀d∈l,0<=d/\d<=1024):
  Qk (Qx (λst=>UL t n st.1 st.2) ((Qf ((l.length:Int)-1)),l)) λq=>(-1<=q.1/\q.1<l.length/\q.2=l.take (q.1+1).toNat++List.replicate (l.length-(q.1+1).toNat) 0)/\(∀(j:Nat) x s,q.1<(j:Int)->l[j]? = C x->(YF n t)[j]? = C s->¬x+1<s)/\∀x s,0<=q.1->l[q.1.toNat]? = C x->(YF n t)[q.1.toNat]? = C s->x+1<s/\x<1024:=by
 have hw:Qf ((l.length:Int)-1)=(l.length:Int)-1:=YH (by omega);refine Qk.up l.length (λst=>(l.length:Int)-1-st.1) (λst=>st.2=l.take (st.1+1).toNat++List.replicate (l.length-(st.1+1).toNat) 0/\∀(j:Nat) x s,st.1<(j:Int)->l[j]? = C x->(YF n t)[j]? = C s->¬x+1<s) (by rw[hw];omega) ⟨by
  rw[hw];show l=_;rw[show((l.length:Int)-1+1).toNat=l.length by omega,Hm,Nat.sub_self];simp,λj x s hj hx=>by
  replace hj:Qf ((l.length:Int)-1)<(j:Int):=hj;have:=(QX.1 hx).1;omega⟩ (λi st hi hn hJ=>?_)
 obtain⟨a,d⟩:=st;replace hi:(l.length:Int)-1-a=i:=hi;obtain⟨hJ,hJ2⟩:d=l.take (a+1).toNat++List.replicate (l.length-(a+1).toNat) 0/\∀(j:Nat) x s,a<(j:Int)->l[j]? = C x->(YF n t)[j]? = C s->¬x+1<s:=hJ;have hdl:d.length=l.length:=by rw[hJ];simp;omega
 show Qk (UL t n a d) _;unfold UL;refine T0 (P:=λx=>(x=t_->0<=a/\∀e s,l[a.toNat]? = C e->(YF n t)[a.toNat]? = C s->¬e+1<s)/\(x=f_->∀e s,0<=a->l[a.toNat]? = C e->(YF n t)[a.toNat]? = C s->e+1<s/\e<1024)) ?_ λx hx=>?_
 ·unfold Ti;refine T1 (λO=>?_) λO=>T2 ⟨λh=>(by cases h),λ_ e s he=>?_⟩
  ·simp only[QT]at O;have hlt:a.toNat<l.length:=by omega
   have hlv:a.toNat<t.Vars.length:=by omega
   have ed:idx d a=C l[a.toNat]:=by
    rw[Bw O,hJ,Yp (by simp;omega),YQ,if_pos (by omega),QI hlt]
   have ev:idx t.Vars a=C t.Vars[a.toNat]:=by rw[Bw O,QI hlv]
   rw[ed,Qh,ev,Qh];refine T0 (WT _ _ h.1).self λz hz=>?_;obtain⟨hze,hz⟩:=hz;have hsz:(YF n t)[a.toNat]? = C z:=by
    unfold YF;rw[Ya,QI hlv,Jh,hze];rfl
   have h2:=hd _ (Jc hlt);rw[YH (by omega)];refine T2 ⟨λht=>⟨O,λe s he hs=>?_⟩,λhf e s _ he hs=>?_⟩
   ·rw[QI hlt]at he;cases he;rw[hsz]at hs;cases hs;simp only[QT]at ht;omega
   rw[QI hlt]at he;cases he;rw[hsz]at hs;cases hs;simp only[XA]at hf;omega
  simp only[XA]at O;omega
 unfold Tj;refine T1 (λO=>?_) λO=>?_
 ·obtain⟨ha,ha2⟩:=hx.1 O;refine T0 (T4 ha (by omega)) λ_ _=>?_;have hw2:Qf (a-1)=a-1:=YH (by omega);refine T2 (QY ⟨by omega,?_,?_,λj x s hj hx hs=>?_⟩)
  ·show(l.length:Int)-1-Qf (a-1)=_;rw[hw2];omega
  ·show d.set a.toNat 0=l.take (Qf (a-1)+1).toNat++List.replicate (l.length-(Qf (a-1)+1).toNat) 0;rw[hw2,hJ,show(a+1).toNat=a.toNat+1 by omega,QsG (by omega),show(a-1+1).toNat=a.toNat by omega];rw[show l.length-a.toNat=(l.length-(a.toNat+1))+1 by omega,List.replicate_succ]
  replace hj:Qf (a-1)<(j:Int):=hj;rw[hw2]at hj;by_cases c:a<(j:Int)
  ·exact hJ2 j x s c hx hs
  have:a.toNat=j:=by omega
  subst this;exact ha2 x s hx hs
 exact T2 (Qw ⟨⟨by omega,by omega,hJ⟩,hJ2,hx.2 O⟩)
def Qtd (n:Qg)(m:L_ QBg)(b:Xx)(l:L_ LI_)(h:XE n)(hb:BOk n m b)(hl:TR l):Qk (We l b) λr=>(r=-1/\∀row∈l,IT b row=t_)\/∃i:Nat,r=(i:Int)/\i<l.length/\(∀row∈l.take i,IT b row=t_)/\∀row,l[i]? = C row->IT b row=f_:=by
 have hl1:=hl.1;unfold We;refine T0 (Qk.up l.length (λst=>st) (λst=>∀row∈l.take st.toNat,IT b row=t_) (Q:=λq:Int⊕Unit=>(∀x,q=.inl x->∃i:Nat,x=(i:Int)/\i<l.length/\(∀row∈l.take i,IT b row=t_)/\∀row,l[i]? = C row->IT b row=f_)/\(q=.inr ()->∀row∈l,IT b row=t_)) rfl (λrow h=>by cases h) (λi st hi hn hJ=>?_)) (λq hq=>?_)
 ·replace hi:st=(i:Int):=hi;subst hi;replace hJ:∀row∈l.take (i:Int).toNat,IT b row=t_:=hJ;rw[Jb]at hJ;show Qk (Dt l b i) _;unfold Dt Fq;refine T1 (λhc=>?_) (λhc=>T2 (Qw ⟨λx h=>(by cases h),λ_=>?_⟩))
  ·simp only[QT]at hc;have O:i<l.length:=by omega
   rw[Xe,QI O,Qh];have:=hl.2 _ (Jc O);refine T0 (P:=λc:Bool=>c=!IT b l[i]) ?_ λc hcc=>?_
   ·refine T0 (Qqf n m b l[i] h hb (by omega)).self λg hg=>T2 ?_;unfold IT;rw[hg.1];exact ne0 g
   subst hcc;refine T1 (λhc2=>T2 (Qw ⟨λx e=>(by cases e;exact⟨i,rfl,O,hJ,λrow hr=>by rw[QI O]at hr;cases hr;simpa using hc2⟩),λe=>by cases e⟩)) λhc2=>?_;have hw:Qf ((i:Int)+1)=((i+1:Nat):Int):=QE O (by unfold maxLen;omega:l.length<=maxLen);refine T2 (QY ⟨O,hw,?_⟩);show ∀row∈l.take (Qf ((i:Int)+1)).toNat,IT b row=t_;rw[hw,Jb,Hl,QI O];intro row hr;rcases Jy.1 hr with hr|hr
   ·exact hJ row hr
   simp at hr;subst hr;simpa using hc2
  simp only[XA]at hc;rwa[DW (by omega)]at hJ
 rcases q with q|q
 ·exact T2 (.inr (hq.1 q rfl))
 exact T2 (.inl ⟨rfl,hq.2 rfl⟩)
def Qte (n:Qg)(m:L_ QBg)(b:Xx)(l:L_ LI_)(h:XE n)(hb:BOk n m b)(hl:TR l):Qk (KS l b) λr=>r=l.filter (IT b):=by
 have hl1:=hl.1;unfold KS;refine T0 (Qtd n m b l h hb hl) λx hx=>?_;rcases hx with⟨rfl,hx⟩|⟨O,rfl,hi0,hx1,hx2⟩
 ·exact T1 (λ_=>T2 (List.filter_eq_self.2 hx).symm) λhc=>by simp at hc
 refine T1 (λhc=>by simp at hc) λ_=>?_;have hw:Qf ((O:Int)+1)=(O:Int)+1:=YH (by omega);have hbad:=hx2 _ (QI hi0);refine T0 (Qk.up (l.length-(O+1)) (λst=>st.2.1-((O:Int)+1)) (λst=>0<=st.1/\st.1<st.2.1/\st.2.2.length=l.length/\st.2.2.take st.1.toNat=(l.take st.2.1.toNat).filter (IT b)/\st.2.2.drop st.2.1.toNat=l.drop st.2.1.toNat) (Q:=λq:Int×L_ LI_=>0<=q.1/\q.1<=(l.length:Int)/\q.2.length=l.length/\q.2.take q.1.toNat=l.filter (IT b)) (by show Qf ((O:Int)+1)-((O:Int)+1)=0;omega) ⟨by show(0:Int)<=O;omega,by show(O:Int)<Qf ((O:Int)+1);omega,rfl,?_,rfl⟩ (λi st hi hn hJ=>?_)) (λq hq=>?_)
 ·show l.take (O:Int).toNat=(l.take (Qf ((O:Int)+1)).toNat).filter (IT b);rw[hw,Jb,show((O:Int)+1).toNat=O+1 by omega,Hl,QI hi0,Sy,List.filter_eq_self.2 hx1];show l.take O=l.take O++List.filter (IT b) [l[O]];rw[Bz,hbad];exact(Zg _).symm
 ·obtain⟨a,j,l2⟩:=st;replace hi:j-((O:Int)+1)=i:=hi;obtain⟨j1,j2,j3,j4,j5⟩:0<=a/\a<j/\l2.length=l.length/\l2.take a.toNat=(l.take j.toNat).filter (IT b)/\l2.drop j.toNat=l.drop j.toNat:=hJ;show Qk (Db b a j l2) _;unfold Db Fq;refine T1 (λhc=>?_) (λhc=>T2 (Qw ⟨j1,?_,j3,?_⟩))
  ·simp only[QT]at hc;have hj:j.toNat<l2.length:=by omega
   have hj':j.toNat<l.length:=by omega
   have ej:l2[j.toNat]=l[j.toNat]:=by
    have:=congrArg List.head? j5;rw[Sx hj,Sx hj']at this;exact Option.some.inj this
   have ej5:l2.drop (j.toNat+1)=l.drop (j.toNat+1):=by
    have:=congrArg List.tail j5;simpa using this
   rw[QjH (by omega) (by omega),Qh];have:=hl.2 _ (Jc hj');have hw2:Qf (j+1)=j+1:=YH (by omega);have hw3:Qf (a+1)=a+1:=YH (by omega);have tk:l.take (j+1).toNat=l.take j.toNat++[l[j.toNat]]:=by
    rw[show(j+1).toNat=j.toNat+1 by omega,Hl,QI hj'];rfl
   refine T0 (P:=λc:Bool=>c=!IT b l[j.toNat]) ?_ λc hcc=>?_
   ·rw[ej];refine T0 (Qqf n m b l[j.toNat] h hb (by omega)).self λg hg=>T2 ?_;unfold IT;rw[hg.1];exact ne0 g
   subst hcc;refine T1 (λhc2=>?_) λhc2=>?_
   ·have hc2:IT b l[j.toNat]=t_:=by simpa using hc2
    refine T0 (T4 (by omega) (by omega)) λ_ _=>?_;refine T2 (QY ⟨by omega,by show Qf (j+1)-((O:Int)+1)=_;omega,by show 0<=Qf (a+1);omega,by show Qf (a+1)<Qf (j+1);omega,by simpa using j3,?_,?_⟩)
    ·show(l2.set a.toNat l2[j.toNat]).take (Qf (a+1)).toNat=(l.take (Qf (j+1)).toNat).filter (IT b);rw[hw2,hw3,tk,Sy,<-j4,show(a+1).toNat=a.toNat+1 by omega,Hl,Qbx (by omega),List.take_set_of_le (YK _),ej];simp[hc2]
    show(l2.set a.toNat l2[j.toNat]).drop (Qf (j+1)).toNat=l.drop (Qf (j+1)).toNat;rw[hw2,show(j+1).toNat=j.toNat+1 by omega,List.drop_set_of_lt (by omega),ej5]
   have hc2:IT b l[j.toNat]=f_:=by simpa using hc2
   refine T2 (QY ⟨by omega,by show Qf (j+1)-((O:Int)+1)=_;omega,j1,by show a<Qf (j+1);omega,j3,?_,?_⟩)
   ·show l2.take a.toNat=(l.take (Qf (j+1)).toNat).filter (IT b);rw[hw2,tk,Sy,<-j4];simp[hc2]
   show l2.drop (Qf (j+1)).toNat=l.drop (Qf (j+1)).toNat;rw[hw2,show(j+1).toNat=j.toNat+1 by omega,ej5]
  ·simp only[XA]at hc;show a<=_;omega
  simp only[XA]at hc;show l2.take a.toNat=_;rw[j4,DW (by omega)]
 obtain⟨q1,q2⟩:=q;obtain⟨h1,h2,h3,h4⟩:0<=q1/\q1<=l.length/\q2.length=l.length/\q2.take q1.toNat=l.filter (IT b):=hq;show Qk (Dc q1 q2) _;unfold Dc;refine T0 (T5 (by simp only[QL,QT];omega)) λ_ _=>?_;refine T0 (T5 (by simp only[QL,QT,YR,Kd,QgP];omega)) λ_ _=>?_;refine T2 ?_;rw[Qj7 (by simp;omega),List.take_take,Nat.min_self,h4]
def Qui (n:Qg)(m:L_ QBg)(task most:Int)(l5 l8:L_ Qq)(O outs:L_ LI_)(p:LI_)(h:XE n)(hm:Xg (Xg λ_=>True) m)(hmost:most<=4294967296\/l8.length+(Us n m task O outs p).length<=4294967296)
  (hi:TR O) (ho:TR outs) (hp:p.length<=16) (ha:(l8.length:Int)<most):
  Qk (EV n m task most l5 O outs l8 p) λr=>r=WB most.toNat l8 (Us n m task O outs p):=by
 have hil:=hi.1;have hol:=ho.1;unfold EV;refine T0 (Qtp n m task p h).self λx hx=>?_;obtain⟨c,b⟩:=x;obtain⟨hxe,hx⟩:=hx;refine T0 (P:=λy=>(y=t_->Us n m task O outs p=[])/\(y=f_->BOk n m b/\c=0/\XX b=C 0)) ?_ λy hy=>?_
 ·unfold MQ;refine T1 (λhc=>T2 ⟨λ_=>?_,λh=>by cases h⟩) λhc=>?_
  ·unfold Us;rw[hxe];simp only;rw[if_neg λe=>by simp[e.1]at hc]
  have hc:c=0:=by simpa using hc
  have hb:=hx hc;refine T0 (QqK n m b h hb).self λg hg=>T2 ⟨λhg2=>?_,λhg2=>⟨hb,hc,?_⟩⟩
  ·unfold Us;rw[hxe];simp only;rw[if_neg λe=>by rw[hg.1]at e;simp at e;simp[e.2]at hg2]
  rw[hg.1];simpa using hg2
 unfold MR;refine T1 (λhc=>T2 ?_) λhc=>?_
 ·rw[hy.1 hc,QgB (by omega)]
 obtain⟨hb,hc0,hgd⟩:=hy.2 hc;refine T0 (P:=λz=>z=outs) (by unfold UK;exact T0 (T5 (by simp;omega)) λ_ _=>T2 rfl) λx19 h19=>?_;rw[h19];refine T0 (Qte n m b outs h hb ho) λx20 h20=>?_;have h20l:x20.length<=16:=by rw[h20];exact Yx (Nq _ _) ho.1
 have h20e:∀r∈x20,r.length<=16:=λr hr=>by rw[h20]at hr;exact ho.2 r (AD.1 hr).1
 have hR:Us n m task O outs p=O.flatMap λe=>if XU b e=C 0 then x20.map (λo=>Qq.mk task p e o)else []:=by
  unfold Us;rw[hxe];simp only;rw[if_pos ⟨hc0,hgd⟩,h20]
 rw[hR]at hmost ⊢;generalize hg:(λe=>if XU b e=C 0 then x20.map (λo=>Qq.mk task p e o)else [])=g at hmost ⊢;refine T0 (Qk.up O.length (λst=>st.1) (λst=>(st.2.length:Int)<most/\WB most.toNat st.2 ((O.drop st.1.toNat).flatMap g)=WB most.toNat l8 (O.flatMap g)/\st.2.length+((O.drop st.1.toNat).flatMap g).length=l8.length+(O.flatMap g).length) (Q:=λq=>q=WB most.toNat l8 (O.flatMap g)) rfl ⟨ha,rfl,rfl⟩ (λi st hi2 hn hJ=>?_)) (λq hq=>?_)
 ·obtain⟨j,l⟩:=st;replace hi2:j=(i:Int):=hi2;subst hi2;obtain⟨hJ1,hJ2,hJ3⟩:(l.length:Int)<most/\WB most.toNat l ((O.drop (i:Int).toNat).flatMap g)=WB most.toNat l8 (O.flatMap g)/\l.length+((O.drop (i:Int).toNat).flatMap g).length=l8.length+(O.flatMap g).length:=hJ;rw[Jb]at hJ2 hJ3;show Qk (Ap O (c,b) x20 p task most i l) _;unfold Ap;refine T1 (λhc=>?_) (λhc=>T2 (Qw ?_))
  ·simp only[QT]at hc;have hlt:i<O.length:=by omega
   have hel:=hi.2 _ (Jc hlt);rw[Xe,QI hlt,Qh];rw[Sx hlt,PN,Qtl]at hJ2;rw[Sx hlt,PN,YR]at hJ3;have next:∀l',(l'.length:Int)<most->WB most.toNat l' ((O.drop (i+1)).flatMap g)=WB most.toNat l8 (O.flatMap g)->l'.length+((O.drop (i+1)).flatMap g).length=l8.length+(O.flatMap g).length->Qk (Wr i l') λo=>(∀s',o=.inl s'->i<O.length/\s'.1=((i+1:Nat):Int)/\(s'.2.length:Int)<most/\WB most.toNat s'.2 ((O.drop s'.1.toNat).flatMap g)=WB most.toNat l8 (O.flatMap g)/\s'.2.length+((O.drop s'.1.toNat).flatMap g).length=l8.length+(O.flatMap g).length)/\∀r:L_ Qq⊕L_ Qq,o=.inr r->r=WB most.toNat l8 (O.flatMap g):=λl' hl1 hl2 hl3=>by
    have hw:Qf ((i:Int)+1)=((i+1:Nat):Int):=QE hlt (by unfold maxLen;omega:O.length<=maxLen);unfold Wr;exact T2 (QY (ix:=λst:Int×L_ Qq=>st.1) (J:=λst:Int×L_ Qq=>(st.2.length:Int)<most/\WB most.toNat st.2 ((O.drop st.1.toNat).flatMap g)=WB most.toNat l8 (O.flatMap g)/\st.2.length+((O.drop st.1.toNat).flatMap g).length=l8.length+(O.flatMap g).length) ⟨hlt,hw,hl1,by
     show WB most.toNat l' ((O.drop (Qf ((i:Int)+1)).toNat).flatMap g)=_/\l'.length+((O.drop (Qf ((i:Int)+1)).toNat).flatMap g).length=_;rw[hw,Jb];exact⟨hl2,hl3⟩⟩)
   refine T0 (Qtq n m b O[i] h hb hm (by omega)).self λz hz=>?_;refine T1 (λhc2=>?_) λhc2=>?_
   ·have:g O[i]=[]:=by
     rw[<-hg];simp only;rw[if_neg λe=>by rw[hz.1]at e;simp at e;simp[e]at hc2]
    rw[this,QgB (by omega)]at hJ2;rw[this]at hJ3;exact next l hJ1 hJ2 (by simpa using hJ3)
   have hge:g O[i]=x20.map (λo=>Qq.mk task p O[i] o):=by
    rw[<-hg];simp only;rw[if_pos (by rw[hz.1];simpa using hc2)]
   rw[hge]at hJ2 hJ3;rw[KO]at hJ3;refine T0 (Qk.up x20.length (λst=>st.1) (λst=>(st.2.length:Int)<most/\WB most.toNat st.2 ((x20.drop st.1.toNat).map λo=>Qq.mk task p O[i] o)=WB most.toNat l (x20.map λo=>Qq.mk task p O[i] o)/\(st.2.length:Int)=l.length+st.1) (Q:=λq=>q=WB most.toNat l (x20.map λo=>Qq.mk task p O[i] o)) rfl ⟨hJ1,rfl,by simp⟩ (λi2 st hi3 hn2 hK=>?_)) (λq hq=>?_)
   ·obtain⟨j2,l2⟩:=st;replace hi3:j2=(i2:Int):=hi3;subst hi3;obtain⟨hK1,hK2,hK3⟩:(l2.length:Int)<most/\WB most.toNat l2 ((x20.drop (i2:Int).toNat).map λo=>Qq.mk task p O[i] o)=WB most.toNat l (x20.map λo=>Qq.mk task p O[i] o)/\(l2.length:Int)=l.length+(i2:Int):=hK;rw[Jb]at hK2;show Qk (Ao x20 p O[i] task most i2 l2) _;unfold Ao;refine T1 (λhc=>?_) (λhc=>T2 (Qw ?_))
    ·simp only[QT]at hc;have hlt2:i2<x20.length:=by omega
     have hel2:=h20e _ (Jc hlt2);rw[Xe,QI hlt2,Qh];rw[Sx hlt2,GC,QwG]at hK2;rw[QaB p (by omega),Qh,QaB O[i] (by omega),Qh,QaB x20[i2] (by omega),Qh];refine T0 (T5 (by simp;omega)) λ_ _=>?_;refine T1 (λhc2=>T2 (Qw ?_)) λhc2=>?_
     ·simp only[beq_iff_eq,YR,Hj]at hc2;rw[QwF (by simp;omega)]at hK2;exact hK2
     simp only[beq_eq_false_iff_ne,YR,Hj]at hc2;have hw:Qf ((i2:Int)+1)=((i2+1:Nat):Int):=QE hlt2 (by unfold maxLen;omega:x20.length<=maxLen);refine T2 (QY ⟨hlt2,hw,by show((l2++[_]).length:Int)<most;simp;omega,?_,by show((l2++[_]).length:Int)=l.length+Qf ((i2:Int)+1);rw[hw];simp;omega⟩);show WB most.toNat (l2++[_]) ((x20.drop (Qf ((i2:Int)+1)).toNat).map _)=_;rw[hw,Jb];exact hK2
    simp only[XA]at hc;rw[List.drop_of_length_le (by omega),List.map_nil,QgB (by omega)]at hK2;exact hK2
   rw[<-hq]at hJ2;rcases q with q|q
   ·exact T2 (Qw hJ2)
   exact next q (by have:=Qvi hq.symm;omega) hJ2 (by
    have e:=congrArg List.length (Qtm hq.symm);rw[YR,KO]at e;omega)
  simp only[XA]at hc;rw[List.drop_of_length_le (by omega),List.flatMap_nil,QgB (by omega)]at hJ2;exact hJ2
 rcases q with q|q
 ·exact T2 hq
 exact T2 hq
def Qrw (n:Qg)(m:L_ QBg)(O most:Int)(l5:L_ Qq)(ins outs:L_ LI_)(t:Qm)(h:XE n)(hm:Xg (Xg λ_=>True) m)(hmost:most<=4294967296\/((binds (YF n t)).flatMap (Us n m O ins outs)).length<=4294967296)(h1:1<=most)
  (hi:TR ins) (ho:TR outs) (ht:t∈n.Tasks):Qk (CK n m O most l5 ins outs [] t n) λr=>∀a,r=.inl a\/r=.inr a->a=((binds (YF n t)).flatMap (Us n m O ins outs)).take most.toNat:=by
 have hv:=(h.tk t ht).1;have hsz:(YF n t).length=t.Vars.length:=by simp[YF]
 generalize hrl:Us n m O ins outs=rl at hmost ⊢;have fin:∀q:L_ Qq⊕L_ Qq,q.swap=WB most.toNat [] ((binds (YF n t)).flatMap rl)->∀a,q=.inl a\/q=.inr a->a=((binds (YF n t)).flatMap rl).take most.toNat:=λq hq a ha=>by
  rw[<-QwH (by omega:0<most.toNat),<-hq];rcases ha with rfl|rfl<;>rfl
 unfold CK;refine T0 (T5 (by simp only[QL,QT];omega)) λ_ _=>?_;refine T0 (Qvn (λst=>(Gl (YF n t) st.1).length) (λst=>st.1.length=t.Vars.length/\(∀d∈st.1,0<=d/\d<=1024)/\(st.2.length:Int)<most/\WB most.toNat st.2 ((st.1::Gl (YF n t) st.1).flatMap rl)=WB most.toNat [] ((binds (YF n t)).flatMap rl)/\st.2.length+((st.1::Gl (YF n t) st.1).flatMap rl).length=((binds (YF n t)).flatMap rl).length) (Q:=λq:L_ Qq⊕L_ Qq=>q.swap=WB most.toNat [] ((binds (YF n t)).flatMap rl))
  ⟨by simp,λd hd=>by have:=QgN hd;omega,by simp;omega,?_⟩ (λst hJ=>?_)) (λq hq=>?_)
 ·show WB most.toNat [] ((List.replicate (t.Vars.length:Int).toNat 0::Gl (YF n t) (List.replicate (t.Vars.length:Int).toNat 0)).flatMap rl)=_/\0+((List.replicate (t.Vars.length:Int).toNat 0::Gl (YF n t) (List.replicate (t.Vars.length:Int).toNat 0)).flatMap rl).length=_;rw[QlO (YF n t),Ni,hsz,Jb,DY];exact⟨rfl,rfl⟩
 ·obtain⟨d,l⟩:=st;obtain⟨j1,j2,j3,j4,j5⟩:d.length=t.Vars.length/\(∀d'∈d,0<=d'/\d'<=1024)/\(l.length:Int)<most/\WB most.toNat l ((d::Gl (YF n t) d).flatMap rl)=WB most.toNat [] ((binds (YF n t)).flatMap rl)/\l.length+((d::Gl (YF n t) d).flatMap rl).length=((binds (YF n t)).flatMap rl).length:=hJ;rw[PN,YR]at j5;show Qk (HK n m O most l5 ins outs t n d l) _;unfold HK;rw[QaB d (by omega),Qh];refine T0 (Qui n m O most l5 l ins outs d h hm (by rw[hrl];omega) hi ho (by omega) j3) λr hr=>?_;rw[hrl]at hr;rw[PN,Qtl,<-hr]at j4;rcases r with r|r
  ·exact T2 ⟨λs' e=>(by cases e),λq e=>(by cases e;exact j4)⟩
  have hacc:=Qvi hr.symm;have hlen:=congrArg List.length (Qtm hr.symm);rw[YR]at hlen;replace j4:WB most.toNat r ((Gl (YF n t) d).flatMap rl)=WB most.toNat [] ((binds (YF n t)).flatMap rl):=j4;show Qk (HJ t n d r) _;unfold HJ;refine T0 (Qvr t n d h.k j1 hv j2) λq hq=>?_;obtain⟨a,d2⟩:=q;obtain⟨⟨q1,q2,q3⟩,q4,q5⟩:(-1<=a/\a<d.length/\d2=d.take (a+1).toNat++List.replicate (d.length-(a+1).toNat) 0)/\(∀(j:Nat) x s,a<(j:Int)->d[j]? = C x->(YF n t)[j]? = C s->¬x+1<s)/\∀x s,0<=a->d[a.toNat]? = C x->(YF n t)[a.toNat]? = C s->x+1<s/\x<1024:=hq;have hnx:=Que (YF n t) d;show Qk (HI r a d2) _;unfold HI;refine T1 (λhc=>T2 ⟨λs' e=>(by cases e),λq e=>(by
   cases e;simp only[QT]at hc;rw[QqI (YF n t) d λj x s=>q4 j x s (by omega)]at hnx;simp only at hnx;rw[hnx,List.flatMap_nil,QgB hacc]at j4;exact j4)⟩) λhc=>?_
  simp only[XA]at hc;have hlt:a.toNat<d.length:=by omega
  have hls:a.toNat<(YF n t).length:=by omega
  have ed:idx d2 a=C d[a.toNat]:=by
   rw[Bw (by omega),q3,Yp (by simp;omega),YQ,if_pos (by omega),QI hlt]
  rw[ed,Qh,Qh];have h9:=q5 _ _ (by omega) (QI hlt) (QI hls);have h10:=j2 _ (Jc hlt);rw[YH (by omega)];have e3:d2.set a.toNat (d[a.toNat]+1)=d.take a.toNat++(d[a.toNat]+1)::List.replicate (d.length-(a.toNat+1)) 0:=by
   rw[q3,show(a+1).toNat=a.toNat+1 by omega,QsG hlt]
  rw[e3];have hd3:∀x∈d.take a.toNat++(d[a.toNat]+1)::List.replicate (d.length-(a.toNat+1)) 0,0<=x/\x<=1024:=λx hx=>by
   rcases Jy.1 hx with hx|hx
   ·exact j2 x (DV hx)
   rcases Yw.1 hx with rfl|hx
   ·omega
   have:=QgN hx;omega
  have hlen2:(d.take a.toNat++(d[a.toNat]+1)::List.replicate (d.length-(a.toNat+1)) 0).length=t.Vars.length:=by simp;omega
  rw[QxJ a.toNat (YF n t) d _ _ (by omega) (QI hlt) (QI hls) h9.1 λj y z hj=>q4 j y z (by omega)]at hnx;simp only at hnx;rw[hnx]at j4;exact T2 ⟨λs' e=>(by
   cases e;refine⟨?_,hlen2,hd3,by show(r.length:Int)<most;omega,j4,by show r.length+(List.flatMap rl (_::_)).length=_;rw[<-hnx];omega⟩;show(Gl (YF n t) (d.take a.toNat++(d[a.toNat]+1)::List.replicate (d.length-(a.toNat+1)) 0)).length<(Gl (YF n t) d).length;rw[hnx,DU];omega),λq e=>(by cases e)⟩
 rcases q with q|q
 ·exact T2 λa ha=>fin _ hq a (by rcases ha with ha|ha<;>cases ha;exact .inl rfl)
 exact T2 λa ha=>fin _ hq a (by rcases ha with ha|ha<;>cases ha;exact .inr rfl)
def chC (O h:Int):L_ LI_:=(WI O h).getD []
def Jx (n:Qg)(m:L_ QBg)(h:Int):L_ Qq:=match idx n.Tasks h with|some t=>(binds (YF n t)).flatMap (Us n m h (chC t.Join t.Ins.length) (chC t.Split t.Outs.length))|none=>[]
def Quj (n:Qg)(m:L_ QBg)(O most:Int)(h:XE n)(hm:Xg (Xg λ_=>True) m)(hmost:most<=4294967296\/(Jx n m O).length<=4294967296):MT n m O most=C ((Jx n m O).take most.toNat):=by
 have key:Qk (MT n m O most) λr=>r=(Jx n m O).take most.toNat:=by
  unfold MT;refine T1 (λhc=>T2 ?_) λhc=>?_
  ·simp only[WO,QT]at hc;rcases hc with hc|hc|hc
   ·unfold Jx idx;rw[if_neg (by omega)];simp
   ·unfold Jx idx;rw[if_pos (by omega),Zh (by omega)];simp
   rw[show most.toNat=0 by omega,List.take_zero]
  simp only[DH,XA]at hc;refine T0 (T4 (by omega) (by omega)).self λe he=>?_;refine T0 (QeP _ _).self λx hx=>?_;refine T0 (QeP _ _).self λy hy=>?_;refine T0 (P:=λz=>z=(n,e)) (T2 rfl) λz hz=>?_;subst hz;have hml:Jx n m O=(binds (YF n e)).flatMap (Us n m O x y):=by
   unfold Jx chC;rw[he.1];simp only;rw[hx.1,hy.1];rfl
  refine T0 (Qrw n m O most [] x y e h hm (by rw[<-hml];exact hmost) (by omega) hx.2 hy.2 he.2) λr hr=>?_;rw[hml];rcases r with r|r
  ·exact T2 (hr r (.inl rfl))
  exact T2 (hr r (.inr rfl))
 obtain⟨r,h1,h2⟩:=key;rw[h1,h2]
def Dy (n:Qg)(m:L_ QBg):L_ Qq:=(List.range n.Tasks.length).flatMap λ(k:Nat)=>Jx n m (k:Int)
def QwR {α:Type}(f:Nat->L_ α)(N:Nat):∀k,k<=N->∃r,(List.range N).flatMap f=(List.range k).flatMap f++r:=by
 induction N with
 |zero=>intro k h;exact⟨[],by rw[show k=0 by omega];rfl⟩|succ N ih=>
  intro k h;by_cases c:k=N+1
  ·subst c;exact⟨[],by simp⟩
  obtain⟨r,O⟩:=ih k (by omega);exact⟨r++f N,by rw[List.range_succ,Qd4,List.flatMap_singleton,O,WC]⟩
def QwS (n:Qg)(m:L_ QBg)(most:Int)(h:XE n)(hm:Xg (Xg λ_=>True) m)(h0:0<=most)(h1:most<=9223372036854775807)(hmost:most<=4294967296\/(Dy n m).length<=4294967296):Tl n m most=C ((Dy n m).take most.toNat):=by
 have key:Qk (Tl n m most) λr=>r=(Dy n m).take most.toNat:=by
  unfold Tl;refine T0 (Qk.up n.Tasks.length (λst=>st.1) (λst=>st.2=((List.range st.1.toNat).flatMap λ(k:Nat)=>Jx n m (k:Int)).take most.toNat) (Q:=λq=>q=(Dy n m).take most.toNat) rfl (by simp) (λi st hi hn O=>?_)) (λq hq=>T2 hq);obtain⟨x,l⟩:=st;replace hi:x=(i:Int):=hi;subst hi;replace O:l=((List.range (i:Int).toNat).flatMap λ(k:Nat)=>Jx n m (k:Int)).take most.toNat:=O;rw[Jb]at O;show Qk (QaW n m most i l) _;unfold QaW;refine T1 (λhc=>?_) (λhc=>T2 (Qw ?_))
  ·simp only[QT]at hc;have hll:l.length<=most.toNat:=by rw[O];exact List.length_take_le _ _
   have hw:Qf (most-(l.length:Int))=most-(l.length:Int):=YH (by omega);obtain⟨rest,hrest⟩:=QwR (λ(k:Nat)=>Jx n m (k:Int)) n.Tasks.length (i+1) (by omega);have hle:((List.range i).flatMap λ(k:Nat)=>Jx n m (k:Int)).length+(Jx n m (i:Int)).length<=(Dy n m).length:=by
    unfold Dy;rw[hrest,List.range_succ,Qd4,List.flatMap_singleton];simp
   have hl2:l.length<=((List.range i).flatMap λ(k:Nat)=>Jx n m (k:Int)).length:=by rw[O];exact List.length_take_le' _ _
   rw[hw,Quj n m i _ h hm (by omega),Qh];have e:l++(Jx n m (i:Int)).take (most-(l.length:Int)).toNat=((List.range (i+1)).flatMap λ(k:Nat)=>Jx n m (k:Int)).take most.toNat:=by
    rw[List.range_succ,Qd4,List.flatMap_singleton,List.take_append,<-O];congr 1;by_cases c:((List.range i).flatMap λ(k:Nat)=>Jx n m (k:Int)).length<=most.toNat
    ·have:l.length=((List.range i).flatMap λ(k:Nat)=>Jx n m (k:Int)).length:=by rw[O,Kd];omega
     congr 1;omega
    have:l.length=most.toNat:=by rw[O,Kd];omega
    rw[show(most-(l.length:Int)).toNat=0 by omega,show most.toNat-((List.range i).flatMap λ(k:Nat)=>Jx n m (k:Int)).length=0 by omega]
   rw[e];refine T0 (T5 (by
    have:=List.length_take_le (most-(l.length:Int)).toNat (Jx n m (i:Int));have:=List.length_take_le' (most-(l.length:Int)).toNat (Jx n m (i:Int));simp only[QT];omega)) λ_ _=>?_
   have hw2:Qf ((i:Int)+1)=((i+1:Nat):Int):=QE (by omega:i<n.Tasks.length) h.k.2.2.1.1;refine T2 (QY ⟨by omega,hw2,?_⟩);show _=((List.range (Qf ((i:Int)+1)).toNat).flatMap λ(k:Nat)=>Jx n m (k:Int)).take most.toNat;rw[hw2,Jb]
  simp only[XA]at hc;rw[O,show i=n.Tasks.length by omega];rfl
 obtain⟨r,h1,h2⟩:=key;rw[h1,h2]
def Qvs {m:L_ QBg}{ins outs:L_ LI_}{p:LI_}:
  o∈Us n m O ins outs p↔o.Task=O/\o.Vars=p/\o.Ins∈ins/\o.Outs∈outs/\∃b,Kb n m O p=C (0,b)/\XX b=C 0/\XU b o.Ins=C 0/\YB b o.Outs=C 0:=by
 unfold Us;cases hb:Kb n m O p with
 |none=>simp|some x=>
  obtain⟨c,b⟩:=x;simp only;by_cases hc:c=0/\XX b=C 0
  ·rw[if_pos hc];obtain⟨rfl,hg⟩:=hc;simp only[List.mem_flatMap];constructor
   ·rintro ⟨e,he,h⟩;by_cases ht:XU b e=C 0
    ·rw[if_pos ht]at h;obtain⟨r,hr,rfl⟩:=Ye.1 h;obtain⟨h1,h2⟩:=AD.1 hr;exact⟨rfl,rfl,he,h1,b,rfl,hg,ht,QZ h2⟩
    rw[if_neg ht]at h;cases h
   rintro ⟨h1,h2,h3,h4,b',h5,h6,h7,h8⟩;cases h5;refine⟨o.Ins,h3,?_⟩;rw[if_pos h7];refine Ye.2 ⟨o.Outs,AD.2 ⟨h4,Yy h8⟩,?_⟩;cases o;simp only at h1 h2;subst h1;subst h2;rfl
  rw[if_neg hc];constructor
  ·intro h;cases h
  rintro ⟨_,_,_,_,b',h5,h6,_⟩;cases h5;exact absurd ⟨rfl,h6⟩ hc
def Sn {m:L_ QBg}{h:Int}:
  o∈Jx n m h↔o.Task=h/\∃e,idx n.Tasks h=C e/\inB (YF n e) o.Vars/\o.Ins∈chC e.Join e.Ins.length/\o.Outs∈chC e.Split e.Outs.length/\∃b,Kb n m h o.Vars=C (0,b)/\XX b=C 0/\XU b o.Ins=C 0/\YB b o.Outs=C 0:=by
 unfold Jx;cases he:idx n.Tasks h with
 |none=>simp|some e=>
  simp only[List.mem_flatMap,Qvh,Qvs,Option.some.injEq,exists_eq_left'];constructor
  ·rintro ⟨p,O,h2,rfl,h3,h4,h5⟩;exact⟨h2,O,h3,h4,h5⟩
  rintro ⟨O,h2,h3,h4,h5⟩;exact⟨o.Vars,h2,O,rfl,h3,h4,h5⟩
def QxS {m:L_ QBg}:o∈Dy n m↔o∈Jx n m o.Task:=by
 unfold Dy;simp only[List.mem_flatMap,Ea];constructor
 ·rintro ⟨k,hk,h⟩;have:=(Sn.1 h).1;rwa[this]
 intro h;obtain⟨_,e,O,_⟩:=Sn.1 h;have h0:0<=o.Task:=by
  unfold idx at O;split at O
  ·assumption
  cases O
 rw[Bw h0]at O;have:=(QX.1 O).1;exact⟨o.Task.toNat,this,by rwa[show((o.Task.toNat:Nat):Int)=o.Task by omega]⟩
def Quk (a b:LI_)(ha:a.length<=maxLen):JK a b=C (decide (a=b)):=by
 have key:Qk (JK a b) λr=>r=decide (a=b):=by
  unfold JK;refine T1 (λhc=>T2 ?_) λhc=>?_
  ·rw[Kh λe=>by subst e;simp at hc]
  simp only[WK]at hc;have hc:a.length=b.length:=by omega
  refine T0 (Qk.up a.length (λst=>st) (λst=>a.take st.toNat=b.take st.toNat) (Q:=λq:Unit⊕Unit=>(q=.inl ()->a≠b)/\(q=.inr ()->a=b)) rfl rfl (λi st hi hn hJ=>?_)) (λq hq=>?_)
  ·replace hi:st=(i:Int):=hi;subst hi;replace hJ:a.take (i:Int).toNat=b.take (i:Int).toNat:=hJ;rw[Jb]at hJ;show Qk (KT a b i) _;unfold KT;refine T1 (λO=>?_) (λO=>T2 (Qw ⟨λe=>(by cases e),λ_=>?_⟩))
   ·simp only[QT]at O;have i1:i<a.length:=by omega
    have i2:i<b.length:=by omega
    rw[Xe,QI i1,Qh,Xe,QI i2,Qh];refine T1 (λh=>T2 (Qw ⟨λ_ e=>?_,λe=>by cases e⟩)) λh=>?_
    ·subst e;simp at h
    have hw:Qf ((i:Int)+1)=((i+1:Nat):Int):=QE i1 ha;refine T2 (QY ⟨i1,hw,?_⟩);show a.take (Qf ((i:Int)+1)).toNat=b.take (Qf ((i:Int)+1)).toNat;rw[hw,Jb,Hl,Hl,hJ,QI i1,QI i2];simp only[WK]at h;rw[h]
   simp only[XA]at O;rwa[DW (by omega),DW (by omega)]at hJ
  rcases q with q|q
  ·exact T2 (Kh (hq.1 rfl)).symm
  exact T2 (Yy (hq.2 rfl)).symm
 obtain⟨r,h1,h2⟩:=key;rw[h1,h2]
def QjW (O h:Int):WI O h=C (chC O h)/\TR (chC O h):=by
 obtain⟨r,h1,h2⟩:=QeP O h;unfold chC;rw[h1];exact⟨rfl,h2⟩
def ZB (O h:Int)(row:LI_):Gw O h row=C (decide (row∈chC O h)):=by
 have key:Qk (Gw O h row) λr=>r=decide (row∈chC O h):=by
  unfold Gw Wg Wf;obtain⟨e,hx⟩:=QjW O h;rw[e,Qh];generalize chC O h=x at hx;have hl:=hx.1;have key:Qk ((Qx (λst=>YG x row st) 0)) λq:Int⊕Unit=>(∀k,q=.inl k->0<=k/\row∈x)/\(q=.inr ()->row ∉ x):=by
   refine Qk.up x.length (λst=>st) (λst=>row ∉ x.take st.toNat) rfl (by simp) (λi st hi hn hJ=>?_);replace hi:st=(i:Int):=hi;subst hi;replace hJ:row ∉ x.take (i:Int).toNat:=hJ;rw[Jb]at hJ;show Qk (YG x row i) _;unfold YG LK;refine T1 (λhc=>?_) (λhc=>T2 (Qw ⟨λk e=>(by cases e),λ_=>?_⟩))
   ·simp only[QT]at hc;have i1:i<x.length:=by omega
    have:=hx.2 _ (Jc i1);rw[Xe,QI i1,Qh,Quk _ _ (by unfold maxLen;omega)];simp only[Qh];refine T1 (λhc2=>T2 (Qw ⟨λk e=>(by cases e;exact⟨by omega,by rw[<-QZ hc2];exact Jc i1⟩),λe=>by cases e⟩)) λhc2=>?_;have hw:Qf ((i:Int)+1)=((i+1:Nat):Int):=QE i1 (by unfold maxLen;omega:x.length<=maxLen);refine T2 (QY ⟨i1,hw,?_⟩);show row ∉ x.take (Qf ((i:Int)+1)).toNat;rw[hw,Jb,Hl,QI i1];simp only[Option.toList_some,Jy,Hk,not_or];exact⟨hJ,λe=>of_decide_eq_false hc2 e.symm⟩
   simp only[XA]at hc;rwa[DW (by omega)]at hJ
  obtain⟨q,hq1,hq2⟩:=key;rw[hq1];rcases q with q|q
  ·have:=hq2.1 q rfl;refine T2 ?_;rw[Yy this.2];exact Yy this.1
  refine T2 ?_;rw[Kh (hq2.2 rfl)];rfl
 obtain⟨r,h1,h2⟩:=key;rw[h1,h2]
def Qvt (l:L_ Qj)(k m:Int)(hl:Xg KH l):Qk (ET l k m) λr=>r.2=t_->0<=m/\∃z,Jk l k=C z/\m<z:=by
 unfold ET Jk;refine T0 (IR l k hl).self λx hx=>?_;obtain⟨hxe,hx⟩:=hx;refine T0 (P:=λr=>r=f_->x.1=t_/\0<=m/\∃h:0<=k/\k<(x.2.sizes.length:Int),m<x.2.sizes[k.toNat]'(by omega)) ?_ λr hr=>?_
 ·unfold MJ;refine T1 (λ_=>T2 λh=>by cases h) λO=>?_;have O:x.1=t_:=by simpa using O
  have h:=hx.2 O;have hk:k.toNat<x.2.sizes.length:=by omega
  have ei:idx x.2.sizes k=C x.2.sizes[k.toNat]:=QjH h.1.1 h.1.2;refine T0 (P:=λy=>y=t_->0<=m/\m<x.2.sizes[k.toNat]) ?_ λy hy=>T2 λhf=>?_
  ·unfold Dq;refine T0 (P:=λy=>y=t_->0<=m/\m<x.2.sizes[k.toNat]) ?_ λy hy=>T2 hy;unfold AP;refine T1 (λhc2=>?_) λ_=>T2 λh=>by cases h
   rw[h.2.1,ei,Qh];exact T2 λh=>⟨by simpa using hc2,by simpa using h⟩
  have:=hy (by simpa using hf);exact⟨O,this.1,h.1,this.2⟩
 unfold MK;refine T1 (λ_=>T2 λh=>by cases h) λO=>?_;obtain⟨h1,h2,h3,h4⟩:=hr O;have h:=hx.2 h1;have fin:0<=m/\∃z,((UT l k).bind λx5=>bif (!x5.1)then C 0 else(idx x5.2.sizes k).bind λe7=>C e7)=C z/\m<z:=⟨h2,x.2.sizes[k.toNat]'(by omega),by
  rw[hxe,Qh,h1];simp only[DT,Xn];rw[QjH h3.1 h3.2];rfl,h4⟩
 refine T0 (FN x.2 (by omega)) λ_ _=>?_;refine T1 (λ_=>?_) λ_=>T2 λ_=>fin;exact T0 (FN x.2 (by omega)) λ_ _=>T2 λ_=>fin
def Qzi {l d:LI_}(h:d.length=l.length)(O:∀(j:Nat) x s,d[j]? = C x->l[j]? = C s->0<=x/\x<s):inB l d:=by
 induction l generalizing d with
 |nil=>cases d with|nil=>trivial|cons x d=>simp at h
 |cons s r ih=>cases d with
  |nil=>simp at h|cons x d=>
   have:=O 0 x s rfl rfl;exact⟨this.1,.inr this.2,ih (by simpa using h) λj y z h1 h2=>O (j+1) y z (by simpa using h1) (by simpa using h2)⟩
def Qzj (n:Qg)(task:Int)(O:LI_)(h:XE n):Qk (UJ n task O) λr=>r.2=0->∃e,idx n.Tasks task=C e/\e∈n.Tasks/\inB (YF n e) O/\∀s∈YF n e,0<s:=by
 unfold UJ;refine T1 (λ_=>T2 λh=>by cases h) λhc=>?_;simp only[DH,XA]at hc;refine T0 (T4 (by omega) (by omega)).self λe he=>?_;have hv:=(h.tk e he.2).1;have ke:=h.k.2.2.1.2 e he.2;refine T1 (λ_=>T2 λh=>by cases h) λhl=>?_;simp only[WK]at hl;have hl:O.length=e.Vars.length:=by omega
 refine T0 (T5 (by simp only[QL,QT];omega)) λ_ _=>?_;refine T0 (Qk.up e.Vars.length (λst=>st.1) (λst=>st.2.length=e.Vars.length/\∀(j:Nat) x s,(j:Int)<st.1->O[j]? = C x->(YF n e)[j]? = C s->0<=x/\x<s) (Q:=λq:Unit⊕LI_=>∀out,q=.inr out->inB (YF n e) O/\∀s∈YF n e,0<s) rfl ⟨by simp,λj x s hj=>by simp at hj;omega⟩ (λi st hi hn hJ=>?_)) (λq hq=>?_)
 ·obtain⟨x,l⟩:=st;replace hi:x=(i:Int):=hi;subst hi;obtain⟨hJ,hJ2⟩:l.length=e.Vars.length/\∀(j:Nat) x s,(j:Int)<(i:Int)->O[j]? = C x->(YF n e)[j]? = C s->0<=x/\x<s:=hJ;show Qk (IB e O n i l) _;unfold IB;refine T1 (λhc=>?_) (λhc=>T2 (Qw λout _=>?_))
  ·simp only[QT]at hc;have i1:i<e.Vars.length:=by omega
   have i2:i<O.length:=by omega
   rw[Xe,QI i1,Qh,Xe,QI i2,Qh];refine T0 (Qvt _ _ _ h.k.1) λc hc3=>?_;refine T1 (λ_=>T2 (Qw λout e=>by cases e)) λhc4=>?_;obtain⟨h1,z,h2,h3⟩:=hc3 (by simpa using hc4);refine T0 (T4 (by omega) (by omega)) λd _=>?_;have hw:Qf ((i:Int)+1)=((i+1:Nat):Int):=QE i1 (by unfold maxLen;omega:e.Vars.length<=maxLen);refine T2 (QY ⟨i1,hw,by simpa using hJ,λj x s hj hx hs=>?_⟩);replace hj:(j:Int)<Qf ((i:Int)+1):=hj;rw[hw]at hj;by_cases cj:j=i
   ·subst cj;rw[QI i2]at hx;cases hx;unfold YF at hs;rw[Ya,QI i1,Jh,h2]at hs;cases hs;exact⟨h1,h3⟩
   exact hJ2 j x s (by omega) hx hs
  simp only[XA]at hc;have hb:∀(j:Nat) x s,O[j]? = C x->(YF n e)[j]? = C s->0<=x/\x<s:=λj x s hx hs=>hJ2 j x s (by have:=(QX.1 hx).1;omega) hx hs;refine⟨Qzi (by simp[YF,hl]) hb,λs hs=>?_⟩;obtain⟨j,hj,rfl⟩:=Lr.1 hs;have hj2:j<O.length:=by simp[YF]at hj;omega
  have:=hb j _ _ (QI hj2) (QI hj);omega
 rcases q with q|q
 ·exact T2 λh=>by cases h
 exact T2 λ_=>⟨e,he.1,he.2,hq q rfl⟩
def Qb2 {m:L_ QBg}{vars:LI_}{b:Xx}(h:XE n)(e:Kb n m O vars=C (0,b)):idx n.Tasks O=C b.task/\b.task∈n.Tasks/\b.net=n/\b.m=m/\(inB (YF n b.task) vars/\∀s∈YF n b.task,0<s)/\UJ n O vars=C (b.env,0):=by
 unfold Kb at e;obtain⟨x,hx,e⟩:=XO e;obtain⟨x1,x2⟩:=x;rcases KI e with⟨c,e⟩|⟨c,e⟩
 ·simp only[Option.some.injEq,Prod.mk.injEq]at e;simp only[e.1]at c;cases c
 simp only[WK]at c;subst c;obtain⟨t,ht,h1,h2⟩:=Bx (Qzj n O vars h) hx rfl;rw[ht,Qh]at e;simp only[Option.some.injEq,Prod.mk.injEq,true_and]at e;subst e;exact⟨ht,h1,rfl,rfl,h2,hx⟩
def Qvu {m:L_ QBg}(h:XE n)(hm:Xg (Xg λ_=>True) m)(ho:Wy n o):Kx n m o=C 0↔o∈Jx n m o.Task:=by
 rw[Sn];constructor
 ·intro e;unfold Kx at e;obtain⟨x,hx,e⟩:=XO e;obtain⟨c,b⟩:=x;have k3:∀g,WR (c,b) o g=C 0->g=0/\o.Ins∈chC b.task.Join b.task.Ins.length/\o.Outs∈chC b.task.Split b.task.Outs.length/\XU b o.Ins=C 0/\YB b o.Outs=C 0:=λg e=>by
   unfold WR at e;rcases KI e with⟨c2,e⟩|⟨c2,e⟩
   ·simp only[Option.some.injEq]at e;rw[e]at c2;cases c2
   simp only[WK]at c2;obtain⟨y,O,e⟩:=XO e;unfold LL at O;rw[ZB,Qh]at O;unfold LM at e;rcases KI e with⟨_,e⟩|⟨c3,e⟩
   ·cases e
   subst c3;rcases KI O with⟨_,O⟩|⟨c4,O⟩
   ·cases O
   rw[ZB,Qh]at O;simp only[Hg,QT]at c4;simp only[Option.some.injEq,Hg,QT]at O;obtain⟨z,hz,e⟩:=XO e;rcases KI e with⟨c5,e⟩|⟨c5,e⟩
   ·simp only[Option.some.injEq]at e;rw[e]at c5;cases c5
   simp only[WK]at c5;subst c5;obtain⟨w,hw,e⟩:=XO e;simp only[Option.some.injEq]at e;subst e;exact⟨c2,c4,O,hz,hw⟩
  have fin:c=0->XX b=C 0->(o.Ins∈chC b.task.Join b.task.Ins.length/\o.Outs∈chC b.task.Split b.task.Outs.length/\XU b o.Ins=C 0/\YB b o.Outs=C 0)->o.Task=o.Task/\∃e,idx n.Tasks o.Task=C e/\inB (YF n e) o.Vars/\o.Ins∈chC e.Join e.Ins.length/\o.Outs∈chC e.Split e.Outs.length/\∃b,Kb n m o.Task o.Vars=C (0,b)/\XX b=C 0/\XU b o.Ins=C 0/\YB b o.Outs=C 0:=λhc hg q=>by
   subst hc;obtain⟨h1,_,_,_,h2,_⟩:=Qb2 h hx;exact⟨rfl,b.task,h1,h2.1,q.1,q.2.1,b,hx,hg,q.2.2.1,q.2.2.2⟩
  rcases KI e with⟨c1,e⟩|⟨c1,e⟩
  ·simp only[beq_iff_eq]at c1;obtain⟨g,hg,e⟩:=XO e;obtain⟨rfl,q⟩:=k3 g e;exact fin c1 hg q
  have e1:=(k3 _ e).1;simp only[beq_eq_false_iff_ne]at c1;exact absurd e1 c1
 rintro ⟨_,e,he,h1,h2,h3,b,hb,hg,ht,hv⟩;obtain⟨k1,k2,_⟩:=Qb2 h hb;rw[he]at k1;cases k1;unfold Kx;rw[hb,Qh];simp only[show((0:Int)==0)=t_ from rfl,Xi,hg,Qh];unfold WR;simp only[show((0:Int) != 0)=f_ from rfl,Xn];unfold LL;rw[ZB,Qh,Yy h2];simp only[DT,Xn];rw[ZB,Qh,Yy h3,Qh];unfold LM;simp only[DT,Xn,ht,Qh,show((0:Int) != 0)=f_ from rfl,hv]
def QwT {m:L_ QBg}(h:XE n)(hm:Xg (Xg λ_=>True) m)(ho:o∈Jx n m O):Wy n o:=by
 obtain⟨_,e,he,h1,h2,h3,_⟩:=Sn.1 ho;have hem:e∈n.Tasks:=by
  unfold idx at he;split at he
  ·exact XG he
  cases he
 have hv:=(h.tk e hem).1;have hl:=QxL h1;have h4:=(QjW e.Join e.Ins.length).2.2 _ h2;have h5:=(QjW e.Split e.Outs.length).2.2 _ h3;have:(YF n e).length=e.Vars.length:=by simp[YF]
 exact⟨by omega,by omega,by omega⟩
def QjX {m:L_ QBg}(h:XE n)(O:Xg (Xg λ_=>True) m)(ho:o∈Dy n m):Wy n o:=QwT h O (QxS.1 ho)
def AT : LI_->Nat
 |[]=>1|s::r=>(1+(s-1).toNat)*AT r
def Qdz {α β:Type}{f:α->L_ β}:∀{l:L_ α},(∀x∈l,(f x).length<=c)->(l.flatMap f).length<=l.length*c:=by
 intro l
 induction l with
 |nil=>intro _;simp|cons x l ih=>
  intro h;have h1:=ih λy O=>h y (Yq _ O);have h2:=h x Yd;rw[PN,YR,DU,Nat.succ_mul];omega
def QxT (x:Int)(k:Nat):(upL x k).length=k:=by
 induction k generalizing x with|zero=>rfl|succ k h=>simp[upL,h]
def Qvv (l:LI_):(binds l).length<=AT l:=by
 induction l with
 |nil=>exact YK _|cons s r h=>
  rw[binds,AT];have:=Qdz (f:=λx=>(binds r).map (x::·)) (c:=AT r) (l:=0::upL 1 (s-1).toNat) λx _=>by simpa using h
  rw[DU,QxT]at this;rwa[Nat.add_comm 1]
def Qvw (l:LI_)(s:Int):AT (l++[s])=AT l*(1+(s-1).toNat):=by
 induction l with|nil=>simp[AT]|cons x l h=>simp only[List.cons_append,AT,h,Nat.mul_assoc]
def Qvx (l:LI_):0<AT l:=by
 induction l with|nil=>decide|cons s r h=>exact Nat.mul_pos (by omega) h
def Qvy (n:Qg)(m:L_ QBg)(h:Int){O outs:L_ LI_}(p:LI_)(hi:O.length<=16)(ho:outs.length<=16):(Us n m h O outs p).length<=256:=by
 unfold Us;cases Kb n m h p with
 |none=>simp|some x=>
  obtain⟨c,b⟩:=x;simp only;split
  ·refine Yx (Qdz (c:=16) λe _=>?_) (Ys 16 hi);split
   ·rw[KO];exact Yx (Nq _ _) ho
   simp
  simp
def Bd (n:Qg):Prop:=∀t∈n.Tasks,(0:Int)∈YF n t\/AT (YF n t)<=1024
def Qvz (m:L_ QBg)(O:Int)(h:XE n)(hb:Bd n):(Jx n m O).length<=262144:=by
 by_cases e0:Jx n m O=[]
 ·rw[e0];simp
 obtain⟨o,ho⟩:=List.exists_mem_of_ne_nil _ e0;obtain⟨_,e,he,_,_,_,b,hbd,_⟩:=Sn.1 ho;obtain⟨k1,k2,_,_,k3,_⟩:=Qb2 h hbd;rw[he]at k1;cases k1;unfold Jx;rw[he];simp only;refine Yx (Qdz (c:=256) λp _=>Qvy n m O p (QjW _ _).2.1 (QjW _ _).2.1) ?_;have h1:=Qvv (YF n b.task);rcases hb _ k2 with h2|h2
 ·have:=k3.2 0 h2;omega
 omega
def QxU (m:L_ QBg)(h:XE n)(O:Bd n):(Dy n m).length<=4194304:=by
 unfold Dy;refine Yx (Qdz (c:=262144) λk _=>Qvz m _ h O) ?_;have:=h.tl;rw[Qd5];omega
def Qul (n:Qg)(k:Int)(t:Qm)(b:Int)(h:XE n)(ht:idx n.Tasks k=C t)(htm:t∈n.Tasks)(hb:Dk n k=C b)(hle:b<=1024):(0:Int)∈YF n t\/AT (YF n t)<=1024:=by
 have hv:=(h.tk t htm).1;have hsz:(YF n t).length=t.Vars.length:=by simp[YF]
 have ha:JJ n.Tasks k=C t_:=by
  unfold JJ;unfold idx at ht;split at ht
  ·have:=(QX.1 ht).1;rw[Yy (by omega),Yy (by omega)];rfl
  cases ht
 have key:Qk (Dk n k) λb=>b<=1024->(0:Int)∈YF n t\/AT (YF n t)<=1024:=by
  unfold Dk;rw[ha,Qh];simp only[DT,Xn];rw[ht,Qh];refine T0 (Qk.up t.Vars.length (λst=>st.2) (λst=>st.1=min ((AT ((YF n t).take st.2.toNat):Nat):Int) 1025) (Q:=λq:Unit⊕Int=>(q=.inl ()->(0:Int)∈YF n t)/\∀o,q=.inr o->o=min ((AT (YF n t):Nat):Int) 1025) rfl (by show(1:Int)=min ((1:Nat):Int) 1025;omega) (λi st hi hn hJ=>?_)) (λq hq=>?_)
  ·obtain⟨out,x⟩:=st;replace hi:x=(i:Int):=hi;subst hi;replace hJ:out=min ((AT ((YF n t).take (i:Int).toNat):Nat):Int) 1025:=hJ;rw[Jb]at hJ;show Qk (Ah t n out i) _;unfold Ah;refine T1 (λhc=>?_) (λhc=>T2 (Qw ⟨λe=>(by cases e),λo e=>?_⟩))
   ·simp only[QT]at hc;have i1:i<t.Vars.length:=by omega
    rw[Xe,QI i1,Qh];refine T0 (WT _ _ h.k.1).self λz hz=>?_;obtain⟨hze,hz⟩:=hz;have hs:(YF n t)[i]? = C z:=by
     unfold YF;rw[Ya,QI i1,Jh,hze];rfl
    refine T1 (λO=>T2 (Qw ⟨λ_=>?_,λo e=>by cases e⟩)) λO=>?_
    ·simp only[beq_iff_eq]at O;subst O;exact XG hs
    simp only[beq_eq_false_iff_ne]at O;have hw:Qf ((i:Int)+1)=((i+1:Nat):Int):=QE i1 (by unfold maxLen;omega:t.Vars.length<=maxLen);refine T2 (QY ⟨i1,hw,?_⟩);show min2 (Qf (out*z)) 1025=min ((AT ((YF n t).take (Qf ((i:Int)+1)).toNat):Nat):Int) 1025;rw[hw,Jb,Hl,hs];show _=min ((AT ((YF n t).take i++[z]):Nat):Int) 1025;rw[Qvw];have hp:=Qvx ((YF n t).take i);generalize AT ((YF n t).take i)=P at hJ hp ⊢;obtain⟨Z,rfl⟩:∃Z:Nat,z=(Z:Int):=⟨z.toNat,by omega⟩;rw[show 1+((Z:Int)-1).toNat=Z by omega];have hZ:0<Z:=by omega
    have h1:(P:Int)*(Z:Int)=((P*Z:Nat):Int):=by simp
    by_cases c:P<=1025
    ·have:out=(P:Int):=by rw[hJ];omega
     rw[this,h1];have h2:P*Z<=1025*1024:=Nat.mul_le_mul c (by omega);rw[YH (by omega)];unfold min2;split<;>omega
    have:out=1025:=by rw[hJ];omega
    have h2:P<=P*Z:=Nat.le_mul_of_pos_right P hZ;rw[this,YH (by omega)];unfold min2;split<;>omega
   cases e;simp only[XA]at hc;rw[hJ,DW (by omega)]
  rcases q with q|q
  ·exact T2 λ_=>.inl (hq.1 rfl)
  refine T2 λhl=>.inr ?_;have:=hq.2 q rfl;omega
 exact Bx key hb hle
def Qum (n1:Qg)(k2:Int)(h:Kw n1 k2=C 0):∃b,Dk n1 k2=C b/\b<=1024:=by
 unfold Kw at h;obtain⟨x5,_,h⟩:=XO h;rcases KI h with⟨_,h⟩|⟨_,h⟩
 ·cases h
 obtain⟨x7,_,h⟩:=XO h;rcases KI h with⟨c,h⟩|⟨_,h⟩
 ·simp only[Option.some.injEq]at h;rw[h]at c;cases c
 obtain⟨e9,he9,h⟩:=XO h;obtain⟨e10,he10,h⟩:=XO h;obtain⟨_,_,h⟩:=XO h;obtain⟨_,_,h⟩:=XO h;obtain⟨_,_,h⟩:=XO h;obtain⟨_,_,h⟩:=XO h;obtain⟨x15,O,h⟩:=XO h;have bad:∀a b:Int,0<a->x15=(a,b)->False:=λa b ha e=>by
  subst e;simp only at h;rcases KI h with⟨c,h⟩|⟨_,h⟩
  ·simp only[beq_iff_eq]at c;omega
  simp only[Option.some.injEq]at h;omega
 unfold GW at O;obtain⟨x20,_,O⟩:=XO O;rcases KI O with⟨_,O⟩|⟨_,O⟩
 ·exact(bad _ _ (by decide) (Option.some.inj O).symm).elim
 obtain⟨x22,_,O⟩:=XO O;rcases KI O with⟨_,O⟩|⟨_,O⟩
 ·exact(bad _ _ (by decide) (Option.some.inj O).symm).elim
 obtain⟨x24,h24,O⟩:=XO O;rcases KI O with⟨_,O⟩|⟨c,O⟩
 ·exact(bad _ _ (by decide) (Option.some.inj O).symm).elim
 obtain⟨x26,h26,O⟩:=XO O;rcases KI O with⟨c2,O⟩|⟨_,O⟩
 ·have e:=(Option.some.inj O).symm;subst e;simp only at h;rcases KI h with⟨_,h⟩|⟨c3,_⟩
  ·simp only[Option.some.injEq]at h;unfold BL at h26;obtain⟨y,_,h26⟩:=XO h26;simp only[Option.some.injEq]at h26;rw[<-h26]at c2 h;simp only at h;subst h;cases c2
  cases c3
 obtain⟨x28,h28,O⟩:=XO O;rcases KI O with⟨_,O⟩|⟨c4,O⟩
 ·exact(bad _ _ (by decide) (Option.some.inj O).symm).elim
 unfold Ff at h28;obtain⟨b,hb,h28⟩:=XO h28;simp only[Option.some.injEq]at h28;rw[<-h28]at c4;exact⟨b,hb,by simpa using c4⟩
def Qzk (n1:Qg)(h:XE n1){p:Zs}(O:Eg n1=C (0,p)):Bd n1:=by
 unfold Eg at O;obtain⟨x6,_,O⟩:=XO O;rcases KI O with⟨c,O⟩|⟨_,O⟩
 ·simp only[Option.some.injEq,Prod.mk.injEq]at O;rw[O.1]at c;cases c
 obtain⟨x8,_,O⟩:=XO O;rcases KI O with⟨c,O⟩|⟨_,O⟩
 ·simp only[Option.some.injEq,Prod.mk.injEq]at O;rw[O.1]at c;cases c
 obtain⟨x10,_,O⟩:=XO O;rcases KI O with⟨c,O⟩|⟨_,O⟩
 ·simp only[Option.some.injEq,Prod.mk.injEq]at O;rw[O.1]at c;cases c
 obtain⟨x12,h12,O⟩:=XO O;rcases KI O with⟨c,O⟩|⟨c,O⟩
 ·simp only[Option.some.injEq,Prod.mk.injEq]at O;rw[O.1]at c;cases c
 simp only[WK]at c;obtain⟨r,hr,hr2⟩:=QlP n1.Tasks n1 h.k h.k.2.2.1;rw[h12]at hr;cases hr;intro t ht;have htm:=ht;obtain⟨j,hj,rfl⟩:=Lr.1 ht;obtain⟨b,hb,hb2⟩:=Qum n1 j (hr2 c j hj);exact Qul n1 j _ b h (by rw[Xe,QI hj]) htm hb hb2
def QxV (n1:Qg)(m:L_ QBg)(h:XE n1)(O:FG n1 m=C t_):Bd n1:=by
 unfold FG at O;obtain⟨x5,_,O⟩:=XO O;obtain⟨x6,_,O⟩:=XO O;rcases KI O with⟨_,O⟩|⟨_,O⟩
 ·cases O
 obtain⟨x11,h11,O⟩:=XO O;obtain⟨x12,h12,O⟩:=XO O;unfold TK at O;rcases KI O with⟨_,O⟩|⟨c,_⟩
 ·cases O
 subst c;unfold TI at h12;rcases KI h12 with⟨_,h12⟩|⟨c,_⟩
 ·cases h12
 simp only[WK]at c;obtain⟨a,b⟩:=x11;simp only at c;subst c;exact Qzk n1 h h11
def KN (n:Qg)(m:L_ Bag):Prop:=KA n 1024 m/\Mc n m
def KN.len (O:KN n m)(h:XE n):Xg (Xg λ_=>True) m:=O.1.len h (by omega)
def QwU (h:XE n)(hm:KA n c m)(hl:Mc n m):KN n m:=by
 refine⟨⟨hm.1,λb hb=>?_⟩,hl⟩;have hr:=(hm.2 b hb).1;refine⟨hr,?_⟩;obtain⟨j,hj,rfl⟩:=Lr.1 hb;have hj2:j<n.Places.length:=by have:=hm.1;omega
 by_cases c0:(m[j]).length=0
 ·omega
 have O:(m[j]).length-1<(m[j]).length:=by omega
 have h1:=Qto hr.1 (a:=0) (λp hp=>(hr.2 p hp).1) ((m[j]).length-1) O;have h2:=IY hr.1.nd (Jc O);have h3:=(hr.2 _ (Jc O)).2.1;obtain⟨z,hz,hk⟩:=hl j _ _ (QI hj) (QI hj2) _ (by rw[h2];omega);have:=Bx (WT _ _ h.k.1) hz;omega
def Qqg (h:XE n)(hg:KN n m)(ho:Wy n o)(hD:YZ n m o=C (x,0)):KN n x:=by
 obtain⟨hm,hl⟩:=hg;have hpl:=h.pl;have hm1:=hm.1;have hx:=Bx (QwP n m o 1024 h hm (by omega) ho) hD rfl;obtain⟨t,hT,hG⟩:=QsI hD;obtain⟨hCk,need,hN,hL⟩:=QoR hT;obtain⟨hnd,hndl⟩:=Bx (Qts n o h ho) hN rfl;have ht:=Bx (Qvp n m o 1024 h hm (by omega) ho) hT rfl;obtain⟨_,eL⟩:=(Bx (Qtc n m need 1024 20 h hm hnd (by omega)) hL).1 rfl;have htl:Mc n t:=λj b p hb hp k hk=>by
  have hj:=(QX.1 hp).1;obtain⟨a,ha,ha1,ha2⟩:=QrF hm hj;obtain⟨u,hu,hu1,hu2⟩:=QrF hnd hj;obtain⟨p',O,hp2⟩:=eL j a u ha hu;have O:t[j]? = C p':=O;rw[hb]at O;cases O;have q:=QxQ (by omega) hp2;have:=hu1.cnt k;have:=q.2.2.2.2 k;exact hl j a p ha hp k (by omega)
 exact QwU h hx (Bx (QwQ n t o (1024+20) h ht htl (by omega) ho) hG rfl)
def XQ : Nat->Int->LI_
 |0,_=>[]|k+1,x=>IntKind.u8.wrap (Yl .i64 x (Qf (8*(k:Int))))::XQ k x
def Ks (k:Nat)(x:Int):(XQ k x).length=k:=by
 induction k with|zero=>rfl|succ k h=>simp[XQ,h]
def Qqh {α β:Type}{f:α->L_ β}:∀{l:L_ α},(∀x∈l,(f x).length=c)->(l.flatMap f).length=l.length*c:=by
 intro l
 induction l with
 |nil=>intro _;simp|cons x l ih=>
  intro h;have h1:=ih λy O=>h y (Yq _ O);have h2:=h x Yd;rw[PN,YR,DU,Nat.succ_mul];omega
def QwV (e:Int)(h:Nat)(O:LI_)(hs:h<=8)(hl:O.length+h<=4294967296):Qx (λst=>Aw e st.1 st.2) ((Qf ((h:Int)-1)),O)=C (O++XQ h e):=by
 obtain⟨r,h1,h2⟩:=(Qk.up (body:=λst:Int×LI_=>Aw e st.1 st.2) h (λst=>(h:Int)-1-st.1) (λst=>-1<=st.1/\st.2.length+(st.1+1).toNat=O.length+h/\st.2++XQ (st.1+1).toNat e=O++XQ h e) (Q:=λq:LI_=>q=O++XQ h e) (s0:=((Qf ((h:Int)-1)),O))
  (by show(h:Int)-1-Qf ((h:Int)-1)=0;rw[YH (by omega)];omega) (by
   show -1<=Qf ((h:Int)-1)/\O.length+(Qf ((h:Int)-1)+1).toNat=_/\O++XQ (Qf ((h:Int)-1)+1).toNat e=_;rw[YH (by omega),show((h:Int)-1+1).toNat=h by omega];exact⟨by omega,rfl,rfl⟩) (λi st hi hn hJ=>by
   obtain⟨k,l⟩:=st;replace hi:(h:Int)-1-k=(i:Int):=hi;obtain⟨j0,j1,j2⟩:-1<=k/\l.length+(k+1).toNat=O.length+h/\l++XQ (k+1).toNat e=O++XQ h e:=hJ;show Qk (Aw e k l) _;unfold Aw;refine T1 (λhc=>?_) (λhc=>T2 (Qw ?_))
   ·simp only[QT]at hc;have hw:Qf (8*k)=8*k:=YH (by omega);have hw2:Qf (k-1)=k-1:=YH (by omega);have e1:(k+1).toNat=k.toNat+1:=by omega
    refine T0 (T5 (by rw[hw];simp only[QT];omega)) λ_ _=>?_;refine T0 (T5 (by simp;omega)) λ_ _=>?_;refine T2 (QY ⟨by omega,by show(h:Int)-1-Qf (k-1)=_;rw[hw2];omega,?_⟩);show -1<=Qf (k-1)/\(l++[_]).length+(Qf (k-1)+1).toNat=_/\(l++[_])++XQ (Qf (k-1)+1).toNat e=_;rw[hw2,show(k-1+1).toNat=k.toNat by omega];rw[e1,XQ,show((k.toNat:Nat):Int)=k by omega]at j2;refine⟨by omega,by simp;omega,?_⟩;rw[WC];exact j2
   simp only[XA]at hc;rw[show(k+1).toNat=0 by omega,XQ,Zg]at j2;exact j2))
 rw[h1,h2]
def QsK (O:LI_)(h:Nat)(l:LI_)(hs:h<=8)(hl:O.length+8*l.length<=4294967296):Br O h l=C (O++l.flatMap (XQ h)):=by
 unfold Br;obtain⟨r,h1,h2⟩:=(Qk.up (body:=λst:Int×LI_=>HN l h st.1 st.2) l.length (λst=>st.1) (λst=>st.2=O++(l.take st.1.toNat).flatMap (XQ h)) (Q:=λq:LI_=>q=O++l.flatMap (XQ h)) (s0:=((0:Int),O)) rfl (by simp) (λi st hi hn hJ=>by
  obtain⟨x,a⟩:=st;replace hi:x=(i:Int):=hi;subst hi;replace hJ:a=O++(l.take (i:Int).toNat).flatMap (XQ h):=hJ;rw[Jb]at hJ;show Qk (HN l h i a) _;unfold HN;refine T1 (λhc=>?_) (λhc=>T2 (Qw ?_))
  ·simp only[QT]at hc;have i1:i<l.length:=by omega
   have hlen:a.length=O.length+i*h:=by
    rw[hJ,YR,Qqh (c:=h) λx _=>Ks h x,Kd,HZ (by omega)]
   have hm:i*h<=i*8:=Nat.mul_le_mul_left i hs;rw[Xe,QI i1,Qh,QwV _ h a hs (by omega),Qh];unfold Qc8;have hw:Qf ((i:Int)+1)=((i+1:Nat):Int):=QE i1 (by unfold maxLen;omega:l.length<=maxLen);refine T2 (QY ⟨i1,hw,?_⟩);show a++XQ h l[i]=O++(l.take (Qf ((i:Int)+1)).toNat).flatMap (XQ h);rw[hw,Jb,Hl,QI i1,hJ,Qd4,WC];simp
  simp only[XA]at hc;rw[hJ,DW (by omega)]))
 rw[h1,h2];rfl
def QxW (h:Nat)(l:LI_):Qa6 h l=Br [] h l:=rfl
def TU (b:Bag):LI_:=XQ 2 b.length++b.flatMap λp=>XQ 4 p.1++XQ 4 p.2
def Qko (m:L_ Bag):LI_:=XQ 1 m.length++m.flatMap TU
def QmX (b:Bag):(TU b).length=2+8*b.length:=by
 unfold TU;rw[YR,Ks,Qqh (c:=8) λx _=>by simp[Ks]];omega
def QvA (h:XE n)(hg:KN n m)(hml:m.length<=64):IH m=C (Qko m,0):=by
 unfold IH;rw[Kh (by omega),Xn,show(1:Int)=((1:Nat):Int)from rfl,QxW,QsK [] 1 _ (by omega) (by simp),Qh];have hb:∀b∈m,Rt b/\b.length<=1024:=hg.1.2;have hmem:∀b∈m,∀p∈b,p.1<=1024:=λb hb' p hp=>by
  obtain⟨j,hj,rfl⟩:=Lr.1 hb';have hj2:j<n.Places.length:=by have:=hg.1.1;omega
  have hr:=(hb _ hb').1;have h2:=IY hr.1.nd hp;have h3:=(hr.2 _ hp).2.1;obtain⟨z,hz,hk⟩:=hg.2 j _ _ (QI hj) (QI hj2) p.1 (by rw[h2];omega);have:=Bx (WT _ _ h.k.1) hz;omega
 have lens:∀i,i<=m.length->((m.take i).flatMap TU).length<=i*8194:=λi hi=>by
  have:=Qdz (f:=TU) (c:=8194) (l:=m.take i) λb hb'=>by
   have:=(hb b (DV hb')).2;rw[QmX];omega
  rw[Kd,HZ hi]at this;exact this
 obtain⟨r,h1,h2⟩:=(Qk.up (body:=λst:Int×LI_=>HP m st.1 st.2) m.length (λst=>st.1) (λst=>st.2=XQ 1 m.length++(m.take st.1.toNat).flatMap TU) (Q:=λq:Unit⊕LI_=>q=.inr (Qko m)) (s0:=((0:Int),[]++[(m.length:Int)].flatMap (XQ 1))) rfl (by simp) (λi st hi hn hJ=>by
  obtain⟨x,a⟩:=st;replace hi:x=(i:Int):=hi;subst hi;replace hJ:a=XQ 1 m.length++(m.take (i:Int).toNat).flatMap TU:=hJ;rw[Jb]at hJ;show Qk (HP m i a) _;unfold HP;refine T1 (λhc=>?_) (λhc=>T2 (Qw ?_))
  ·simp only[QT]at hc;have i1:i<m.length:=by omega
   have hbm:=Jc i1;have hr:=(hb _ hbm).1;have hrl:=(hb _ hbm).2;have hal:a.length<=1+i*8194:=by
    have:=lens i (by omega);rw[hJ,YR,Ks];omega
   rw[Xe,QI i1,Qh];have g1:RN m[i]=C f_:=by
    unfold RN;rw[Qdw _ (by unfold maxLen;omega),Qh,Ur.2 hr];simp only[DT,Xn];rw[Kh (by omega),Xn];by_cases c0:(m[i]).length=0
    ·rw[Kh (by omega)];rfl
    have O:(m[i]).length-1<(m[i]).length:=by omega
    rw[Yy (by omega),Xi,YH (by omega),show((m[i]).length:Int)-1=(((m[i]).length-1:Nat):Int) by omega,Xe,QI O,Qh];have:=hmem _ hbm _ (Jc O);rw[Kh (by omega)]
   rw[g1,Qh];unfold Qdb;rw[Xn,show(2:Int)=((2:Nat):Int)from rfl,QsK a 2 _ (by omega) (by simp;omega),Qh];have inner:Qk (Qx (λst=>HO m[i] st.1 st.2) ((0:Int),a++[((m[i]).length:Int)].flatMap (XQ 2))) λq:LI_=>q=a++TU m[i]:=by
    refine Qk.up (m[i]).length (λst=>st.1) (λst=>st.2=a++(XQ 2 (m[i]).length++((m[i]).take st.1.toNat).flatMap λp=>XQ 4 p.1++XQ 4 p.2)) rfl (by simp) (λk st hk hn2 hK=>?_);obtain⟨x,c⟩:=st;replace hk:x=(k:Int):=hk;subst hk;replace hK:c=a++(XQ 2 (m[i]).length++((m[i]).take (k:Int).toNat).flatMap λp=>XQ 4 p.1++XQ 4 p.2):=hK;rw[Jb]at hK;show Qk (HO m[i] k c) _;unfold HO;refine T1 (λhc2=>?_) (λhc2=>T2 (Qw ?_))
    ·simp only[QT]at hc2;have k1:k<(m[i]).length:=by omega
     have hcl:c.length=a.length+2+k*8:=by
      rw[hK,YR,YR,Ks,Qqh (c:=8) λx _=>by simp[Ks],Kd,HZ (by omega)];omega
     rw[Xe,QI k1,Qh,show(4:Int)=((4:Nat):Int)from rfl,QsK c 4 _ (by omega) (by simp;omega),Qh];have hw:Qf ((k:Int)+1)=((k+1:Nat):Int):=QE k1 (by unfold maxLen;omega:(m[i]).length<=maxLen);refine T2 (QY ⟨k1,hw,?_⟩);show c++[(m[i])[k].1,(m[i])[k].2].flatMap (XQ 4)=a++(XQ 2 (m[i]).length++((m[i]).take (Qf ((k:Int)+1)).toNat).flatMap λp=>XQ 4 p.1++XQ 4 p.2);rw[hw,Jb,Hl,QI k1,hK,Qd4];simp
    simp only[XA]at hc2;rw[hK,DW (by omega)];rfl
   obtain⟨q,hq1,rfl⟩:=inner;rw[hq1,Qh];unfold Qda;have hw:Qf ((i:Int)+1)=((i+1:Nat):Int):=QE i1 (by unfold maxLen;omega:m.length<=maxLen);refine T2 (QY ⟨i1,hw,?_⟩);show a++TU m[i]=XQ 1 m.length++(m.take (Qf ((i:Int)+1)).toNat).flatMap TU;rw[hw,Jb,Hl,QI i1,hJ,Qd4,WC];simp
  simp only[XA]at hc;rw[hJ,DW (by omega)];rfl))
 rw[h1,h2];rfl
def Kf (m:L_ Bag):ByteArray:=PR (if m.length<=64 then Qko m else [])
def Qzl (h:XE n)(O:KN n m):IW m=C (Kf m):=by
 unfold IW Kf;by_cases c:m.length<=64
 ·rw[QvA h O c,if_pos c];rfl
 rw[if_neg c];unfold IH;rw[Yy (by omega)];rfl
def FM (mm:L_ (ByteArray×Bool))(l:L_ (L_ Bag)):Prop:=∀k,(Qy mm k).getD f_=l.any λy=>decide (Kf y=k)
def FM.add {mm:L_ (ByteArray×Bool)}{l:L_ (L_ Bag)}(h:FM mm l)(x:L_ Bag):FM (XF Ab mm (Kf x) t_) (l++[x]):=λk=>by
 rw[Wx,List.any_append];by_cases c:k=Kf x
 ·subst c;rw[if_pos rfl];simp
 rw[if_neg c,h k];have:decide (Kf x=k)=f_:=Kh λe=>c e.symm;simp[this]
def BdJ (n:Qg):Prop:=Bd n/\∀t∈n.Tasks,t.Join≠3
def QvB (n:Qg)(m:L_ Bag)(o:Qq)(h:Int):Int:=if Kx n m o=C 0 then(match idx n.Tasks o.Task with|some e=>1|none=>0)else 0
def Qun (h:XE n)(hm:Xg (Xg λ_=>True) m)(ho:Wy n o)(hc:Kx n m o=C 0):∃e,idx n.Tasks o.Task=C e/\e∈n.Tasks:=by
 obtain⟨_,e,O,_,_,_,b,hb,_⟩:=Sn.1 ((Qvu h hm ho).1 hc);obtain⟨k1,k2,_⟩:=Qb2 h hb;rw[O]at k1;cases k1;exact⟨_,O,k2⟩
def QwW (o:Qq)(O:Int)(h:XE n)(hb:BdJ n)(hg:KN n m)(ho:Wy n o):Fs n m o O=C (QvB n m o O):=by
 unfold Fs QvB;obtain⟨c,hc,_⟩:=Qtr n m o h (hg.len h) ho;rw[hc,Qh];by_cases c0:c=0
 ·subst c0;obtain⟨e,he,hm⟩:=Qun h (hg.len h) ho hc;rw[if_pos rfl,he];simp only[show((0:Int) != 0)=f_ from rfl,Xn,Qh];rw[show(e.Join != 3)=t_ by simpa using hb.2 e hm];rfl
 rw[if_neg (λe=>c0 (Option.some.inj e)),show(c != 0)=t_ by simpa using c0];rfl
def Qxt (x:Int):IntKind.u8.wrap x=x % 256:=rfl
def Qb4 (k:Nat)(x:Int)(h:k<8):IntKind.u8.wrap (Yl .i64 x (Qf (8*(k:Int))))=(x / (2 ^ (8*k):Nat)) % 256:=by
 rw[Qxt,YH (by omega)];unfold Yl;rw[show(8*(k:Int)).toNat=8*k by omega,show min (8*k) (IntKind.bits .i64)=8*k from HZ (by show 8*k<=64;omega),Int.fdiv_eq_ediv_of_nonneg _ (Int.pow_nonneg (by omega))];simp
def QsL (x:Int):XQ 2 x=[x / 256 % 256,x % 256]:=by
 simp only[XQ,Qb4 0 x (by omega),Qb4 1 x (by omega)];simp
def QsM (x:Int):XQ 4 x=[x / 16777216 % 256,x / 65536 % 256,x / 256 % 256,x % 256]:=by
 simp only[XQ,Qb4 0 x (by omega),Qb4 1 x (by omega),Qb4 2 x (by omega),Qb4 3 x (by omega)];simp
def Qz4 {x y:Int}(O:0<=x/\x<65536)(hy:0<=y/\y<65536)(h:XQ 2 x=XQ 2 y):x=y:=by
 rw[QsL,QsL]at h;simp only[List.cons.injEq,and_true]at h;omega
def Qxu {x y:Int}(O:0<=x/\x<4294967296)(hy:0<=y/\y<4294967296)(h:XQ 4 x=XQ 4 y):x=y:=by
 rw[QsM,QsM]at h;simp only[List.cons.injEq,and_true]at h;omega
def QhF {k:Nat}{x:Int}(hk:k<=8):∀b∈XQ k x,0<=b/\b<256:=by
 induction k with
 |zero=>intro b h;cases h
 |succ k O=>
  intro b h;rcases Yw.1 h with rfl|h
  ·rw[Qxt];omega
  exact O (by omega) b h
def Quo (p:Int×Int):LI_:=XQ 4 p.1++XQ 4 p.2
def QsN (p:Int×Int):(Quo p).length=8:=by simp[Quo,Ks]
def InP (p:Int×Int):Prop:=(0<=p.1/\p.1<4294967296)/\0<=p.2/\p.2<4294967296
def QwX : ∀(a b:Bag),a.length=b.length->(∀p∈a,InP p)->(∀p∈b,InP p)->a.flatMap Quo=b.flatMap Quo->a=b:=by
 intro a
 induction a with
 |nil=>intro b h _ _ _;exact(Np.1 (by simpa using h.symm)).symm|cons p a ih=>
  intro b h ha hb e;cases b with
  |nil=>simp at h|cons q b=>
   rw[PN,PN]at e;obtain⟨e1,e2⟩:=List.append_inj e (by rw[QsN,QsN]);obtain⟨e3,e4⟩:=List.append_inj e1 (by rw[Ks,Ks]);have hp:=ha p Yd;have hq:=hb q Yd;have f1:=Qxu hp.1 hq.1 e3;have f2:=Qxu hp.2 hq.2 e4;rw[Prod.ext f1 f2,ih b (by simpa using h) (λr O=>ha r (Yq _ O)) (λr O=>hb r (Yq _ O)) e2]
def InB (b:Bag):Prop:=b.length<65536/\∀p∈b,InP p
def QwY : ∀(a b:L_ Bag),a.length=b.length->(∀x∈a,InB x)->(∀x∈b,InB x)->a.flatMap TU=b.flatMap TU->a=b:=by
 intro a
 induction a with
 |nil=>intro b h _ _ _;exact(Np.1 (by simpa using h.symm)).symm|cons x a ih=>
  intro b h ha hb e;cases b with
  |nil=>simp at h|cons y b=>
   have hx:=ha x Yd;have hy:=hb y Yd;rw[PN,PN]at e;have e':=e;unfold TU at e';rw[WC,WC]at e';have e1:=(List.append_inj e' (by rw[Ks,Ks])).1;have O:=Qz4 (x:=(x.length:Int)) (y:=(y.length:Int)) ⟨by omega,by have:=hx.1;omega⟩ ⟨by omega,by have:=hy.1;omega⟩ e1;have O:x.length=y.length:=by omega
   obtain⟨f1,f2⟩:=List.append_inj e (by rw[QmX,QmX,O]);have f3:=(List.append_inj f1 (by rw[Ks,Ks])).2;rw[QwX x y O hx.2 hy.2 f3,ih b (by simpa using h) (λr hr=>ha r (Yq _ hr)) (λr hr=>hb r (Yq _ hr)) f2]
def QoS (l:LI_):(PR l).data.toList=l.map λx=>UInt8.ofNat x.toNat:=by
 unfold PR;have:∀(l:LI_) (r:ByteArray),(l.foldl (λr n=>r.push (UInt8.ofNat n.toNat)) r).data.toList=r.data.toList++l.map λx=>UInt8.ofNat x.toNat:=by
  intro l
  induction l with|nil=>intro r;simp|cons x l h=>intro r;rw[List.foldl_cons,h];simp[ByteArray.push]
 rw[this];rfl
def QvC {a b:LI_}(ha:∀x∈a,0<=x/\x<256)(hb:∀x∈b,0<=x/\x<256)(h:PR a=PR b):a=b:=by
 have e:(a.map λx=>UInt8.ofNat x.toNat)=b.map λx=>UInt8.ofNat x.toNat:=by rw[<-QoS,<-QoS,h]
 clear h
 induction a generalizing b with
 |nil=>cases b with|nil=>rfl|cons y b=>simp at e
 |cons x a ih=>cases b with
  |nil=>simp at e|cons y b=>
   simp only[GC,List.cons.injEq]at e;have h1:=ha x Yd;have h2:=hb y Yd;have e1:=congrArg UInt8.toNat e.1;rw[UInt8.toNat_ofNat',UInt8.toNat_ofNat']at e1;have:x=y:=by omega
   rw[this,ih (λz O=>ha z (Yq _ O)) (λz O=>hb z (Yq _ O)) e.2]
def QsO (m:L_ Bag):∀x∈Qko m,0<=x/\x<256:=by
 intro x h;unfold Qko at h;rcases Jy.1 h with h|h
 ·exact QhF (by omega) x h
 obtain⟨b,_,h⟩:=List.mem_flatMap.1 h;unfold TU at h;rcases Jy.1 h with h|h
 ·exact QhF (by omega) x h
 obtain⟨p,_,h⟩:=List.mem_flatMap.1 h;rcases Jy.1 h with h|h
 ·exact QhF (by omega) x h
 exact QhF (by omega) x h
def Qtu (h:XE n)(O:KN n m):∀b∈m,InB b:=λb hb=>by
 obtain⟨hr,hl⟩:=O.1.2 b hb;refine⟨by omega,λp hp=>?_⟩;have h1:=hr.2 p hp;obtain⟨j,hj,rfl⟩:=Lr.1 hb;have hj2:j<n.Places.length:=by have:=O.1.1;omega
 have h2:=IY hr.1.nd hp;obtain⟨z,hz,hk⟩:=O.2 j _ _ (QI hj) (QI hj2) p.1 (by rw[h2];omega);have:=Bx (WT _ _ h.k.1) hz;exact⟨⟨h1.1,by omega⟩,by omega,by omega⟩
def QxX {a b:L_ Bag}(h:XE n)(hp:n.Places.length<=64)(O:KN n a)(hb:KN n b)(e:Kf a=Kf b):a=b:=by
 have ha1:=O.1.1;have hb1:=hb.1.1;unfold Kf at e;rw[if_pos (by omega),if_pos (by omega)]at e;have e:=QvC (QsO a) (QsO b) e;unfold Qko at e;exact QwY a b (by omega) (Qtu h O) (Qtu h hb) (List.append_inj e (by rw[Ks,Ks])).2
def QwZ (O:Int)(h:XE n)(hb:BdJ n)(hg:KN n m):Qk (Ul n m O 9223372036854775807) λr=>r.1.length<=4194304/\∀o∈r.1,o∈Dy n m:=by
 have hml:=hg.len h;have hal:=QxU m h hb.1;unfold Ul;rw[QwS n m 9223372036854775807 h hml (by omega) (by omega) (.inr (by omega)),Qh];have e0:(Dy n m).take (9223372036854775807:Int).toNat=Dy n m:=DW (by omega);rw[e0];have hok:=λo=>QjX (o:=o) h hml;refine T0 (Qk.up (Dy n m).length (λst=>st.2.1) (λst=>(st.2.2.1.length:Int)<=st.2.1/\∀o∈st.2.2.1,o∈Dy n m) (Q:=λq:Bool×L_ Qq=>q.2.length<=4194304/\∀o∈q.2,o∈Dy n m) rfl ⟨by simp,λo h=>(by cases h)⟩ (λi st hi hn hJ=>?_)) (λq hq=>T2 hq);obtain⟨known,x,l,mm⟩:=st;replace hi:x=(i:Int):=hi;subst hi;obtain⟨j1,j2⟩:(l.length:Int)<=(i:Int)/\∀o∈l,o∈Dy n m:=hJ;show Qk (RL (Dy n m) n m O known i l mm) _;unfold RL;refine T1 (λhc=>?_) (λhc=>T2 (Qw ⟨by show l.length<=_;omega,j2⟩));simp only[QT]at hc;have i1:i<(Dy n m).length:=by omega
 have hw:Qf ((i:Int)+1)=((i+1:Nat):Int):=QE i1 (by unfold maxLen;omega:(Dy n m).length<=maxLen);have ho:=Jc i1;rw[Xe,QI i1,Qh];generalize (Dy n m)[i]=o at ho ⊢;have k1:∀(known':Bool) l' mm',(l'.length:Int)<=(i:Int)+1->(∀o∈l',o∈Dy n m)->Qk (GY i known' l' mm') λr=>(∀s',r=.inl s'->i<(Dy n m).length/\s'.2.1=((i+1:Nat):Int)/\(s'.2.2.1.length:Int)<=s'.2.1/\∀o∈s'.2.2.1,o∈Dy n m)/\∀q:Bool×L_ Qq,r=.inr q->q.2.length<=4194304/\∀o∈q.2,o∈Dy n m:=λknown' l' mm' h1 h2=>by
  unfold GY;exact T2 (QY (ix:=λst:Bool×Int×L_ Qq×QBg=>st.2.1) (J:=λst:Bool×Int×L_ Qq×QBg=>(st.2.2.1.length:Int)<=st.2.1/\∀o∈st.2.2.1,o∈Dy n m) ⟨i1,hw,by show(l'.length:Int)<=Qf _;rw[hw];omega,h2⟩)
 have k2:∀mm',Qk (Aq o l i known mm') λr=>(∀s',r=.inl s'->i<(Dy n m).length/\s'.2.1=((i+1:Nat):Int)/\(s'.2.2.1.length:Int)<=s'.2.1/\∀o∈s'.2.2.1,o∈Dy n m)/\∀q:Bool×L_ Qq,r=.inr q->q.2.length<=4194304/\∀o∈q.2,o∈Dy n m:=λmm'=>by
  unfold Aq;refine T1 (λc1=>?_) λc1=>T1 (λc2=>k1 _ _ _ (by omega) j2) λc2=>k1 _ _ _ (by omega) j2;refine T0 (T5 (by simp;omega)) λ_ _=>k1 _ _ _ (by simp;omega) λo' ho'=>?_;rcases Jy.1 ho' with ho'|ho'
  ·exact j2 o' ho'
  simp at ho';subst ho';exact ho
 refine T1 (λc=>?_) λc=>k2 _;rw[QwW o O h hb hg (hok o ho),Qh];exact k2 _
def KC (n:Qg)(m:L_ Bag)(h:Int):L_ Qq×Bool:=(Ul n m h 9223372036854775807).getD ([],f_)
def Qkp (O:Int)(h:XE n)(hb:BdJ n)(hg:KN n m):Ul n m O 9223372036854775807=C (KC n m O)/\(KC n m O).1.length<=4194304/\∀o∈(KC n m O).1,o∈Dy n m:=by
 obtain⟨r,h1,h2⟩:=QwZ O h hb hg;unfold KC;rw[h1];exact⟨rfl,h2⟩
def HW (L:L_ (L_ Bag))(s:ByteArray):O_ Nat:=L.findIdx? λy=>decide (Kf y=s)
def FI (mm:L_ (ByteArray×Int))(L:L_ (L_ Bag)):Prop:=∀s,Qy mm s=(HW L s).map λi=>(i:Int)
def Qw0 (L:L_ (L_ Bag))(y:L_ Bag)(s:ByteArray):HW (L++[y]) s=match HW L s with
  |some i=>C i|none=>if Kf y=s then C L.length else none:=by
 unfold HW;rw[List.findIdx?_append];cases L.findIdx? λy=>decide (Kf y=s)with
 |some i=>rfl|none=>
  by_cases c:Kf y=s
  ·simp[c,List.findIdx?_cons]
  simp[c,List.findIdx?_cons]
def QvD (h:HW L s=C i):∃y,L[i]? = C y/\Kf y=s:=by
 unfold HW at h;obtain⟨O,h2,_⟩:=List.findIdx?_eq_some_iff_getElem.1 h;exact⟨L[i],QI O,QZ h2⟩
def QvE (h:HW L s=none):∀y∈L,Kf y≠s:=λy O e=>by
 unfold HW at h;have:=List.findIdx?_eq_none_iff.1 h y O;exact absurd (Yy e) (by rw[this];decide)
def FI.add (h:FI mm L)(O:HW L (Kf y)=none):FI (XF Ab mm (Kf y) (L.length:Int)) (L++[y]):=λs=>by
 rw[Wx,Qw0];by_cases c:s=Kf y
 ·subst c;rw[if_pos rfl,O];simp
 rw[if_neg c,h s];cases HW L s with|some i=>rfl|none=>simp only;rw[if_neg λe=>c e.symm]
def Xt (b:Int):Nat:=(min2 b 4096).toNat
def QxY (h:XE n)(O:KN n m):IW m=C (Kf m):=Qzl h O
def QoT (b:Int)(E:L_ Xj)(full:Bool)(h:XE n)(hg:KN n y)(hI:FI mm L)(hb:0<b):
  ∃k O mm',Df n.Colours n.Places n.Tasks n.From n.To b mm L E full y=C (k,O,n.Colours,n.Places,n.Tasks,n.From,n.To,b,full,mm')/\FI mm' O/\
   ((∃i:Nat,HW L (Kf y)=C i/\k=(i:Int)/\O=L)\/(HW L (Kf y)=none/\Xt b<=L.length/\k=-1/\O=L)\/(HW L (Kf y)=none/\¬Xt b<=L.length/\k=(L.length:Int)/\O=L++[y])):=by
 have hmost:(Xt b:Int)=min2 b 4096:=by unfold Xt min2;split<;>omega
 have hm2:Xt b<=4096:=by unfold Xt min2;split<;>omega
 unfold Df;rw[QxY h hg,Qh,hI (Kf y)];cases hp:HW L (Kf y)with
 |some i=>exact⟨i,L,mm,rfl,hI,.inl ⟨i,rfl,rfl,rfl⟩⟩|none=>
  simp only[CQ,Option.isSome_none,Xn];cases hc:decide (min2 b 4096<=(L.length:Int))with
  |true=>exact⟨-1,L,mm,rfl,hI,.inr (.inl ⟨by trivial,by have:=QZ hc;omega,rfl,rfl⟩)⟩|false=>
   have hc':=of_decide_eq_false hc;simp only[Xn,Qh];rw[EX (by simp;omega),Qh];exact⟨L.length,L++[y],_,rfl,hI.add hp,.inr (.inr ⟨by trivial,by omega,rfl,rfl⟩)⟩
abbrev SSt := L_ (L_ Bag)×L_ Xj×Bool
def WJ (most:Nat)(n:Qg)(x:L_ Bag)(a:Int)(st:SSt)(o:Qq):SSt:=match YZ n x o with
 |some (y,c)=>if c=0 then(match HW st.1 (Kf y)with|some k=>(st.1,st.2.1++[Xj.mk a (k:Int) o],st.2.2)|none=>if most<=st.1.length then(st.1,st.2.1,f_)else(st.1++[y],st.2.1++[Xj.mk a (st.1.length:Int) o],st.2.2))
  else(st.1,st.2.1,f_)
 |none=>st
def Qup {full:Bool}{a:Nat}(b:Int)(h:XE n)(hbd:BdJ n)(hg:KN n x)(hI:FI mm L)(hb:0<b)(hx:L[a]? = C x)(hE:E.length<=134217728):
  ∃O,let T:=(KC n x b).1.foldl (WJ (Xt b) n x a) (L,E,full&&(KC n x b).2)
   Ej n.Colours n.Places n.Tasks n.From n.To b mm L E full a=C (T.1,T.2.1,n.Colours,n.Places,n.Tasks,n.From,n.To,b,T.2.2,O)/\FI O T.1:=by
 obtain⟨hf,hfl,hfm⟩:=Qkp b h hbd hg;unfold Ej;rw[Xe,hx,Qh,show Qg.mk n.Colours n.Places n.Tasks n.From n.To=n from rfl,hf,Qh];have g1:UN full (KC n x b)=C (full&&(KC n x b).2):=by
  unfold UN;cases full<;>rfl
 rw[g1,Qh];have hok:∀o∈(KC n x b).1,Wy n o:=λo ho=>QjX h (hg.len h) (hfm o ho);unfold LX;generalize hX:(KC n x b).1=X at hfl hok ⊢;generalize (full&&(KC n x b).2)=full0;have main:Qk (Qx (λst=>DJ (KC n x b) x a st.1 st.2.1 st.2.2.1 st.2.2.2.1 st.2.2.2.2.1 st.2.2.2.2.2.1 st.2.2.2.2.2.2.1 st.2.2.2.2.2.2.2.1 st.2.2.2.2.2.2.2.2.1 st.2.2.2.2.2.2.2.2.2.1 st.2.2.2.2.2.2.2.2.2.2) ((0:Int),n.Colours,n.Places,n.Tasks,n.From,n.To,b,full0,mm,E,L))
   λq=>∃O,q=(n.Colours,n.Places,n.Tasks,n.From,n.To,b,(X.foldl (WJ (Xt b) n x a) (L,E,full0)).2.2,O,(X.foldl (WJ (Xt b) n x a) (L,E,full0)).2.1,(X.foldl (WJ (Xt b) n x a) (L,E,full0)).1)/\FI O (X.foldl (WJ (Xt b) n x a) (L,E,full0)).1:=by
  refine Qk.up X.length (λst=>st.1) (λst=>st.2.1=n.Colours/\st.2.2.1=n.Places/\st.2.2.2.1=n.Tasks/\st.2.2.2.2.1=n.From/\st.2.2.2.2.2.1=n.To/\st.2.2.2.2.2.2.1=b/\FI st.2.2.2.2.2.2.2.2.1 st.2.2.2.2.2.2.2.2.2.2/\(st.2.2.2.2.2.2.2.2.2.1.length:Int)<=E.length+st.1/\(X.drop st.1.toNat).foldl (WJ (Xt b) n x a) (st.2.2.2.2.2.2.2.2.2.2,st.2.2.2.2.2.2.2.2.2.1,st.2.2.2.2.2.2.2.1)=X.foldl (WJ (Xt b) n x a) (L,E,full0)) rfl ⟨rfl,rfl,rfl,rfl,rfl,rfl,hI,by simp,rfl⟩ (λi st hi hn hJ=>?_);obtain⟨i',c,p,t,fr,tz,b',fu,mm,E',L'⟩:=st;replace hi:i'=(i:Int):=hi;subst hi;obtain⟨e1,e2,e3,e4,e5,e6,j1,j2,j3⟩:c=n.Colours/\p=n.Places/\t=n.Tasks/\fr=n.From/\tz=n.To/\b'=b/\FI mm L'/\(E'.length:Int)<=E.length+(i:Int)/\(X.drop (i:Int).toNat).foldl (WJ (Xt b) n x a) (L',E',fu)=X.foldl (WJ (Xt b) n x a) (L,E,full0):=hJ;subst e1;subst e2;subst e3;subst e4;subst e5;subst e6;rw[Jb]at j3;show Qk (DJ (KC n x b') x a i n.Colours n.Places n.Tasks n.From n.To b' fu mm E' L') _;unfold DJ;rw[hX];refine T1 (λhc=>?_) (λhc=>T2 (Qw ?_))
  ·simp only[QT]at hc;have i1:i<X.length:=by omega
   have hw:Qf ((i:Int)+1)=((i+1:Nat):Int):=QE i1 (by unfold maxLen;omega:X.length<=maxLen);rw[Xe,QI i1,Qh,show Qg.mk n.Colours n.Places n.Tasks n.From n.To=n from rfl];rw[Sx i1,List.foldl_cons]at j3;have ho:=hok _ (Jc i1);generalize X[i]=o at ho j3 ⊢;obtain⟨⟨y,cc⟩,hD,_⟩:=QwP n x o 1024 h hg.1 (by omega) ho;rw[hD,Qh];have next:∀(fu':Bool) O E'' L'',FI O L''->(E''.length:Int)<=E.length+((i:Int)+1)->WJ (Xt b') n x a (L',E',fu) o=(L'',E'',fu')->
     Qk (KU i n.Colours n.Places n.Tasks n.From n.To b' fu' O E'' L'') λr=>(∀s',r=.inl s'->i<X.length/\s'.1=((i+1:Nat):Int)/\(s'.2.1=n.Colours/\s'.2.2.1=n.Places/\s'.2.2.2.1=n.Tasks/\s'.2.2.2.2.1=n.From/\s'.2.2.2.2.2.1=n.To/\s'.2.2.2.2.2.2.1=b'/\FI s'.2.2.2.2.2.2.2.2.1 s'.2.2.2.2.2.2.2.2.2.2/\(s'.2.2.2.2.2.2.2.2.2.1.length:Int)<=E.length+s'.1/\(X.drop s'.1.toNat).foldl (WJ (Xt b') n x a) (s'.2.2.2.2.2.2.2.2.2.2,s'.2.2.2.2.2.2.2.2.2.1,s'.2.2.2.2.2.2.2.1)=X.foldl (WJ (Xt b') n x a) (L,E,full0)))/\
      ∀q,r=.inr q->∃O,q=(n.Colours,n.Places,n.Tasks,n.From,n.To,b',(X.foldl (WJ (Xt b') n x a) (L,E,full0)).2.2,O,(X.foldl (WJ (Xt b') n x a) (L,E,full0)).2.1,(X.foldl (WJ (Xt b') n x a) (L,E,full0)).1)/\FI O (X.foldl (WJ (Xt b') n x a) (L,E,full0)).1:=λfu' O E'' L'' f1 f2 f3=>by
    unfold KU;refine T2 ⟨λs' e=>?_,λq e=>by cases e⟩;cases e;refine⟨i1,hw,rfl,rfl,rfl,rfl,rfl,rfl,f1,by show(E''.length:Int)<=_+Qf _;rw[hw];omega,?_⟩;show(X.drop (Qf ((i:Int)+1)).toNat).foldl (WJ (Xt b') n x a) (L'',E'',fu')=_;rw[hw,Jb,<-j3,f3]
   by_cases c0:cc=0
   ·subst c0;have hgy:=Qqg h hg ho hD;simp only[show((0:Int)==0)=t_ from rfl,Xi];obtain⟨k,L'',mm'',hs,f1,f2⟩:=QoT b' E' fu h hgy j1 hb;rw[hs,Qh];simp only;unfold KV;rcases f2 with⟨p,p1,rfl,rfl⟩|⟨p1,p2,rfl,rfl⟩|⟨p1,p2,rfl,rfl⟩
    ·rw[Kh (by omega),Xn];refine T0 (T5 (by simp;omega)) λ_ _=>next _ _ _ _ f1 (by simp;omega) ?_;unfold WJ;rw[hD];simp only;rw[if_pos trivial,p1]
    ·rw[show decide ((-1:Int)<0)=t_ from rfl,Xi];refine next _ _ _ _ f1 (by omega) ?_;unfold WJ;rw[hD];simp only;rw[if_pos trivial,p1];simp only;rw[if_pos p2]
    rw[Kh (by omega),Xn];refine T0 (T5 (by simp;omega)) λ_ _=>next _ _ _ _ f1 (by simp;omega) ?_;unfold WJ;rw[hD];simp only;rw[if_pos trivial,p1];simp only;rw[if_neg p2]
   rw[show(cc==0)=f_ by simpa using c0,Xn];unfold KV;rw[show decide ((-1:Int)<0)=t_ from rfl,Xi];refine next _ _ _ _ j1 (by omega) ?_;unfold WJ;rw[hD];simp only;rw[if_neg c0]
  simp only[XA]at hc;rw[List.drop_of_length_le (by omega),List.foldl_nil]at j3;rw[<-j3];exact⟨mm,rfl,j1⟩
 obtain⟨q,hq1,O,rfl,hq2⟩:=main;refine⟨O,?_,hq2⟩;rw[hq1];rfl
def QhG (x:L_ Bag):Int:=Qf (tS x x.length)
def UP (n:Qg)(b tokens:Int):Nat->SSt->Nat->SSt
 |0,st,_=>st|f+1,st,a=>match st.1[a]? with
  |none=>st|some x=>if tokens<QhG x then UP n b tokens f (st.1,st.2.1,f_) (a+1)
   else UP n b tokens f ((KC n x b).1.foldl (WJ (Xt b) n x a) (st.1,st.2.1,st.2.2&&(KC n x b).2)) (a+1)
def Qw1 {st:SSt}(h:XE n)(hg:KN n x)(ho:Wy n o)(hs:∀y∈st.1,KN n y):∀y∈(WJ most n x a st o).1,KN n y:=by
 unfold WJ;cases hD:YZ n x o with
 |none=>exact hs|some r=>
  obtain⟨y,c⟩:=r;simp only;by_cases c0:c=0
  ·subst c0;rw[if_pos rfl];cases HW st.1 (Kf y)with
   |some k=>exact hs|none=>
    simp only;split
    ·exact hs
    intro z O;rcases Jy.1 O with O|O
    ·exact hs z O
    simp at O;subst O;exact Qqg h hg ho hD
  rw[if_neg c0];exact hs
def QxZ {st:SSt}(h:st.1.length<=most):(WJ most n x a st o).1.length<=most/\(WJ most n x a st o).2.1.length<=st.2.1.length+1:=by
 unfold WJ;cases hD:YZ n x o with
 |none=>exact⟨h,by simp⟩|some r=>
  obtain⟨y,c⟩:=r;simp only;by_cases O:c=0
  ·rw[if_pos O];cases HW st.1 (Kf y)with
   |some k=>exact⟨h,by simp⟩|none=>
    simp only;split
    ·exact⟨h,by simp⟩
    exact⟨by simp;omega,by simp⟩
  rw[if_neg O];exact⟨h,by simp⟩
def QqL (h:XE n)(hg:KN n x):∀{X:L_ Qq} {st:SSt},(∀o∈X,Wy n o)->(∀y∈st.1,KN n y)->st.1.length<=most->(∀y∈(X.foldl (WJ most n x a) st).1,KN n y)/\(X.foldl (WJ most n x a) st).1.length<=most/\(X.foldl (WJ most n x a) st).2.1.length<=st.2.1.length+X.length:=by
 intro X
 induction X with
 |nil=>intro st _ hs O;exact⟨hs,O,by simp⟩|cons o X ih=>
  intro st ho hs O;have h1:=QxZ (n:=n) (x:=x) (a:=a) (o:=o) O;obtain⟨k1,k2,k3⟩:=ih (st:=WJ most n x a st o) (λo' ho'=>ho o' (Yq _ ho')) (Qw1 h hg (ho o Yd) hs) h1.1;rw[List.foldl_cons];exact⟨k1,k2,by simp;omega⟩
def QvF (b tokens:Int)(h:XE n)(hbd:BdJ n)(hg:KN n m)(hb:b<=31):
  Nd n m b tokens=C (if b<=0 then QN.mk [] [] f_ else let r:=UP n b tokens (Xt b+1) ([m],[],t_) 0;QN.mk r.1 r.2.1 r.2.2):=by
 have hpl:=h.pl;have hm1:=hg.1.1;unfold Nd;by_cases c0:b<=0
 ·rw[Yy c0,if_pos c0];rfl
 rw[Kh c0,if_neg c0,Xn,TS m (by omega) (λb hb=>by have:=(hg.1.2 b hb).2;omega),Qh];have hmost:(Xt b:Int)=b:=by unfold Xt min2;split<;>omega
 obtain⟨k,L',mm',hs,f1,f2⟩:=QoT (mm:=[]) (L:=[]) b [] t_ h hg (λs=>rfl) (by omega);rw[hs,Qh];have hL:L'=[m]:=by
  rcases f2 with⟨i,p1,_,_⟩|⟨_,p2,_,_⟩|⟨_,_,_,e⟩
  ·simp[HW]at p1
  ·simp at p2;omega
  simpa using e
 subst hL;simp only;generalize hR:UP n b tokens (Xt b+1) ([m],[],t_) 0=R;have main:Qk (Qx (λst=>LY tokens st.1 st.2.1 st.2.2.1 st.2.2.2.1 st.2.2.2.2.1 st.2.2.2.2.2.1 st.2.2.2.2.2.2.1 st.2.2.2.2.2.2.2.1 st.2.2.2.2.2.2.2.2.1 st.2.2.2.2.2.2.2.2.2.1 st.2.2.2.2.2.2.2.2.2.2) ((0:Int),n.Colours,n.Places,n.Tasks,n.From,n.To,b,t_,mm',[m],([]:L_ Xj)))
   λq=>∃mm,q=(n.Colours,n.Places,n.Tasks,n.From,n.To,b,R.2.2,mm,R.1,R.2.1):=by
  refine Qk.up (Xt b) (λst=>st.1) (λst=>st.2.1=n.Colours/\st.2.2.1=n.Places/\st.2.2.2.1=n.Tasks/\st.2.2.2.2.1=n.From/\st.2.2.2.2.2.1=n.To/\st.2.2.2.2.2.2.1=b/\FI st.2.2.2.2.2.2.2.2.1 st.2.2.2.2.2.2.2.2.2.1/\(∀y∈st.2.2.2.2.2.2.2.2.2.1,KN n y)/\st.2.2.2.2.2.2.2.2.2.1.length<=Xt b/\(st.2.2.2.2.2.2.2.2.2.2.length:Int)<=st.1*4194304/\UP n b tokens (Xt b+1-st.1.toNat) (st.2.2.2.2.2.2.2.2.2.1,st.2.2.2.2.2.2.2.2.2.2,st.2.2.2.2.2.2.2.1) st.1.toNat=R) rfl ⟨rfl,rfl,rfl,rfl,rfl,rfl,f1,λy hy=>by simp at hy;subst hy;exact hg,by show 1<=_;omega,by simp,hR⟩ (λi st hi hn hJ=>?_);obtain⟨i',c,p,t,fr,tz,O,fu,mm,L,E⟩:=st;replace hi:i'=(i:Int):=hi;subst hi;obtain⟨e1,e2,e3,e4,e5,e6,j1,j2,j3,j4,j5⟩:c=n.Colours/\p=n.Places/\t=n.Tasks/\fr=n.From/\tz=n.To/\O=b/\FI mm L/\(∀y∈L,KN n y)/\L.length<=Xt b/\(E.length:Int)<=(i:Int)*4194304/\UP n b tokens (Xt b+1-(i:Int).toNat) (L,E,fu) (i:Int).toNat=R:=hJ;subst e1;subst e2;subst e3;subst e4;subst e5;subst e6;rw[Jb,show Xt O+1-i=(Xt O-i)+1 by omega,UP]at j5;show Qk (LY tokens i n.Colours n.Places n.Tasks n.From n.To O fu mm L E) _;unfold LY;refine T1 (λhc=>?_) (λhc=>T2 (Qw ?_))
  ·simp only[QT]at hc;have i1:i<L.length:=by omega
   have hx:=QI i1;have hgx:=j2 _ (Jc i1);rw[Xe,hx,Qh];simp only[hx]at j5;generalize L[i]=x at hx hgx j5 ⊢;rw[Qh2 h hgx.1 (by omega),Qh];have hw:Qf ((i:Int)+1)=((i+1:Nat):Int):=QE (by omega:i<Xt O) (by unfold maxLen;omega);have next:∀(fu':Bool) mm' L' E',FI mm' L'->(∀y∈L',KN n y)->L'.length<=Xt O->(E'.length:Int)<=((i:Int)+1)*4194304->UP n O tokens (Xt O-i) (L',E',fu') (i+1)=R->
     Qk (BV i n.Colours n.Places n.Tasks n.From n.To O fu' mm' L' E') λr=>(∀s',r=.inl s'->i<Xt O/\s'.1=((i+1:Nat):Int)/\(s'.2.1=n.Colours/\s'.2.2.1=n.Places/\s'.2.2.2.1=n.Tasks/\s'.2.2.2.2.1=n.From/\s'.2.2.2.2.2.1=n.To/\s'.2.2.2.2.2.2.1=O/\FI s'.2.2.2.2.2.2.2.2.1 s'.2.2.2.2.2.2.2.2.2.1/\(∀y∈s'.2.2.2.2.2.2.2.2.2.1,KN n y)/\s'.2.2.2.2.2.2.2.2.2.1.length<=Xt O/\(s'.2.2.2.2.2.2.2.2.2.2.length:Int)<=s'.1*4194304/\UP n O tokens (Xt O+1-s'.1.toNat) (s'.2.2.2.2.2.2.2.2.2.1,s'.2.2.2.2.2.2.2.2.2.2,s'.2.2.2.2.2.2.2.1) s'.1.toNat=R))/\
      ∀q,r=.inr q->∃mm,q=(n.Colours,n.Places,n.Tasks,n.From,n.To,O,R.2.2,mm,R.1,R.2.1):=λfu' mm' L' E' g1 g2 g3 g4 g5=>by
    unfold BV;refine T2 ⟨λs' e=>?_,λq e=>by cases e⟩;cases e;refine⟨by omega,hw,rfl,rfl,rfl,rfl,rfl,rfl,g1,g2,g3,by show(E'.length:Int)<=Qf _*_;rw[hw];omega,?_⟩;show UP n O tokens (Xt O+1-(Qf ((i:Int)+1)).toNat) (L',E',fu') (Qf ((i:Int)+1)).toNat=R;rw[hw,Jb,show Xt O+1-(i+1)=Xt O-i by omega];exact g5
   refine T1 (λhc2=>?_) λhc2=>?_
   ·rw[if_pos (show tokens<QhG x by simpa[QhG] using hc2)]at j5;exact next _ _ _ _ j1 j2 j3 (by omega) j5
   rw[if_neg (show ¬tokens<QhG x by simpa[QhG] using hc2)]at j5;obtain⟨mm',hl,f3⟩:=Qup (full:=fu) (E:=E) O h hbd hgx j1 (by omega) hx (by omega);rw[hl,Qh];obtain⟨q1,q2,q3⟩:=Qkp O h hbd hgx;obtain⟨g1,g2,g3⟩:=QqL (a:=(i:Int)) (most:=Xt O) h hgx (X:=(KC n x O).1) (st:=(L,E,fu&&(KC n x O).2)) (λo ho=>QjX h (hgx.len h) (q3 o ho)) j2 j3;exact next _ _ _ _ f3 g1 g2 (by simp only at g3 ⊢;omega) j5
  simp only[XA]at hc;rw[Zh (show L.length<=i by omega)]at j5;rw[<-j5];exact⟨mm,rfl⟩
 obtain⟨q,hq1,mm,rfl⟩:=main;rw[hq1];rfl
structure Qzm (n:Qg) (m:List Bag) (b tokens:Int) (a:Nat) (st:SSt):Prop where
 good:∀y∈st.1,KN n y
 apart:QeL Kf st.1
 len:st.1.length<=Xt b
 head:∃r,st.1=m::r
 edge:∀e∈st.2.1,∃(i j:Nat) (x y:List Bag),e.From=(i:Int)/\e.To=(j:Int)/\i<a/\st.1[i]? = C x/\st.1[j]? = C y/\YZ n x e.Mode=C (y,0)/\Wy n e.Mode
 asc:st.2.1.Pairwise λe f=>e.From<=f.From
 full:st.2.2=t_->∀(i:Nat) (x:List Bag),i<a->st.1[i]? = C x->QhG x<=tokens/\(KC n x b).2=t_/\(st.2.1.filter λe=>e.From==(i:Int)).map (·.Mode)=(KC n x b).1/\∀o∈(KC n x b).1,∃y∈st.1,YZ n x o=C (y,0)
 tree:∀k:Nat,0<k->k<st.1.length->∃e∈st.2.1,∃i:Nat,e.From=(i:Int)/\i<k/\e.To=(k:Int)
structure Qqi (n:Qg) (m:List Bag) (b tokens:Int) (a:Nat) (x:List Bag) (fl:Bool) (done:List Qq) (st:SSt):Prop where
 good:∀y∈st.1,KN n y
 apart:QeL Kf st.1
 len:st.1.length<=Xt b
 head:∃r,st.1=m::r
 here:st.1[a]? = C x
 edge:∀e∈st.2.1,∃(i j:Nat) (x y:List Bag),e.From=(i:Int)/\e.To=(j:Int)/\i<a+1/\st.1[i]? = C x/\st.1[j]? = C y/\YZ n x e.Mode=C (y,0)/\Wy n e.Mode
 asc:st.2.1.Pairwise λe f=>e.From<=f.From
 full:st.2.2=t_->fl=t_/\∀(i:Nat) (x:List Bag),i<a->st.1[i]? = C x->QhG x<=tokens/\(KC n x b).2=t_/\(st.2.1.filter λe=>e.From==(i:Int)).map (·.Mode)=(KC n x b).1/\∀o∈(KC n x b).1,∃y∈st.1,YZ n x o=C (y,0)
 now:st.2.2=t_->(st.2.1.filter λe=>e.From==(a:Int)).map (·.Mode)=done/\∀o∈done,∃y∈st.1,YZ n x o=C (y,0)
 tree:∀k:Nat,0<k->k<st.1.length->∃e∈st.2.1,∃i:Nat,e.From=(i:Int)/\i<k/\e.To=(k:Int)
section
variable {n:Qg}{m:L_ Bag}{b tokens:Int}{a:Nat}
def QoU (h:e.From=(a:Int))(hi:i<a):(E++[e]).filter (λe=>e.From==(i:Int))=E.filter λe=>e.From==(i:Int):=by
 rw[Sy,Bz,if_neg (by rw[h];simp;omega),List.filter_nil,Zg]
def QqM (h:e.From=(a:Int)):(E++[e]).filter (λe=>e.From==(a:Int))=(E.filter λe=>e.From==(a:Int))++[e]:=by
 rw[Sy,Bz,if_pos (by rw[h];simp),List.filter_nil]
def Qx0 (h:XE n)(hp:n.Places.length<=64){done:L_ Qq}{st:SSt}(I:Qqi n m b tokens a x fl done st)(ho:Wy n o):Qqi n m b tokens a x fl (done++[o]) (WJ (Xt b) n x a st o):=by
 have hgx:=I.good x (XG I.here);have hal:=(QX.1 I.here).1;unfold WJ;obtain⟨⟨y,c⟩,hD,_⟩:=QwP n x o 1024 h hgx.1 (by omega) ho;rw[hD];simp only;have down:Qqi n m b tokens a x fl (done++[o]) (st.1,st.2.1,f_):=⟨I.good,I.apart,I.len,I.head,I.here,I.edge,I.asc,λe=>(by cases e),λe=>(by cases e),I.tree⟩;by_cases c0:c=0
 ·subst c0;rw[if_pos rfl];have hgy:=Qqg h hgx ho hD;have ascs:∀k:Int,(st.2.1++[Xj.mk (a:Int) k o]).Pairwise λe f=>e.From<=f.From:=λk=>by
   rw[Qm4];refine⟨I.asc,QgR _ _,λe he f hf=>?_⟩;simp at hf;subst hf;obtain⟨i,_,_,_,h1,_,h2,_⟩:=I.edge e he;show e.From<=(a:Int);omega
  cases hk:HW st.1 (Kf y)with
  |some k=>
   simp only;obtain⟨z,hz,hzk⟩:=QvD hk;have hzy:z=y:=QxX h hp (I.good z (XG hz)) hgy hzk;subst hzy;refine⟨I.good,I.apart,I.len,I.head,I.here,λe he=>?_,ascs _,λhf=>?_,λhf=>?_,λk' h1 h2=>?_⟩
   ·rcases Jy.1 he with he|he
    ·exact I.edge e he
    simp at he;subst he;exact⟨a,k,x,z,rfl,rfl,by omega,I.here,hz,hD,ho⟩
   ·obtain⟨f1,f2⟩:=I.full hf;refine⟨f1,λi u hi hu=>?_⟩;rw[QoU rfl hi];exact f2 i u hi hu
   ·obtain⟨f1,f2⟩:=I.now hf;show(List.filter _ (st.2.1++[_])).map _=_/\_;rw[QqM rfl,List.map_append,f1];refine⟨rfl,λo' O=>?_⟩;rcases Jy.1 O with O|O
    ·exact f2 o' O
    simp at O;subst O;exact⟨z,XG hz,hD⟩
   obtain⟨e,he,r⟩:=I.tree k' h1 h2;exact⟨e,Zj _ he,r⟩
  |none=>
   simp only;by_cases cl:Xt b<=st.1.length
   ·rw[if_pos cl];exact down
   rw[if_neg cl];have hnone:=QvE hk;have hap:QeL Kf (st.1++[y]):=I.apart.add (by
    unfold QwI;exact List.any_eq_false.2 λu hu=>by simpa using hnone u hu)
   have up:∀{i:Nat} {u:L_ Bag},st.1[i]? = C u->(st.1++[y])[i]? = C u:=λ{i u} hu=>by
    rw[Yp ((QX.1 hu).1)];exact hu
   have hnew:(st.1++[y])[st.1.length]? = C y:=by rw[YJ (YK _),Nat.sub_self];rfl
   refine⟨λz hz=>?_,hap,by simp;omega,?_,up I.here,λe he=>?_,ascs _,λhf=>?_,λhf=>?_,λk' h1 h2=>?_⟩
   ·rcases Jy.1 hz with hz|hz
    ·exact I.good z hz
    simp at hz;subst hz;exact hgy
   ·obtain⟨r,hr⟩:=I.head;exact⟨r++[y],by show st.1++[y]=_;rw[hr];rfl⟩
   ·rcases Jy.1 he with he|he
    ·obtain⟨i,j,u,v,h1,h2,h3,h4,h5,h6⟩:=I.edge e he;exact⟨i,j,u,v,h1,h2,h3,up h4,up h5,h6⟩
    simp at he;subst he;exact⟨a,st.1.length,x,y,rfl,rfl,by omega,up I.here,hnew,hD,ho⟩
   ·obtain⟨f1,f2⟩:=I.full hf;refine⟨f1,λi u hi hu=>?_⟩;have hu':st.1[i]? = C u:=by
     have hu:(st.1++[y])[i]? = C u:=hu;rw[Yp (by omega)]at hu;exact hu
    obtain⟨g1,g2,g3,g4⟩:=f2 i u hi hu';rw[QoU rfl hi];refine⟨g1,g2,g3,λo' O=>?_⟩;obtain⟨z,hz,hz2⟩:=g4 o' O;exact⟨z,Zj _ hz,hz2⟩
   ·obtain⟨f1,f2⟩:=I.now hf;show(List.filter _ (st.2.1++[_])).map _=_/\_;rw[QqM rfl,List.map_append,f1];refine⟨rfl,λo' O=>?_⟩;rcases Jy.1 O with O|O
    ·obtain⟨z,hz,hz2⟩:=f2 o' O;exact⟨z,Zj _ hz,hz2⟩
    simp at O;subst O;exact⟨y,by simp,hD⟩
   by_cases ck:k'=st.1.length
   ·subst ck;exact⟨Xj.mk (a:Int) (st.1.length:Int) o,by simp,a,rfl,hal,rfl⟩
   have h2:k'<(st.1++[y]).length:=h2;obtain⟨e,he,r⟩:=I.tree k' h1 (by simp at h2;omega);exact⟨e,Zj _ he,r⟩
 rw[if_neg c0];exact down
def Qw2 (h:XE n)(hp:n.Places.length<=64):∀{X done:L_ Qq} {st:SSt},Qqi n m b tokens a x fl done st->(∀o∈X,Wy n o)->Qqi n m b tokens a x fl (done++X) (X.foldl (WJ (Xt b) n x a) st):=by
 intro X
 induction X with
 |nil=>intro done st I _;simpa using I|cons o X ih=>
  intro done st I ho;have:=ih (Qx0 h hp I (ho o Yd)) λo' O=>ho o' (Yq _ O);rw[WC]at this;exact this
def Qw3 (h:XE n)(hbd:BdJ n)(hp:n.Places.length<=64):∀(f:Nat) {st:SSt} {a:Nat},Xt b<f+a->Qzm n m b tokens a st->∃a',Qzm n m b tokens a' (UP n b tokens f st a)/\(UP n b tokens f st a).1.length<=a':=by
 intro f
 induction f with
 |zero=>intro st a hf I;exact⟨a,I,by have:=I.len;show st.1.length<=a;omega⟩|succ f ih=>
  intro st a hf I;rw[UP];cases hx:st.1[a]? with
  |none=>exact⟨a,I,List.getElem?_eq_none_iff.1 hx⟩|some x=>
   simp only;have hgx:=I.good x (XG hx);by_cases ct:tokens<QhG x
   ·rw[if_pos ct];exact ih (by omega) ⟨I.good,I.apart,I.len,I.head,λe he=>by
     obtain⟨i,j,u,v,O,h2,h3,h4⟩:=I.edge e he;exact⟨i,j,u,v,O,h2,by omega,h4⟩,I.asc,λe=>(by cases e),I.tree⟩
   rw[if_neg ct];obtain⟨q1,q2,q3⟩:=Qkp b h hbd hgx;have M0:Qqi n m b tokens a x (st.2.2&&(KC n x b).2) [] (st.1,st.2.1,st.2.2&&(KC n x b).2):=⟨I.good,I.apart,I.len,I.head,hx,λe he=>by
    obtain⟨i,j,u,v,O,h2,h3,h4⟩:=I.edge e he;exact⟨i,j,u,v,O,h2,by omega,h4⟩,I.asc,λe=>⟨e,I.full (QL _ _▸e).1⟩,λe=>⟨by
    rw[List.filter_eq_nil_iff.2 λe he=>by
     obtain⟨i,_,_,_,O,_,h3,_⟩:=I.edge e he;rw[O];simp;omega];rfl,λo ho=>by cases ho⟩,I.tree⟩
   have M:=Qw2 h hp M0 λo ho=>QjX h (hgx.len h) (q3 o ho);rw[Qd6]at M;refine ih (by omega) ⟨M.good,M.apart,M.len,M.head,M.edge,M.asc,λhf i u hi hu=>?_,M.tree⟩;obtain⟨f1,f2⟩:=M.full hf;by_cases ci:i=a
   ·subst ci;have:u=x:=Option.some.inj (hu.symm.trans M.here);subst this;obtain⟨f3,f4⟩:=M.now hf;rw[QL]at f1;exact⟨by omega,f1.2,f3,f4⟩
   exact f2 i u (by omega) hu
end
def Wz (n:Qg)(m:L_ Bag)(b tokens:Int):QN:=if b<=0 then QN.mk [] [] f_ else QN.mk (UP n b tokens (Xt b+1) ([m],[],t_) 0).1 (UP n b tokens (Xt b+1) ([m],[],t_) 0).2.1 (UP n b tokens (Xt b+1) ([m],[],t_) 0).2.2
structure SOk (n:Qg) (m:List Bag) (b tokens:Int) (s:QN):Prop where
 good:∀y∈s.States,KN n y
 apart:QeL Kf s.States
 len:s.States.length<=Xt b
 head:∃r,s.States=m::r
 edge:∀e∈s.Edges,∃(i j:Nat) (x y:List Bag),e.From=(i:Int)/\e.To=(j:Int)/\s.States[i]? = C x/\s.States[j]? = C y/\YZ n x e.Mode=C (y,0)/\Wy n e.Mode
 asc:s.Edges.Pairwise λe f=>e.From<=f.From
 full:s.Full=t_->∀(i:Nat) (x:List Bag),s.States[i]? = C x->QhG x<=tokens/\(KC n x b).2=t_/\(s.Edges.filter λe=>e.From==(i:Int)).map (·.Mode)=(KC n x b).1/\∀o∈(KC n x b).1,∃y∈s.States,YZ n x o=C (y,0)
 tree:∀k:Nat,0<k->k<s.States.length->∃e∈s.Edges,∃i:Nat,e.From=(i:Int)/\i<k/\e.To=(k:Int)
def QmY {b tokens:Int}(h:XE n)(hbd:BdJ n)(hp:n.Places.length<=64)(hg:KN n m)(hb:0<b):SOk n m b tokens (Wz n m b tokens):=by
 have hm:1<=Xt b:=by unfold Xt min2;split<;>omega
 obtain⟨a',I,hl⟩:=Qw3 (m:=m) (b:=b) (tokens:=tokens) h hbd hp (Xt b+1) (st:=([m],[],t_)) (a:=0) (by omega) ⟨λy hy=>by simp at hy;subst hy;exact hg,QgR _ _,hm,⟨[],rfl⟩,λe he=>(by cases he),List.Pairwise.nil,λ_ i x hi=>by omega,λk h1 O=>by simp at O;omega⟩;unfold Wz;rw[if_neg (by omega)];exact⟨I.good,I.apart,I.len,I.head,λe he=>by
  obtain⟨i,j,u,v,h1,O,_,h4⟩:=I.edge e he;exact⟨i,j,u,v,h1,O,h4⟩,I.asc,λhf i x hx=>I.full hf i x (by have h3:i<(UP n b tokens (Xt b+1) ([m],[],t_) 0).1.length:=(QX.1 hx).1;omega) hx,I.tree⟩
def Qx1 (b tokens:Int)(h:XE n)(O:BdJ n)(hg:KN n m)(hb:b<=31):Nd n m b tokens=C (Wz n m b tokens):=by
 rw[QvF b tokens h O hg hb];unfold Wz;by_cases c:b<=0
 ·simp only[if_pos c]
 simp only[if_neg c]
def Gm (n:Qg):L_ Bag:=(WZ n).getD []
structure QoV (n:Qg) (b:Int):Prop where
 net:XE n
 bd:BdJ n
 pl:n.Places.length<=64
 good:KN n (Gm n)
 first:WZ n=C (Gm n)
 bud:b<=16
def QqN {b tokens:Int}(h:XE n)(hbd:BdJ n)(hg:KN n m)(hb:b<=31):(Wz n m b tokens).Edges.length<=130023424:=by
 have key:∀(K:Nat),K=4194304->∀(f:Nat) (st:SSt) (a:Nat),(∀y∈st.1,KN n y)->st.1.length<=Xt b->st.2.1.length<=a*K->a<=Xt b->(UP n b tokens f st a).2.1.length<=Xt b*K:=by
  intro K hK;intro f
  induction f with
  |zero=>intro st a _ _ h3 h4;exact Yx h3 (Ys _ h4)|succ f ih=>
   intro st a h1 h2 h3 h4;rw[UP];cases hx:st.1[a]? with
   |none=>exact Yx h3 (Ys _ h4)|some x=>
    simp only;have ha:=(QX.1 hx).1;have O:=h1 x (XG hx);split
    ·exact ih _ _ h1 h2 (by show st.2.1.length<=(a+1)*K;rw[Nat.succ_mul];omega) (by omega)
    obtain⟨q1,q2,q3⟩:=Qkp b h hbd O;obtain⟨g1,g2,g3⟩:=QqL (a:=(a:Int)) (most:=Xt b) h O (X:=(KC n x b).1) (st:=(st.1,st.2.1,st.2.2&&(KC n x b).2)) (λo ho=>QjX h (O.len h) (q3 o ho)) h1 h2;exact ih _ _ g1 g2 (by rw[Nat.succ_mul];simp only at g3;omega) (by omega)
 unfold Wz;split
 ·simp
 have hm:1<=Xt b/\Xt b<=31:=by unfold Xt min2;split<;>omega
 have:=key 4194304 rfl (Xt b+1) ([m],[],t_) 0 (λy hy=>by simp at hy;subst hy;exact hg) (by simp;omega) (by simp) (by omega);show List.length _<=_;have h2:Xt b*4194304<=31*4194304:=Ys _ hm.2;exact Yx this h2
end Go.Proofs
namespace Go.Rk
def Ja (N:Nat)(k:Int):Prop:=0<=k/\k<N
instance (N : Nat) (k:Int):Decidable (Ja N k):=inferInstanceAs (Decidable (_/\_))
def av (out:List Int)(k:Int):Int:=if 0<=k then out.getD k.toNat (-1)else -1
def QdA {out:List Int}{k:Int}(h:¬Ja out.length k):av out k=-1:=by
 unfold av;split
 ·rename_i O;rw[List.getD_eq_getElem?_getD,List.getElem?_eq_none (by unfold Ja at h;omega)];rfl
 rfl
def Qzn {out:List Int}{k:Int}{x:Int}(O:0<=k)(h:out[k.toNat]? = some x):av out k=x:=by
 unfold av;rw[if_pos O,List.getD_eq_getElem?_getD,h];rfl
def PL {out:List Int}{k:Int}(h:Ja out.length k):out[k.toNat]? = some (av out k):=by
 unfold av;rw[if_pos h.1,List.getD_eq_getElem?_getD];have:k.toNat<out.length:=by unfold Ja at h;omega
 rw[List.getElem?_eq_getElem this];rfl
def QvG {out:List Int}{k:Int}(x:Int)(h:Ja out.length k)(j:Int):av (out.set k.toNat x) j=if j=k then x else av out j:=by
 unfold av;by_cases O:0<=j
 ·rw[if_pos O,List.getD_eq_getElem?_getD,List.getElem?_set,List.getD_eq_getElem?_getD];have:=h.1;have h2:=h.2;by_cases e:j=k
  ·subst e;rw[if_pos rfl,if_pos (by omega),if_pos rfl];rfl
  rw[if_neg (by omega),if_neg e,if_pos O]
 rw[if_neg O,if_neg (by have:=h.1;omega),if_neg O]
def Qzo {a b:List Int}(hl:a.length=b.length)(h:∀k,Ja a.length k->av a k=av b k):a=b:=by
 apply List.ext_getElem? ;intro i;by_cases hi:i<a.length
 ·have h1:=h i ⟨by omega,by omega⟩;have O:=@PL a i ⟨by omega,by omega⟩;have h3:=@PL b i ⟨by omega,by omega⟩;simp only[Int.toNat_natCast]at O h3;rw[O,h3,h1]
 rw[List.getElem?_eq_none (by omega),List.getElem?_eq_none (by omega)]
structure El (N:Nat) (es:List (Int×Int)) (gs:List Int) (out:List Int):Prop where
 len:out.length=N
 lo:∀k,-1<=av out k
 goal:∀g,g∈gs->Ja N g->av out g=0
 edge:∀u v,(u,v)∈es->Ja N u->Ja N v->0<=av out v->0<=av out u/\av out u<=av out v+1
 back:∀k,0<=av out k->(av out k=0/\k∈gs)\/∃v,(k,v)∈es/\Ja N v/\0<=av out v/\av out k=av out v+1
variable {N:Nat}{es:List (Int×Int)}{gs:List Int}{a b:List Int}
def El.rng (h:El N es gs a){k:Int}(hk:0<=av a k):Ja N k:=by
 by_cases O:Ja a.length k
 ·rw[h.len]at O;exact O
 rw[QdA O]at hk;omega
def El.le (h:El N es gs a)(O:El N es gs b):∀n:Nat,∀k,av a k=n->0<=av b k/\av b k<=n:=by
 intro n
 induction n with
 |zero=>
  intro k hk;rcases h.back k (by omega)with⟨_,hg⟩|⟨v,_,_,_,hv⟩
  ·rw[O.goal k hg (h.rng (by omega))];omega
  omega
 |succ n ih=>
  intro k hk;have hr:=h.rng (k:=k) (by omega);rcases h.back k (by omega)with⟨h0,_⟩|⟨v,he,hv,h1,h2⟩
  ·omega
  obtain⟨h3,h4⟩:=ih v (by omega);have:=O.edge k v he hr hv h3;omega
def El.unique (h:El N es gs a)(O:El N es gs b):a=b:=by
 refine Qzo (by rw[h.len,O.len]) λk _=>?_;have la:=h.lo k;have lb:=O.lo k;by_cases h1:0<=av a k
 ·have x:=h.le O (av a k).toNat k (by omega);have y:=O.le h (av b k).toNat k (by omega);omega
 by_cases h2:0<=av b k
 ·have y:=O.le h (av b k).toNat k (by omega);omega
 omega
def Rm : ∀{l m:List Int},l.Nodup->(∀x,x∈l->x∈m)->l.length<=m.length:=by
 intro l
 induction l with
 |nil=>intro m _ _;simp|cons x l ih=>
  intro m h hs;rw[List.nodup_cons]at h;have hx:=hs x List.mem_cons_self;have:=ih (m:=m.erase x) h.2 λy hy=>by
   have O:y≠x:=λe=>h.1 (e▸hy);exact(List.mem_erase_of_ne O).2 (hs y (List.mem_cons_of_mem _ hy))
  rw[List.length_erase_of_mem hx]at this;have:=List.length_pos_of_mem hx;simp only[List.length_cons];omega
def Qw4 (hl:a.length=N)(h:∀k,0<=av a k->(av a k=0/\k∈gs)\/∃v,(k,v)∈es/\Ja N v/\0<=av a v/\av a k=av a v+1):∀n:Nat,∀k,av a k=n->∀m:Nat,m<=n->∃j,Ja N j/\av a j=m:=by
 have rng:∀{k:Int},0<=av a k->Ja N k:=λ{k} O=>by
  by_cases hr:Ja a.length k
  ·rw[hl]at hr;exact hr
  rw[QdA hr]at O;omega
 intro n
 induction n with
 |zero=>intro k O m hm;exact⟨k,rng (by omega),by omega⟩|succ n ih=>
  intro k O m hm;by_cases e:m=n+1
  ·exact⟨k,rng (by omega),by omega⟩
  rcases h k (by omega)with⟨h0,_⟩|⟨v,he,hv,h1,h2⟩
  ·omega
  exact ih v (by omega) m (by omega)
def Qz5 (hl:a.length=N)(O:∀k,0<=av a k->(av a k=0/\k∈gs)\/∃v,(k,v)∈es/\Ja N v/\0<=av a v/\av a k=av a v+1)(k:Int):av a k<(N:Int)\/N=0:=by
 by_cases h:0<=av a k
 ·left;have hs:=Qw4 hl O (av a k).toNat k (by omega);have:((List.range ((av a k).toNat+1)).map (λi:Nat=>(i:Int))).length<=a.length:=by
   refine Rm ?_ λx hx=>?_
   ·rw[List.Nodup,List.pairwise_map];exact(List.nodup_range).imp λh e=>h (by omega)
   obtain⟨i,hi,rfl⟩:=List.mem_map.1 hx;rw[List.mem_range]at hi;obtain⟨j,hj,he⟩:=hs i (by omega);rw[<-he];rw[<-hl]at hj;exact List.mem_of_getElem? (PL hj)
  simp only[List.length_map,List.length_range]at this;rw[hl]at this;omega
 omega
def El.lt (h:El N es gs a)(k:Int):av a k<(N:Int)\/N=0:=Qz5 h.len h.back k
end Go.Rk
noncomputable section
namespace Go.Proofs
open Go Go.RowKit Go.Vm Go.Rk
variable {i:Nat}{s:QN}
abbrev Rw := Int×Int
def QhH (h:Int)(x:Rw):Bool:=decide (x.1<=h)||(decide (x.2<1)||decide (1048576<x.2))
def Nn : Int->L_ Rw->Bool
 |_,[]=>true|h,x::l=>bif QhH h x then false else Nn x.1 l
def QjY (b:L_ Rw):Bool:=Nn (-1) b
def Qrx {b:L_ Rw}(O:b.length<=maxLen):WX b=some (QjY b):=by
 unfold WX;rw[QeJ (l:=b) (s0:=(-1,0)) (λi (t:Int)=>(t,(i:Int))) (λi t x=>bif QhH t x then .inr (.inl ())else .inl x.1) (λ_=>.inr ()) ?_ ?_ (-1) rfl]
 ·have:∀(l:L_ Rw) k t,Sum.elim (λ(q:Unit)=>NI) (λ(q:Unit)=>NJ) (CO (λi t x=>bif QhH t x then .inr (.inl ())else .inl x.1) (λ_=>.inr ()) k t l)=some (Nn t l):=by
   intro l
   induction l with
   |nil=>intro k t;rfl|cons x l ih=>
    intro k t;rw[CO,Nn];cases QhH t x with|true=>rfl|false=>exact ih _ _
  exact this b 0 (-1)
 ·intro i t x hi hx;have h:(i:Int)<b.length:=by omega
  unfold KE;simp only[h,decide_true,Xi,Xe,hx,Qh,QE hi O];show(bif QhH t x then _ else _)=_;cases QhH t x<;>rfl
 intro t;unfold KE;simp
def Qry : ∀{l:L_ Rw} {O:Int},Nn O l=true↔(∀x∈l,O<x.1/\1<=x.2/\x.2<=1048576)/\l.Pairwise λx y=>x.1<y.1:=by
 intro l
 induction l with
 |nil=>intro O;simp[Nn]|cons x l ih=>
  intro O;have e:QhH O x=false↔O<x.1/\1<=x.2/\x.2<=1048576:=by
   unfold QhH;simp only[DH,XA,Int.not_le,Int.not_lt]
  rw[Nn,XN,QgQ];cases hb:QhH O x with
  |true=>
   rw[hb]at e;simp only[Xi,Bool.false_eq_true,false_iff];rintro ⟨⟨h,_⟩,_⟩;exact absurd (e.2 h) (by simp)
  |false=>
   have h0:=e.1 hb;simp only[Xn];rw[ih];constructor
   ·rintro ⟨h1,h2⟩;exact⟨⟨h0,λy hy=>⟨by have:=(h1 y hy).1;omega,(h1 y hy).2⟩⟩,λy hy=>(h1 y hy).1,h2⟩
   rintro ⟨⟨_,h1⟩,h2,h3⟩;exact⟨λy hy=>⟨h2 y hy,(h1 y hy).2⟩,h3⟩
abbrev Mk := L_ (L_ Rw)
def okM (m:Mk):Prop:=m.length<=maxLen/\∀b∈m,b.length<=maxLen
def okM.get {m:Mk}(h:okM m){b:L_ Rw}(O:m[i]? = some b):b.length<=maxLen:=h.2 b (XG O)
def QAs (s:QN):Prop:=s.States.length<=maxLen/\s.Edges.length<=maxLen/\∀m∈s.States,okM m
structure FO (s:QN):Prop where
 ok:QAs s
 st:s.States.length<=40
 ed:s.Edges.length<=130023424
def FO.get (h:FO s){m:Mk}(O:s.States[i]? = some m):okM m:=h.ok.2.2 m (XG O)
def cnt (s:QN)(e:Xj):Bool:=(decide (0<=e.From)&&decide (e.From<(s.States.length:Int)))&&(decide (0<=e.To)&&decide (e.To<(s.States.length:Int)))
def Zd {e:Xj}:cnt s e=true↔Ja s.States.length e.From/\Ja s.States.length e.To:=by
 unfold cnt Ja;simp only[QL,QT]
def Jt (l:L_ Xj)(k:Int):LI_:=(l.filter λe=>e.To==k).map (·.From)
def es (s:QN):QBg:=s.Edges.map λe=>(e.From,e.To)
def QgK {u v:Int}:(u,v)∈es s↔∃e∈s.Edges,e.From=u/\e.To=v:=by
 unfold es;rw[Ye];simp only[Prod.mk.injEq]
def QeQ {u k:Int}:u∈Jt (s.Edges.filter (cnt s)) k↔(u,k)∈es s/\Ja s.States.length u/\Ja s.States.length k:=by
 unfold Jt;rw[QgK,Ye];constructor
 ·rintro ⟨e,he,rfl⟩;rw[AD,AD,Zd]at he;obtain⟨⟨O,h2,h3⟩,h⟩:=he;have h:e.To=k:=by simpa using h
  exact⟨⟨e,O,rfl,h⟩,h2,h▸h3⟩
 rintro ⟨⟨e,O,rfl,rfl⟩,h2,h3⟩;exact⟨e,by rw[AD,AD,Zd];exact⟨⟨O,h2,h3⟩,by simp⟩,rfl⟩
def QjZ {α:Type}{p O q:α->Bool}:∀{l:L_ α},(∀e∈l,(p e=true/\((O e=true/\q e=false)\/(O e=false/\q e=true)))\/(p e=false/\O e=false/\q e=false))->l.countP p=l.countP O+l.countP q:=by
 intro l
 induction l with
 |nil=>intro _;rfl|cons x l ih=>
  intro h;have h1:=ih λe he=>h e (Yq _ he);rw[List.countP_cons,List.countP_cons,List.countP_cons,h1];rcases h x Yd with⟨a,⟨b,c⟩|⟨b,c⟩⟩|⟨a,b,c⟩<;>simp[a,b,c]<;>omega
end Go.Proofs
noncomputable section
namespace Go.Proofs
open Go Go.RowKit Go.Vm Go.Rk
variable {s:QN}{gs out:LI_}{r:Nat}{e:Xj}
structure QhI (s:QN) (gs:List Int) (r:Nat) (i:Nat) (out:List Int):Prop where
 len:out.length=s.States.length
 lo:∀k,-1<=av out k
 goal:∀g,g∈gs->Ja s.States.length g->av out g=0
 back:∀k,0<=av out k->(av out k=0/\k∈gs)\/∃v,(k,v)∈es s/\Ja s.States.length v/\0<=av out v/\av out k=av out v+1
 hi:∀k,av out k<=r+1
 hi0:i=0->∀k,av out k<=r
 old:∀u v,(u,v)∈es s->Ja s.States.length u->Ja s.States.length v->0<=av out v->av out v<r->0<=av out u/\av out u<=av out v+1
 cur:∀(j:Nat) e,j<i->s.Edges[j]? = some e->cnt s e=true->av out e.To=r->0<=av out e.From
def QhI.step {i:Nat}(I:QhI s gs r i out)(he:s.Edges[i]? = some e)(c1:cnt s e=true)(c2:av out e.To=r)(c3:av out e.From<0):QhI s gs r (i+1) (out.set e.From.toNat ((r:Int)+1)):=by
 obtain⟨hr1,hr2⟩:=Zd.1 c1;have hr1':Ja out.length e.From:=by rw[I.len];exact hr1
 have O:∀k,av (out.set e.From.toNat ((r:Int)+1)) k=if k=e.From then(r:Int)+1 else av out k:=QvG _ hr1';have hne:∀k,0<=av out k->k≠e.From:=λk hk e=>by subst e;omega
 refine { len:=by simpa using I.len,lo:=λk=>?_,goal:=λg h1 h2=>?_,back:=λk hk=>?_,hi:=λk=>?_,hi0:=λh=>by omega,old:=λu v h1 h2 h3 h4 h5=>?_,cur:=λj e' hj he' hc h=>?_ }
 ·rw[O];split
  ·omega
  exact I.lo k
 ·rw[O,if_neg (hne g (by rw[I.goal g h1 h2];omega))];exact I.goal g h1 h2
 ·rw[O]at hk ⊢;by_cases c:k=e.From
  ·rw[if_pos c];refine .inr ⟨e.To,QgK.2 ⟨e,XG he,c.symm,rfl⟩,hr2,?_⟩;rw[O,if_neg (hne e.To (by omega))];omega
  rw[if_neg c]at hk ⊢;rcases I.back k hk with h|⟨v,h1,h2,h3,h4⟩
  ·exact .inl h
  exact .inr ⟨v,h1,h2,by rw[O,if_neg (hne v h3)];exact⟨h3,h4⟩⟩
 ·rw[O];split
  ·omega
  exact I.hi k
 ·rw[O]at h4 h5;by_cases c:v=e.From
  ·rw[if_pos c]at h5;omega
  rw[if_neg c]at h4 h5;obtain⟨h6,h7⟩:=I.old u v h1 h2 h3 h4 h5;rw[O,if_neg (hne u h6),O,if_neg c];exact⟨h6,h7⟩
 rw[O]at h ⊢;by_cases c:e'.To=e.From
 ·rw[if_pos c]at h;omega
 rw[if_neg c]at h;by_cases c':e'.From=e.From
 ·rw[if_pos c'];omega
 rw[if_neg c'];by_cases hji:j=i
 ·subst hji;rw[he]at he';cases he';exact absurd rfl c'
 exact I.cur j e' (by omega) he' hc h
def QhI.stay {i:Nat}(I:QhI s gs r i out)(he:s.Edges[i]? = some e)(c:cnt s e=true->av out e.To=r->¬av out e.From<0):QhI s gs r (i+1) out:=by
 refine { I with hi0:=λh=>by omega,cur:=λj e' hj O hc h=>?_ };by_cases hji:j=i
 ·subst hji;rw[he]at O;cases O;have:=c hc h;omega
 exact I.cur j e' (by omega) O hc h
def QhI.next (I:QhI s gs r s.Edges.length out):QhI s gs (r+1) 0 out:=by
 refine { I with hi:=λk=>by have:=I.hi k;omega,hi0:=λ_ k=>by have:=I.hi k;omega,old:=λu v O h2 h3 h4 h5=>?_,cur:=λj e' h=>by omega };by_cases c:av out v<r
 ·exact I.old u v O h2 h3 h4 c
 obtain⟨e,e1,rfl,rfl⟩:=QgK.1 O;obtain⟨j,h⟩:=GD.1 e1;have h6:=I.cur j e (QX.1 h).1 h (Zd.2 ⟨h2,h3⟩) (by omega);have:=I.hi e.From;omega
end Go.Proofs
