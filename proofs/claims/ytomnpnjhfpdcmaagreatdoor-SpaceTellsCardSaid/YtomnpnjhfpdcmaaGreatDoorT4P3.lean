/- A part of the proof. -/
import Derived.Test.YtomnpnjhfpdcmaaGreatDoorT4P2
import Derived.Test.YtomnpnjhfpdcmaaGreatDoorT4P2
import Derived.Test.YtomnpnjhfpdcmaaGreatDoorT4P1
import Derived.Test.YtomnpnjhfpdcmaaGreatDoorT4P2
import Derived.Test.YtomnpnjhfpdcmaaGreatDoorT4P2
import Derived.Test.YtomnpnjhfpdcmaaGreatDoorT4P1
import Derived.Test.YtomnpnjhfpdcmaaGreatDoorT4T3
import Derived.KernelRfl
set_option linter.all false
noncomputable section
namespace Go.Proofs
open Go Go.RowKit Go.Vm
def SH {σ ρ:Type}{b1 b2:σ->O_ (σ⊕ρ)}(n:Nat)(I:Nat->σ->Prop)(he:∀i s,I i s->b1 s=b2 s)(hn:∀i s D,I i s->b2 s=some (.inl D)->i<n/\I (i+1) D):∀s0,I 0 s0->Qu b1 s0=Qu b2 s0:=by
 have key:∀(k i:Nat) s,n<=i+k->I i s->Qu b1 s=Qu b2 s:=by
  intro k
  induction k with
  | zero=>
   intro i s hk hI
   rw[YR,YR (body:=b2),he i s hI]
   cases hb:b2 s with
   | none=>rfl
   | some o=>
    cases o with
    | inr r=>rfl
    | inl D=>have:=(hn i s D hI hb).1;omega
  | succ k ih=>
   intro i s hk hI
   rw[YR,YR (body:=b2),he i s hI]
   cases hb:b2 s with
   | none=>rfl
   | some o=>
    cases o with
    | inr r=>rfl
    | inl D=>exact ih (i+1) D (by omega) (hn i s D hI hb).2
 exact λs0 h=>key n 0 s0 (by omega) h
structure RN (n:Qk):Prop where
 c:∀c∈n.Colours,IC c
 g:∀t∈n.Tasks,RE t.Guard
 i:∀t∈n.Tasks,∀a∈t.Ins,RE a.Expr
 o:∀t∈n.Tasks,∀a∈t.Outs,RE a.Expr
def QhV {n:Qk}(h:Xd n)(hr:RN n)(task:Int)(D:LI_):∃r,Dc n task D=some r/\HC n task D=some r/\(r.2=0->(∀x∈r.1,XJ x)/\∃e,idx n.Tasks task=some e/\e∈n.Tasks):=by
 unfold Dc HC
 cases hq:((decide (task<0))||(decide ((n.Tasks.length:Int)<=task)))with
 | true=>exact⟨_,rfl,rfl,λh=>by cases h⟩
 | false=>
  simp only[Kw,QX]at hq
  have he:idx n.Tasks task=some (n.Tasks[task.toNat]'(by omega)):=Ng (by omega) (by omega)
  have hm:(n.Tasks[task.toNat]'(by omega))∈n.Tasks:=Xn _
  rw[Qs,Qs,he,Qd,Qd]
  generalize (n.Tasks[task.toNat]'(by omega))=e at he hm
  have hv:=(h.tk e hm).1
  by_cases hl:(D.length:Int)=(e.Vars.length:Int)
  ·rw[show((D.length:Int) != (e.Vars.length:Int))=false by simpa using hl,Qs,Qs,So (by simp;omega),Qd]
   have mx:(16:Nat)<=maxLen:=by decide
   obtain⟨r,q,e1,e2,e3⟩:=Zz (b1:=λst:Int×LI_=>Db e D n st.1 st.2) (b2:=λst:Int×LI_=>CS e D n st.1 st.2) e.Vars.length
    (λi s t=>s=((i:Int),t.2++List.replicate (e.Vars.length-i) 0)/\t.1=(i:Int)/\t.2.length=i/\∀x∈t.2,XJ x) (λr q=>r=q/\∀l,r=.inr l->∀x∈l,XJ x) (λi s t hi hI=>by
     obtain⟨a,out⟩:=t
     obtain⟨rfl,h2,h3,h4⟩:=hI
     replace h2:a=(i:Int):=h2
     subst h2
     replace h3:out.length=i:=h3
     replace h4:∀x∈out,XJ x:=h4
     show(i<e.Vars.length/\∃s' t',Db e D n i (out++List.replicate (e.Vars.length-i) 0)=_/\CS e D n i out=_/\_)\/∃r q,Db e D n i (out++List.replicate (e.Vars.length-i) 0)=_/\CS e D n i out=_/\_
     unfold Db CS
     by_cases hlt:i<e.Vars.length
     ·rw[QE (by omega:(i:Int)<(e.Vars.length:Int)),Qz,Qz,QP,Qy hlt,QP,Qy (show i<D.length by omega)]
      simp only[Qd]
      obtain⟨y,y1,y2,y3⟩:=Qni h.k.1 hr.c (e.Vars[i]).Colour (D[i]'(by omega))
      have hrep:List.replicate (e.Vars.length-i) (0:Int)=0::List.replicate (e.Vars.length-(i+1)) 0:=by
       rw[show e.Vars.length-i=(e.Vars.length-(i+1))+1 by omega];rfl
      rw[y1,y2,Qd,Qd]
      cases y.2 with
      | false=>exact .inr ⟨_,_,rfl,rfl,rfl,λl h=>by cases h⟩
      | true=>
       left
       simp only[GE,Qs]
       rw[QP,hrep,Wl (by omega),h3,Nat.sub_self,WJ (by simp;omega)]
       refine⟨hlt,_,_,rfl,rfl,?_,Qt hlt (by omega),by simp;omega,λx hx=>?_⟩
       ·rw[Qt hlt (by omega),XC,List.set_append_right _ _ (by omega),h3,Nat.sub_self,WY];rfl
       rcases YD.1 hx with hx | hx
       ·exact h4 x hx
       simp at hx;subst hx;exact y3
     right
     rw[QK (by omega:¬(i:Int)<(e.Vars.length:Int))]
     have:i=e.Vars.length:=by omega
     subst this
     refine⟨_,_,rfl,rfl,?_,λl hl=>?_⟩
     ·simp
     cases hl;simpa using h4) (0,List.replicate (e.Vars.length:Int).toNat 0) (0,[]) ⟨by simp,rfl,rfl,λx h=>by cases h⟩
   obtain⟨e3,e4⟩:=e3
   subst e3
   rw[e1,e2]
   rcases r with r | r
   ·exact⟨_,rfl,rfl,λh=>by cases h⟩
   exact⟨_,rfl,rfl,λ_=>⟨e4 r rfl,e,rfl,hm⟩⟩
  rw[show((D.length:Int) != (e.Vars.length:Int))=true by simpa using hl]
  exact⟨_,rfl,rfl,λh=>by cases h⟩
def Qbe {n:Qk}(h:Xd n)(hr:RN n){l:L_ Yg}(hl:QV Hu l)(hre:∀a∈l,RE a.Expr){D env:LI_}(hw:D.length<=1000)(hv:∀x∈env,XJ x):Eb n l D env=Yj n l D env:=by
 unfold Eb Yj
 congr 1
 funext _
 have mx:(1000:Nat)<=maxLen:=by decide
 have e:Qu (λst:Int×L_ QBg=>Cs D l env n st.1 st.2) (0,(List.replicate (n.Places.length:Int).toNat (([]:QBg):QBg)))=Qu (λst:Int×L_ QBg=>Wb D l env n st.1 st.2) (0,(List.replicate (n.Places.length:Int).toNat (([]:QBg):QBg))):=by
  refine SH D.length (λi s=>s.1=(i:Int)/\i<=D.length/\∀b∈s.2,b.length<=i) (λi s hI=>?_) (λi s s' hI hs=>?_) _ ⟨rfl,by omega,λb hb=>by rw[RZ hb];simp⟩
  ·obtain⟨a,m⟩:=s
   obtain⟨h1,h2,h3⟩:=hI
   replace h1:a=(i:Int):=h1
   subst h1
   replace h3:∀b∈m,b.length<=i:=h3
   show Cs D l env n i m=Wb D l env n i m
   unfold Cs Wb
   cases decide ((i:Int)<(D.length:Int))with
   | false=>rfl
   | true=>
    rw[Qz,Qz]
    cases idx D (i:Int)with
    | none=>rfl
    | some k=>
     simp only[Qd]
     cases ((decide (k<0))||(decide ((l.length:Int)<=k)))with
     | true=>rfl
     | false=>
      rw[Qs,Qs]
      cases hk:idx l k with
      | none=>rfl
      | some a=>
       simp only[Qd]
       have ha:a∈l:=XH (Yl hk).2
       obtain⟨x,x1,x2,x3⟩:=Qld (hl.2 a ha).2 (hre a ha) hv
       rw[x1,x2,Qd,Qd]
       cases (x.2 != 0)with
       | true=>rfl
       | false=>
        rw[Qs,Qs]
        cases ((decide (a.Place<0))||(decide ((n.Places.length:Int)<=a.Place)))with
        | true=>rfl
        | false=>
         rw[Qs,Qs]
         cases idx n.Places a.Place with
         | none=>rfl
         | some p=>
          simp only[Qd]
          obtain⟨y,y1,y2⟩:=Qnj h.k.1 hr.c p.Colour x.1 x3
          rw[y1,y2,Qd,Qd]
          cases hy:y.2 with
          | false=>rfl
          | true=>
           simp only[GE,Qs]
           have y0:=Eg (Qmz n.Colours p.Colour x.1 h.k.1) y1 hy
           cases hb:idx m a.Place with
           | none=>rfl
           | some b=>
            simp only[Qd]
            have hbl:=h3 b (XH (Yl hb).2)
            rw[Ri,QE y0,Qz,Qd,QhU (by simp;omega)]
  obtain⟨a,m⟩:=s
  obtain⟨h1,h2,h3⟩:=hI
  replace h1:a=(i:Int):=h1
  subst h1
  replace h3:∀b∈m,b.length<=i:=h3
  replace hs:Wb D l env n i m=some (.inl s'):=hs
  unfold Wb at hs
  rcases Xy hs with⟨c,hs⟩|⟨_,hs⟩
  ·have hlt:i<D.length:=by simpa using c
   obtain⟨k,_,hs⟩:=Qv hs
   rcases Xy hs with⟨_,hs⟩|⟨_,hs⟩
   ·cases hs
   obtain⟨a,_,hs⟩:=Qv hs
   obtain⟨x,_,hs⟩:=Qv hs
   rcases Xy hs with⟨_,hs⟩|⟨_,hs⟩
   ·cases hs
   obtain⟨a',_,hs⟩:=Qv hs
   rcases Xy hs with⟨_,hs⟩|⟨_,hs⟩
   ·cases hs
   obtain⟨p,_,hs⟩:=Qv hs
   obtain⟨y,_,hs⟩:=Qv hs
   rcases Xy hs with⟨_,hs⟩|⟨_,hs⟩
   ·cases hs
   obtain⟨b,hb,hs⟩:=Qv hs
   obtain⟨o,ho,hs⟩:=Qv hs
   obtain⟨u,hu,hs⟩:=Qv hs
   obtain⟨_,_,hs⟩:=Qv hs
   rcases Xy hs with⟨_,hs⟩|⟨cu,hs⟩
   ·cases hs
   cases hs
   refine⟨hlt,Qt hlt (by omega),by omega,λc hc=>?_⟩
   have hbl:=h3 b (XH (Yl hb).2)
   rw[Ri]at ho
   have hol:o.length<=1:=by
    rw[<-Option.some.inj ho]
    cases decide (0<=y.1)<;>simp
   rcases RU hc with rfl | hc
   ·rcases EA b o (by omega)with⟨_,e⟩|⟨_,_,_,e⟩|⟨_,_,r,e,_,_,e2⟩
    ·rw[hu]at e;cases e;simp
    ·rw[hu]at e;cases e;simp
    rw[hu]at e;cases e;show r.length<=_;omega
   have:=h3 c hc;omega
  cases hs
 rw[e];rfl
def QjC {n:Qk}(h:Xd n)(D:RN n){o:Qg}(ho:XQ n o):Hr n o=WW n o:=by
 unfold Hr WW
 obtain⟨r,e1,e2,e3⟩:=QhV h D o.Task o.Vars
 rw[e1,e2,Qd,Qd]
 cases hz:(r.2 != 0)with
 | true=>rfl
 | false=>
  obtain⟨hv,e,he,hm⟩:=e3 (by simpa using hz)
  rw[Qs,Qs,he,Qd,Qd,Qbe h D (h.k.2.2.1.2 e hm).2.2.2.2.2.1 (D.i e hm) (by have:=ho.2.1;omega) hv]
def QjD {n:Qk}(h:Xd n)(D:RN n){o:Qg}(ho:XQ n o):AZ n o=(Dc n o.Task o.Vars).bind λx=>bif (x.2 != 0)then some ([],x.2)else(idx n.Tasks o.Task).bind λe=>(Yj n e.Outs o.Outs x.1).bind λy=>some (y.1,y.2):=by
 unfold AZ
 obtain⟨r,e1,e2,e3⟩:=QhV h D o.Task o.Vars
 rw[e1,e2,Qd,Qd]
 cases hz:(r.2 != 0)with
 | true=>rfl
 | false=>
  obtain⟨hv,e,he,hm⟩:=e3 (by simpa using hz)
  rw[Qs,Qs,he,Qd,Qd,Qbe h D (h.k.2.2.1.2 e hm).2.2.2.2.2.2.1 (D.o e hm) (by have:=ho.2.2;omega) hv]
def Qgg {a m:L_ QBg}(h:QV (QV λ_=>True) a)(D:QV (QV λ_=>True) m):CX a m=EY a m:=by
 unfold CX EY XT
 cases ((a.length:Int) != (m.length:Int))with
 | true=>rfl
 | false=>
  rw[Qs,Qs]
  have e:(λst=>MJ a m st)=λst=>Xi a m st:=by
   funext i
   unfold MJ Xi
   cases decide (i<(a.length:Int))with
   | false=>rfl
   | true=>
    rw[Qz,Qz]
    cases hx:idx a i with
    | none=>rfl
    | some x=>
     cases hy:idx m i with
     | none=>rfl
     | some y=>
      simp only[Qd]
      rw[Sq (h.2 x (XH (Yl hx).2)).1 (D.2 y (XH (Yl hy).2)).1]
  rw[e]
  cases Qu (λst=>Xi a m st) 0 with
  | none=>rfl
  | some q=>cases q<;>rfl
def QeX (a b:LI_)(h:a.length<=maxLen):Ev a b=some (decide (a=b)):=by
 rw[<-Qjy a b h];rfl
def QjE (D h:Int)(row:LI_):CW D h row=some (decide (row∈GB D h)):=by
 unfold CW
 obtain⟨e,hx⟩:=Ni D h
 rw[Zy,e,Qd]
 generalize GB D h=x at hx
 have mx:(16:Nat)<=maxLen:=by decide
 have hl:=hx.1
 rw[Zr (body:=λst:Int=>Gr x row st) (l:=x) (λi=>(i:Int)) (λ_ y=>decide (y=row)) (.inl ()) (.inr ()) (λi y hi hy=>by
  show Gr x row i=_
  unfold Gr
  rw[QE (by omega),Qz,QP,hy,Qd,QeX _ _ (by have:=hx.2 y (XH hy);omega),Qd,Qt hi (by omega)]
  cases decide (y=row)<;>rfl) (by
  show Gr x row x.length=_
  unfold Gr
  rw[QK (by omega),Qs]) (s0:=0) rfl,Qd]
 by_cases hm:row∈x
 ·obtain⟨i,hi⟩:=Nl.1 hm
  have:Rg (λ_ y=>decide (y=row)) 0 x=true:=QhC.2 ⟨i,row,hi,by simp⟩
  rw[this,QE hm];rfl
 have:Rg (λ_ y=>decide (y=row)) 0 x=false:=Qcv.2 λi y hy=>QK λe=>hm (e▸XH hy)
 rw[this,QK hm];rfl
def Qsf {l:LI_}(hl:l.length<=maxLen)(k:Int):TS l k=some (decide (k∈l)):=by
 unfold TS
 rw[Zr (body:=λst:Int=>AY l k st) (l:=l) (λi=>(i:Int)) (λ_ y=>y==k) (.inl ()) (.inr ()) (λi y D hy=>by
  show AY l k i=_
  unfold AY
  rw[QE (by omega),Qz,QP,hy,Qd,Qt D hl]
  cases (y==k)<;>rfl) (by
  show AY l k l.length=_
  unfold AY
  rw[QK (by omega),Qs]) (s0:=0) rfl,Qd]
 by_cases h:k∈l
 ·obtain⟨i,D⟩:=Nl.1 h
  have:Rg (λ_ y=>y==k) 0 l=true:=QhC.2 ⟨i,k,D,by simp⟩
  rw[this,QE h];rfl
 have:Rg (λ_ y=>y==k) 0 l=false:=Qcv.2 λi y hy=>by
  have:=XH hy
  simp only[beq_eq_false_iff_ne]
  intro e;exact h (e▸this)
 rw[this,QK h];rfl
def Qsg {l:LI_}(D:l.length<=maxLen)(k:Int):Yy l k=some (decide (k∈l)):=by
 unfold Yy WV
 rw[QpC (l:=l) (λy=>k==y) (λi x h hx=>by
  show YZ l k i=_
  unfold YZ
  rw[QE (by omega),Qz,QP,hx,Qd,Qt h D]
  cases (k==x)<;>rfl) (by
  show YZ l k l.length=_
  unfold YZ
  rw[QK (by omega),Qs])]
 have e:decide (k∈l)=l.any λy=>k==y:=by
  apply ZN.2
  simp[EB]
 rw[e,<-Qra]
 cases Mf (λ_ y=>k==y) 0 l<;>rfl
def chP (h:Nat):Bool:=((YO 3 h).getD []).all λrow=>(List.range h).all λk=>decide ((k:Int)∈row)||decide (Sn row k=some (DI (row++[(k:Int)])))
def Qsh {D:Nat}{row:LI_}(h:row∈GB 3 D){k:Nat}(hk:k<D)(hn:(k:Int) ∉ row):Sn row k=some (DI (row++[(k:Int)])):=by
 by_cases h4:D<=4
 ·have c:chP D=true:=by
   rcases show D=0\/D=1\/D=2\/D=3\/D=4 by omega with e | e | e | e | e<;>subst e<;>kernel_rfl
  have:=XN.1 (XN.1 c row h) k (An.2 hk)
  rw[QK hn,Tz]at this
  exact Xo this
 exfalso
 unfold GB YO at h
 have:((decide ((D:Int)<0))||((decide ((16:Int)<(D:Int)))||(((3:Int)==3)&&(decide ((4:Int)<(D:Int))))))=true:=by simp;omega
 rw[this]at h
 simp at h
def Qoz {n:Qk}(h:Xd n)(hr:RN n){m:L_ QBg}(hm:QV (QV λ_=>True) m){o:Qg}(ho:XQ n o){e:QI}(he:e∈n.Tasks)(hj:e.Join=3){env:LI_}{z:Int}(hv:∀x∈env,XJ x)(hch:o.Ins∈GB e.Join e.Ins.length):
  Qu (λst=>Wh e o n (env,z) m st) 0=Qu (λst=>Yn (Xf.mk n m e env) o.Ins st) 0:=by
 have hi:=(h.tk e he).2.1
 have mx:(1000:Nat)<=maxLen:=by decide
 have hil:=ho.2.1
 rw[hj]at hch
 refine SH (b1:=λst=>Wh e o n (env,z) m st) (b2:=λst=>Yn (Xf.mk n m e env) o.Ins st) e.Ins.length (λi s=>s=(i:Int)) (λi s hI=>?_) (λi s s' hI D=>?_) 0 rfl
 ·subst hI
  show Wh e o n (env,z) m i=Yn (Xf.mk n m e env) o.Ins i
  unfold Wh Yn
  rw[hj,show((3:Int)==3)=true from rfl,Tw]
  by_cases hlt:i<e.Ins.length
  ·rw[QE (by omega:(i:Int)<(e.Ins.length:Int)),Qz,Qz,Qsf (by omega),Qsg (by omega),Qd,Qd]
   by_cases hin:(i:Int)∈o.Ins
   ·rw[QE hin];rfl
   rw[QK hin,Qs,Qs,Qsh hch hlt hin,OQ _ (by omega),Qd,Qd,WJ (by simp;omega),Qd,QcB _ (by simp;omega),Qd,WJ (Gv _),Qd]
   show(Eb n e.Ins _ env).bind _=_
   rw[Qbe h hr (h.k.2.2.1.2 e he).2.2.2.2.2.1 (hr.i e he) (by rw[Gv];simp;omega) hv]
   show _=(Yj n e.Ins _ env).bind _
   cases hx:Yj n e.Ins (DI (o.Ins++[(i:Int)])) env with
   | none=>rfl
   | some x=>
    simp only[Qd]
    have:=Eg (OI n e.Ins _ env h (h.k.2.2.1.2 e he).2.2.2.2.2.1 (by rw[Gv];simp;omega)) hx
    unfold Zk BZ
    cases hz:(x.2==0)with
    | false=>rfl
    | true=>
     rw[Qz,Qz,Qgg ((this (by simpa using hz)).1.len h (by rw[Gv];simp;omega)) hm]
     rfl
  rw[QK (by omega:¬(i:Int)<(e.Ins.length:Int))];rfl
 subst hI
 replace D:Yn (Xf.mk n m e env) o.Ins i=some (.inl s'):=D
 unfold Yn at D
 rcases Xy D with⟨c,D⟩|⟨_,D⟩
 ·have hlt:i<e.Ins.length:=by
   have:(i:Int)<(e.Ins.length:Int):=Xo c
   omega
  refine⟨hlt,?_⟩
  have fin:∀s',KB (i:Int)=some (.inl s')->s'=((i+1:Nat):Int):=λs' h=>by
   unfold KB at h
   rw[<-Qt (n:=e.Ins.length) hlt (by omega)];cases h;rfl
  obtain⟨_,_,D⟩:=Qv D
  rcases Xy D with⟨_,D⟩|⟨_,D⟩
  ·exact fin s' D
  obtain⟨_,_,D⟩:=Qv D
  obtain⟨_,_,D⟩:=Qv D
  obtain⟨_,_,D⟩:=Qv D
  obtain⟨_,_,D⟩:=Qv D
  obtain⟨_,_,D⟩:=Qv D
  obtain⟨_,_,D⟩:=Qv D
  unfold Ca at D
  rcases Xy D with⟨_,D⟩|⟨_,D⟩
  ·cases D
  exact fin s' D
 cases D
def QcE {n:Qk}(h:Xd n)(hr:RN n){m:L_ QBg}(hm:QV (QV λ_=>True) m){o:Qg}(ho:XQ n o):Ba n m o=Yv n m o:=by
 have hN:=QjC h hr ho
 have hG:=QjD h hr ho
 unfold WW at hN
 unfold Ba Yv YV
 obtain⟨⟨D,z⟩,e1,e2,e3⟩:=QhV h hr o.Task o.Vars
 rw[e1]at hN hG
 rw[e1,e2]
 simp only[Qd]at hN hG ⊢
 cases hz:(z != 0)with
 | true=>
  have hz2:(z==0)=false:=by simpa using hz
  rw[Qz,Qz,Qd]
  simp only[hz2,Qs]
  unfold Jt
  rw[hz];rfl
 | false=>
  have hz0:z=0:=by simpa using hz
  obtain⟨hv,e,he,hmem⟩:=e3 hz0
  rw[hz,Qs,he,Qd]at hN hG
  rw[Qs,Qs,he,Qd,Qd,Qd]
  simp only[show((0:Int)==0)=true from rfl,Qz]
  obtain⟨x,x1,x2,_⟩:=Qld (h.k.2.2.1.2 e hmem).2.2.1 (hr.g e hmem) hv
  unfold XF
  simp only[x1,x2,Qd]
  cases hx:(x.2 != 0)with
  | true=>
   simp only[Qz,Qd]
   unfold Jt
   rw[hx];rfl
  | false=>
   simp only[Qs]
   cases hx0:(x.1==0)with
   | true=>rfl
   | false=>
    simp only[Qs,Qd]
    unfold Jt Bm Bn
    simp only[show((0:Int) != 0)=false from rfl,Qs]
    rw[QjE,QjE,HD,HD,Qd,Qd,Qd]
    by_cases c1:o.Ins∈GB e.Join e.Ins.length
    ·by_cases c2:o.Outs∈GB e.Split e.Outs.length
     ·rw[QE c1,QE c2]
      simp only[GE,ZP,Qs,Qd]
      rw[hN]
      unfold XA XZ
      show _=(((Yj n e.Ins o.Ins D).bind _).bind _:O_ Int)
      have kt:=OI n e.Ins o.Ins D h (h.k.2.2.1.2 e hmem).2.2.2.2.2.1 (by have:=ho.2.1;omega)
      obtain⟨T,hT,hT2⟩:=kt
      rw[hT]
      simp only[Qd]
      cases ht:(T.2 != 0)with
      | true=>
       simp only[Qz,Qd,ht]
      | false=>
       simp only[Qs]
       rw[Qgg ((hT2 (by simpa using ht)).1.len h (by have:=ho.2.1;omega)) hm]
       obtain⟨w,hw,_⟩:=QhR T.1 m ((hT2 (by simpa using ht)).1.len h (by have:=ho.2.1;omega)) hm
       rw[hw]
       simp only[Qd]
       cases w with
       | false=>rfl
       | true=>
        simp only[GE,Qs]
        have fin:Ai n o=(Yj n e.Outs o.Outs D).bind λx=>some x.2:=by
         unfold Ai
         rw[hG]
         cases Yj n e.Outs o.Outs D with
         | none=>rfl
         | some y=>rfl
        by_cases hj:e.Join=3
        ·rw[Qoz h hr hm ho hmem hj hv c1]
         simp only[hj,show((3:Int) != 3)=false from rfl,Qs]
         cases Qu (λst=>Yn (Xf.mk n m e D) o.Ins st) 0 with
         | none=>rfl
         | some q=>
          rcases q with q | q
          ·rfl
          show Ai n o=_
          rw[fin]
          cases Yj n e.Outs o.Outs D<;>rfl
        have hjb:(e.Join==3)=false:=by simpa using hj
        have hjn:(e.Join != 3)=true:=by simpa using hj
        simp only[hjn,Qz,Qd,show((0:Int) != 0)=false from rfl,Qs]
        have:Qu (λst=>Wh e o n (D,z) m st) 0=some (.inr ()):=by
         refine Sr.2 (.done ?_)
         show Wh e o n (D,z) m 0=_
         unfold Wh
         rw[hjb,Bool.and_false];rfl
        rw[this]
        show Ai n o=_
        rw[fin]
        cases Yj n e.Outs o.Outs D<;>rfl
     rw[QE c1,QK c2];rfl
    rw[QK c1];rfl
def Qlf {α β:Type}{l:L_ α}(g:α->L_ β){most:Nat}{body:Int×L_ β->O_ ((Int×L_ β)⊕(L_ β⊕L_ β))}(A:Nat)(hl:l.length<=maxLen)
  (hb:∀(i:Nat) h x,h.length<most->h.length+(g x).length<=A->i<l.length->l[i]? = some x->body ((i:Int),h)=some (match Ja most h (g x)with | .inl a=>.inr (.inl a) | .inr a=>.inl (Qi ((i:Int)+1),a)))
  (hf:∀h,body ((l.length:Int),h)=some (.inr (.inr h))) {h:L_ β} (D:h.length<most) (hA:h.length+(l.flatMap g).length<=A):Qu body (0,h)=some (Ja most h (l.flatMap g)):=by
 have key:∀(k i:Nat) h,i+k=l.length->h.length<most->h.length+((l.drop i).flatMap g).length<=A->Qu body ((i:Int),h)=some (Ja most h ((l.drop i).flatMap g)):=by
  intro k
  induction k with
  | zero=>
   intro i h hk D hA
   obtain rfl:i=l.length:=by omega
   rw[YR,hf,List.drop_length]
   show _=some (Ja most h [])
   rw[OP D];rfl
  | succ k ih=>
   intro i h hk D hA
   have hi:i<l.length:=by omega
   rw[Lt hi,EC,JI]at hA
   rw[YR,hb i h l[i] D (by omega) hi (Qy hi),Lt hi,EC,QeV]
   cases hx:Ja most h (g l[i])with
   | inl a=>rfl
   | inr a=>
    simp only
    show Qu body (Qi ((i:Int)+1),a)=_
    rw[Qt hi hl]
    refine ih (i+1) a (by omega) (Qjj hx) ?_
    have:=congrArg List.length (QeW hx)
    rw[JI]at this
    omega
 have:=key l.length 0 h (by omega) D (by rw[List.drop_zero];exact hA)
 rwa[List.drop_zero]at this
def QmN (n:Qk)(m:L_ QBg)(o:Qg):Bool:=decide (Yv n m o=some 0)
def QcF (n:Qk)(m:L_ QBg)(o:Qg):L_ Qg:=if QmN n m o=true then [o]else []
def QmO {α β:Type}(p:α->Bool)(f:α->β):∀l:L_ α,l.flatMap (λx=>if p x=true then [f x]else [])=(l.filter p).map f
 | []=>rfl
 | x::l=>by
  rw[EC,QmO p f l,Nj]
  cases p x<;>rfl
def RW {α β:Type}{g:α->L_ β}:∀{l:L_ α},(∀x∈l,g x=[])->l.flatMap g=[]
 | [],_=>rfl
 | x::l,h=>by rw[EC,h x XY,RW λy D=>h y (Yo _ D)];rfl
def QcG {α β:Type}{f g:α->L_ β}:∀{l:L_ α},(∀x∈l,f x=g x)->l.flatMap f=l.flatMap g
 | [],_=>rfl
 | x::l,h=>by rw[EC,EC,h x XY,QcG λy D=>h y (Yo _ D)]
def QpH {n:Qk}(h:Xd n){m:L_ QBg}(hm:QV (QV λ_=>True) m){D:Int}{e:QI}(he:idx n.Tasks D=some e){p:LI_}(hp:p.length<=20):
  WX n m D (GB e.Join e.Ins.length) (GB e.Split e.Outs.length) p=(GB e.Join e.Ins.length).flatMap λi=>(GB e.Split e.Outs.length).flatMap λk=>QcF n m (Qg.mk D p i k):=by
 have r1:=(Ni e.Join e.Ins.length).2
 have r2:=(Ni e.Split e.Outs.length).2
 have key:∀i∈GB e.Join e.Ins.length,∀k∈GB e.Split e.Outs.length,(QmN n m (Qg.mk D p i k)=true↔∃b,YV n m D p=some (0,b)/\XF b=some 0/\XA b i=some 0/\XZ b k=some 0):=λi hi k hk=>by
  unfold QmN
  rw[decide_eq_true_iff,QaN h hm ⟨hp,by have:=r1.2 i hi;show i.length<=20;omega,by have:=r2.2 k hk;show k.length<=20;omega⟩,Fl]
  constructor
  ·rintro ⟨_,e',he',_,_,_,b,hb⟩;exact⟨b,hb⟩
  rintro ⟨b,b1,b2⟩
  obtain⟨k1,_,_,_,k2,_⟩:=Ml h b1
  rw[he]at k1
  cases k1
  exact⟨rfl,_,he,k2.1,hi,hk,b,b1,b2⟩
 unfold WX QcF
 cases hb:YV n m D p with
 | none=>
  symm
  refine RW λi hi=>RW λk hk=>if_neg λc=>?_
  obtain⟨b,b1,_⟩:=(key i hi k hk).1 c
  rw[hb]at b1;cases b1
 | some x=>
  obtain⟨c,b⟩:=x
  simp only
  by_cases hc:c=0/\XF b=some 0
  ·rw[if_pos hc]
   refine QcG λi hi=>?_
   by_cases ht:XA b i=some 0
   ·rw[if_pos ht,<-QmO]
    refine QcG λk hk=>?_
    have e:Fc b k=QmN n m (Qg.mk D p i k):=by
     apply ZN.2
     rw[key i hi k hk]
     unfold Fc
     rw[decide_eq_true_iff]
     constructor
     ·intro hg;exact⟨b,by rw[hb,hc.1],hc.2,ht,hg⟩
     rintro ⟨b',b1,_,_,b2⟩
     rw[hb]at b1;cases b1;exact b2
    rw[e]
   rw[if_neg ht]
   symm
   refine RW λk hk=>if_neg λc=>?_
   obtain⟨b',b1,_,b2,_⟩:=(key i hi k hk).1 c
   rw[hb]at b1;cases b1;exact ht b2
  rw[if_neg hc]
  symm
  refine RW λi hi=>RW λk hk=>if_neg λc=>?_
  obtain⟨b',b1,b2,_⟩:=(key i hi k hk).1 c
  rw[hb]at b1;cases b1;exact hc ⟨rfl,b2⟩
def QrA {α:Type}{most:Nat}{D:L_ α}{x:α}(h:D.length<most):Ja most D [x]=if most<=D.length+1 then .inl (D++[x])else .inr (D++[x]):=by
 unfold Ja
 by_cases c:most<=D.length+1
 ·rw[if_pos c,if_neg (by simp;omega),JR (by simp;omega)]
 rw[if_neg c,if_pos (by simp;omega)]
def QpI {n:Qk}(h:Xd n)(hr:RN n){m:L_ QBg}(hm:QV (QV λ_=>True) m){D most:Int}{ins outs:L_ LI_}{p:LI_}(hi:Ln ins)(ho:Ln outs)(hp:p.length<=20){acc:L_ Qg}(ha:acc.length<most.toNat)
  (hs:most<=4294967296\/acc.length+(ins.flatMap λi=>outs.flatMap λk=>QcF n m (Qg.mk D p i k)).length<=4294967296):
  Qu (λst=>Du ins outs p n m D most st.1 st.2) (0,acc)=some (Ja most.toNat acc (ins.flatMap λi=>outs.flatMap λk=>QcF n m (Qg.mk D p i k))):=by
 have mx:(1000:Nat)<=maxLen:=by decide
 have hi1:=hi.1
 have ho1:=ho.1
 obtain⟨A,hA,hA2⟩:∃A,acc.length+(ins.flatMap λi=>outs.flatMap λk=>QcF n m (Qg.mk D p i k)).length<=A/\(most<=4294967296\/A<=4294967296):=⟨_,YY _,hs⟩
 refine Qlf (l:=ins) (λi=>outs.flatMap λk=>QcF n m (Qg.mk D p i k)) (body:=λst:Int×L_ Qg=>Du ins outs p n m D most st.1 st.2) A (by omega) (λi acc x h1 h2 hlt hx=>?_) (λacc=>?_) ha hA
 ·show Du ins outs p n m D most i acc=_
  have hxl:=hi.2 x (XH hx)
  unfold Du
  rw[QE (by omega:(i:Int)<(ins.length:Int)),Qz]
  rw[Qlf (l:=outs) (λk=>QcF n m (Qg.mk D p x k)) (body:=λst:Int×L_ Qg=>Ed outs p ins i n m D most st.1 st.2) A (by omega) (λk acc y g1 g2 glt gy=>by
   show Ed outs p ins i n m D most k acc=_
   have hyl:=ho.2 y (XH gy)
   have hck:∃c,Yv n m (Qg.mk D p x y)=some c:=(QbJ n m (Qg.mk D p x y) h hm ⟨hp,by show x.length<=20;omega,by show y.length<=20;omega⟩).tot
   obtain⟨c,hc⟩:=hck
   unfold Ed FT
   rw[QE (by omega:(k:Int)<(outs.length:Int)),Qz,WJ (by simp;omega),Qd,QP,hx,Qd,QP,gy,Qd,Nm,QcE h hr hm ⟨hp,by show x.length<=20;omega,by show y.length<=20;omega⟩,hc,Qd]
   unfold QcF QmN at g2 ⊢
   rw[hc]at g2 ⊢
   by_cases hc0:c=0
   ·subst hc0
    rw[if_pos (by simp)]at g2 ⊢
    rw[QrA g1]
    simp only[show((0:Int)==0)=true from rfl,Qz]
    rw[HW]at g2
    rw[WJ (by rw[HW];omega),Qd,JI,HW]
    by_cases hcut:most.toNat<=acc.length+1
    ·rw[if_pos hcut,QE (by omega:most<=((acc.length+1:Nat):Int))];rfl
    rw[if_neg hcut,QK (by omega:¬most<=((acc.length+1:Nat):Int))];rfl
   ·have e1:(c==0)=false:=by simpa using hc0
    rw[if_neg (by simpa using hc0),OP g1,e1];rfl) (λacc=>by
   show Ed outs p ins i n m D most outs.length acc=_
   unfold Ed
   rw[QK (by omega)];rfl) h1 h2,Qd]
  cases Ja most.toNat acc (outs.flatMap λk=>QcF n m (Qg.mk D p x k))<;>rfl
 show Du ins outs p n m D most ins.length acc=_
 unfold Du
 rw[QK (by omega)];rfl
def QpJ {n:Qk}(h:Xd n)(D:RN n)(t:QI)(s:Int×LI_):Qu (λst=>FU t n st.1 st.2) s=Qu (λst=>Js t n st.1 st.2) s:=by
 have e:(λst:Int×LI_=>FU t n st.1 st.2)=λst=>Js t n st.1 st.2:=by
  funext st
  unfold FU Js Zl Fy
  simp only[QpF h.k.1 D.c]
  rfl
 rw[e]
def Qnk {n:Qk}(h:Xd n)(hr:RN n){m:L_ QBg}(hm:QV (QV λ_=>True) m){D most:Int}(hmost:most<=4294967296\/(Yd n m D).length<=4294967296):Bb n m D most=some ((Yd n m D).take most.toNat):=by
 have key:Qj (Bb n m D most) λr=>r=(Yd n m D).take most.toNat:=by
  unfold Bb
  refine T1 (λhc=>T2 ?_) λhc=>?_
  ·simp only[KE,QB]at hc
   rcases hc with hc | hc | hc
   ·unfold Yd idx
    rw[if_neg (by omega)];simp
   ·unfold Yd idx
    rw[if_pos (by omega),Sa (by omega)];simp
   rw[show most.toNat=0 by omega,List.take_zero]
  simp only[Kw,QX]at hc
  refine T0 (T4 (by omega) (by omega)).self λe he=>?_
  have hv:=(h.tk e he.2).1
  refine T0 (T5 (by simp only[QQ,QB];omega)) λ_ _=>?_
  obtain⟨c1,r1⟩:=Ni e.Join e.Ins.length
  obtain⟨c2,r2⟩:=Ni e.Split e.Outs.length
  rw[Zy,c1,Qd,Zy,c2,Qd]
  have hsz:(XO n e).length=e.Vars.length:=by simp[XO]
  have hml:Yd n m D=(binds (XO n e)).flatMap (WX n m D (GB e.Join e.Ins.length) (GB e.Split e.Outs.length)):=by
   unfold Yd;rw[he.1]
  have hrd:∀p:LI_,p.length<=20->WX n m D (GB e.Join e.Ins.length) (GB e.Split e.Outs.length) p=_:=λp hp=>QpH h hm he.1 hp
  rw[hml]at hmost ⊢
  generalize hrl:WX n m D (GB e.Join e.Ins.length) (GB e.Split e.Outs.length)=rl at hmost hrd ⊢
  refine T0 (Qk9 (λst:Bool×LI_×L_ Qg=>bif st.1 then(Jl (XO n e) st.2.1).length+1 else 0)
   (λst=>(st.1=true->st.2.1.length=e.Vars.length/\(∀d∈st.2.1,0<=d/\d<=1024)/\(st.2.2.length:Int)<most/\Ja most.toNat st.2.2 ((st.2.1::Jl (XO n e) st.2.1).flatMap rl)=Ja most.toNat [] ((binds (XO n e)).flatMap rl)/\st.2.2.length+((st.2.1::Jl (XO n e) st.2.1).flatMap rl).length=((binds (XO n e)).flatMap rl).length)/\
    (st.1=false->Sum.inr st.2.2=Ja most.toNat [] ((binds (XO n e)).flatMap rl)))
   (Q:=λq:L_ Qg⊕L_ Qg=>q=Ja most.toNat [] ((binds (XO n e)).flatMap rl)) ⟨λ_=>⟨by simp,λd hd=>by have:=RZ hd;omega,by simp;omega,?_⟩,λh=>(by cases h)⟩ (λst hJ=>?_)) (λq hq=>?_)
  ·show Ja most.toNat [] ((List.replicate (e.Vars.length:Int).toNat 0::Jl (XO n e) (List.replicate (e.Vars.length:Int).toNat 0)).flatMap rl)=_/\0+((List.replicate (e.Vars.length:Int).toNat 0::Jl (XO n e) (List.replicate (e.Vars.length:Int).toNat 0)).flatMap rl).length=_
   rw[Qba (XO n e),Ht,hsz,XC,US]
   exact⟨rfl,rfl⟩
  ·obtain⟨mo,d,l⟩:=st
   obtain⟨hT,hF⟩:=hJ
   show Qj (MM (GB e.Join e.Ins.length) (GB e.Split e.Outs.length) n m D most e mo d l) _
   unfold MM
   cases mo with
   | false=>exact T2 ⟨λs' e=>(by cases e),λq eq=>(by cases eq;exact hF rfl)⟩
   | true=>
    obtain⟨j1,j2,j3,j4,j5⟩:d.length=e.Vars.length/\(∀d'∈d,0<=d'/\d'<=1024)/\(l.length:Int)<most/\Ja most.toNat l ((d::Jl (XO n e) d).flatMap rl)=Ja most.toNat [] ((binds (XO n e)).flatMap rl)/\l.length+((d::Jl (XO n e) d).flatMap rl).length=((binds (XO n e)).flatMap rl).length:=hT rfl
    rw[EC,JI]at j5
    rw[Qz,QpI h hr hm r1 r2 (by omega) (by omega) (by rw[<-hrd d (by omega)];omega),<-hrd d (by omega),Qd]
    rw[EC,QeV]at j4
    cases hrr:Ja most.toNat l (rl d)with
    | inl r=>
     rw[hrr]at j4
     exact T2 ⟨λs' e=>(by cases e),λq eq=>(by cases eq;exact j4)⟩
    | inr r=>
     rw[hrr]at j4
     have hacc:=Qjj hrr
     have hlen:=congrArg List.length (QeW hrr)
     rw[JI]at hlen
     replace j4:Ja most.toNat r ((Jl (XO n e) d).flatMap rl)=Ja most.toNat [] ((binds (XO n e)).flatMap rl):=j4
     show Qj (ML e n d r) _
     unfold ML
     rw[QpJ h hr]
     refine T0 (Qla e n d h.k j1 hv j2) λq hq=>?_
     obtain⟨a,d2⟩:=q
     obtain⟨⟨q1,q2,q3⟩,q4,q5⟩:(-1<=a/\a<d.length/\d2=d.take (a+1).toNat++List.replicate (d.length-(a+1).toNat) 0)/\(∀(j:Nat) x s,a<(j:Int)->d[j]? = some x->(XO n e)[j]? = some s->¬x+1<s)/\∀x s,0<=a->d[a.toNat]? = some x->(XO n e)[a.toNat]? = some s->x+1<s/\x<1024:=hq
     have hnx:=Qji (XO n e) d
     show Qj (MK r a d2) _
     unfold MK
     by_cases ha:0<=a
     ·have hlt:a.toNat<d.length:=by omega
      have hls:a.toNat<(XO n e).length:=by omega
      have ed:idx d2 a=some d[a.toNat]:=by
       rw[WN (by omega),q3,Jz (by simp;omega),Kd,if_pos (by omega),Qy hlt]
      rw[QE ha,Qz,ed,Qd,Qd]
      have h9:=q5 _ _ (by omega) (Qy hlt) (Qy hls)
      have h10:=j2 _ (Xn hlt)
      rw[XD (by omega)]
      have e3:d2.set a.toNat (d[a.toNat]+1)=d.take a.toNat++(d[a.toNat]+1)::List.replicate (d.length-(a.toNat+1)) 0:=by
       rw[q3,show(a+1).toNat=a.toNat+1 by omega,QhS hlt]
      rw[e3]
      have hd3:∀x∈d.take a.toNat++(d[a.toNat]+1)::List.replicate (d.length-(a.toNat+1)) 0,0<=x/\x<=1024:=λx hx=>by
       rcases YD.1 hx with hx | hx
       ·exact j2 x (Bf hx)
       rcases Yw.1 hx with rfl | hx
       ·omega
       have:=RZ hx;omega
      have hlen2:(d.take a.toNat++(d[a.toNat]+1)::List.replicate (d.length-(a.toNat+1)) 0).length=e.Vars.length:=by simp;omega
      rw[Qnu a.toNat (XO n e) d _ _ (by omega) (Qy hlt) (Qy hls) h9.1 λj y z hj=>q4 j y z (by omega)]at hnx
      simp only at hnx
      rw[hnx]at j4
      exact T2 ⟨λs' e'=>(by
       cases e'
       refine⟨?_,λ_=>⟨hlen2,hd3,by show(r.length:Int)<most;omega,j4,by show r.length+(List.flatMap rl (_::_)).length=_;rw[<-hnx];omega⟩,λh=>(by cases h)⟩
       show(Jl (XO n e) (d.take a.toNat++(d[a.toNat]+1)::List.replicate (d.length-(a.toNat+1)) 0)).length+1<(Jl (XO n e) d).length+1
       rw[hnx,GF];omega),λq e'=>(by cases e')⟩
     rw[QK ha,Qs]
     refine T2 ⟨λs' e'=>(by
      cases e'
      refine⟨?_,(λh=>by cases h),λ_=>?_⟩
      ·show 0<(Jl (XO n e) d).length+1
       omega
      rw[Qek (XO n e) d λj x s=>q4 j x s (by omega)]at hnx
      simp only at hnx
      rw[hnx,List.flatMap_nil,OP hacc]at j4
      exact j4),λq e'=>(by cases e')⟩
  rw[<-Qmv (by omega:0<most.toNat),<-hq]
  rcases q with q | q<;>exact T2 rfl
 obtain⟨r,h1,h2⟩:=key
 rw[h1,h2]
def QoA {n:Qk}(h:Xd n)(hr:RN n){m:L_ QBg}(hm:QV (QV λ_=>True) m){D most:Int}(hmost:most<=4294967296\/(Yd n m D).length<=4294967296):Bb n m D most=CG n m D most:=by
 rw[Qnk h hr hm hmost,QcC n m D most h hm hmost]
def QmP {n:Qk}(h:Xd n)(hr:RN n){m:L_ QBg}(hm:QV (QV λ_=>True) m){most:Int}(hi:XJ most)(hb:most<=4294967296\/∀k:Nat,(Yd n m (k:Int)).length<=4294967296):Nf n m most=Bl n m most:=by
 unfold Nf Bl
 have mx:(12:Nat)<=maxLen:=by decide
 have htl:=h.tl
 unfold XJ at hi
 have e:Qu (λst:Int×L_ Qg=>Me n m most st.1 st.2) (0,[])=Qu (λst:Int×L_ Qg=>Gx n m most st.1 st.2) (0,[]):=by
  have hms:∀(i:Nat) (l:L_ Qg),(l.length:Int)<=max most 0->Qi (most-(l.length:Int))<=4294967296\/(Yd n m (i:Int)).length<=4294967296:=λi l hl=>by
   rcases hb with hb | hb
   ·left
    by_cases h0:0<=most
    ·rw[XD (by omega)];omega
    rw[XD (by omega)];omega
   exact .inr (hb i)
  refine SH n.Tasks.length (λi s=>s.1=(i:Int)/\(s.2.length:Int)<=max most 0) (λi s hI=>?_) (λi s s' hI D=>?_) _ ⟨rfl,by simp;omega⟩
  ·obtain⟨x,l⟩:=s
   obtain⟨h1,h2⟩:=hI
   replace h1:x=(i:Int):=h1
   subst h1
   replace h2:(l.length:Int)<=max most 0:=h2
   show Me n m most i l=Gx n m most i l
   unfold Me Gx
   rw[QoA h hr hm (hms i l h2)]
  obtain⟨x,l⟩:=s
  obtain⟨h1,h2⟩:=hI
  replace h1:x=(i:Int):=h1
  subst h1
  replace h2:(l.length:Int)<=max most 0:=h2
  replace D:Gx n m most i l=some (.inl s'):=D
  unfold Gx at D
  rcases Xy D with⟨c,D⟩|⟨_,D⟩
  ·have hlt:i<n.Tasks.length:=by simpa using c
   rw[QcC n m i _ h hm (hms i l h2),Qd]at D
   obtain⟨_,_,D⟩:=Qv D
   cases D
   refine⟨hlt,Qt hlt (by omega),?_⟩
   show((l++(Yd n m (i:Int)).take (Qi (most-(l.length:Int))).toNat).length:Int)<=_
   have:=List.length_take_le (Qi (most-(l.length:Int))).toNat (Yd n m (i:Int))
   rw[JI]
   by_cases h0:0<=most
   ·rw[XD (by omega)]at this ⊢;omega
   rw[XD (by omega)]at this ⊢;omega
  cases D
 rw[e];rfl
def Qlg {α:Type}(l:L_ α):Rg (λ_ _=>false) 0 l=false:=Qcv.2 λ_ _ _=>rfl
def QpK (b:QBg)(h:b.length<=maxLen):Ra b b=some true:=by
 unfold Ra
 rw[show((b.length:Int) != (b.length:Int))=false by simp,Qs,Zr (body:=λst=>EV b b st) (l:=b) (λi=>(i:Int)) (λ_ _=>false) (.inl ()) (.inr ()) (λi x D hx=>by
  show EV b b i=_
  unfold EV
  rw[QE (by omega),Qz,QP,hx,Qd,Qd,Qt D h]
  simp) (by
  show EV b b b.length=_
  unfold EV
  rw[QK (by omega),Qs]) (s0:=0) rfl,Qlg]
 rfl
def QlL {m:L_ QBg}(h:QV (QV λ_=>True) m):Hb m m=some true:=by
 unfold Hb
 rw[show((m.length:Int) != (m.length:Int))=false by simp,Qs,Zr (body:=λst=>WM m m st) (l:=m) (λi=>(i:Int)) (λ_ _=>false) (.inl ()) (.inr ()) (λi x hi D=>by
  show WM m m i=_
  unfold WM
  rw[QE (by omega),Qz,QP,D,Qd,Qd,QpK x (h.2 x (XH D)).1,Qd,Qt hi h.1]
  rfl) (by
  show WM m m m.length=_
  unfold WM
  rw[QK (by omega),Qs]) (s0:=0) rfl,Qlg]
 rfl
def QpL {a b:QBg}(h:a.length+b.length<=4294967290):CY a b=Ju a b:=by
 unfold CY Qax Qay
 have ha:a.length<=maxLen:=by unfold maxLen;omega
 have hb:b.length<=maxLen:=by unfold maxLen;omega
 rw[Fm ha,Fm hb,Qd,Sq hb ha]
 obtain⟨w,hw,hw2⟩:=BO b a hb ha
 rw[hw]
 rcases Hy a b (by omega)with⟨D,h2⟩|⟨D,h2,⟨k,h3⟩,h4⟩|⟨D,h2,h3,r,h4,h5,h6,h7⟩
 ·rw[h2,<-YQ,<-YQ]at *
  cases ra:GA (-1) a with
  | false=>rfl
  | true=>
   cases rb:GA (-1) b with
   | false=>rfl
   | true=>exact absurd ⟨ra,rb⟩ D
 ·rw[YQ.2 D,YQ.2 h2,h4]
  have:w=false:=by
   cases w with
   | false=>rfl
   | true=>have:=(hw2.1 rfl).2.2 k;omega
  rw[this];rfl
 rw[YQ.2 D,YQ.2 h2,hw2.2 ⟨h2,D,h3⟩,h4]
 simp only[GE,Qs,Qd,Nm,Lw,US]
 rw[WJ (by omega),Qd]
 obtain⟨q,hq,hp1,hp2⟩:=ON (body:=λst:Int×QBg=>EQ b a st.1 st.2) b.length
  (λi s=>s.1=(i:Int)/\Rt s.2/\(∀k,QM s.2 k=QM a k-QM (b.take i) k)/\s.2.length<=a.length+i)
  (λq=>Rt q/\∀k,QM q k=QM a k-QM b k) (λi s hi hI=>by
   obtain⟨x,out⟩:=s
   obtain⟨g1,g2,g3,g4⟩:=hI
   replace g1:x=(i:Int):=g1
   subst g1
   replace g2:Rt out:=g2
   replace g3:∀k,QM out k=QM a k-QM (b.take i) k:=g3
   replace g4:out.length<=a.length+i:=g4
   have hx:b[i]? = some b[i]:=Qy hi
   have hbi:=h2.2 _ (Xn hi)
   left
   show ∃s',EQ b a i out=_/\_
   unfold EQ
   rw[QE (by omega),Qz,QP,hx]
   simp only[Qd]
   have hc:=D.cnt b[i].1
   have hle:=h3 b[i].1
   rw[Ef h2.1.nd (Xn hi)]at hle
   rw[QeC ha D,Qd,XD (by omega)]
   obtain⟨r',r1,r2,r3,r4⟩:=QmL (b:=out) (by omega) g2 (m:=b[i].1) (n:=QM a b[i].1-b[i].2) (by omega) (by omega)
   rw[r1,Qd]
   refine⟨_,rfl,Qt hi hb,r2,λk=>?_,by show r'.length<=_;omega⟩
   show QM r' k=_
   rw[r3,QmM h2.1 hi,g3]
   by_cases ek:k=b[i].1
   ·subst ek;rw[if_pos rfl,if_pos rfl]
   ·rw[if_neg ek,if_neg ek]) (λs hI=>by
   obtain⟨x,out⟩:=s
   obtain⟨g1,g2,g3,g4⟩:=hI
   replace g1:x=(b.length:Int):=g1
   subst g1
   rw[HY]at g3
   refine⟨out,?_,g2,g3⟩
   show EQ b a b.length out=_
   unfold EQ
   rw[QK (by omega)];rfl) (0,a) ⟨rfl,D,λk=>by simp[QM,QR],by simp⟩
 rw[hq]
 have:q=r:=rt_ext hp1 h5 λk=>by rw[hp2,h6]
 subst this;rfl
def QmQ {a b:L_ QBg}{sum:Bool}{how:QBg->QBg->O_ (QBg×Int)}{body:Int×L_ QBg->O_ ((Int×L_ QBg)⊕(Int⊕L_ QBg))}(N:Nat)(hN:N<=100000)(ha:N<=a.length)(hb:N<=b.length)(hab:N=a.length\/N=b.length)
  (hh:∀x∈a,∀y∈b,(bif sum then UL x y else CY x y)=how x y) (ht:∀x∈a,∀y∈b,∃z,how x y=some z)
  (hbody:∀(i:Nat) l,body ((i:Int),l)=bif decide ((i:Int)<(N:Int))then(idx a i).bind λx=>(idx b i).bind λy=>(how x y).bind λz=>(idx l i).bind λ_=>bif (z.2 != 0)then some (.inr (.inl z.2))else some (.inl (Qi ((i:Int)+1),l.set i z.1))else some (.inr (.inr l))):
  Qu (λst:Int×L_ QBg=>ER a b sum st.1 st.2) (0,[])=Qu body (0,List.replicate N []):=by
 have mx:(100000:Nat)<=maxLen:=by decide
 obtain⟨r,q,e1,e2,e3⟩:=Zz (b1:=λst:Int×L_ QBg=>ER a b sum st.1 st.2) (b2:=body) N
  (λi s t=>s.1=(i:Int)/\s.2.length=i/\t=((i:Int),s.2++List.replicate (N-i) [])) (λr q=>r=q) (λi s t hi hI=>by
   obtain⟨x,out⟩:=s
   obtain⟨h1,h2,rfl⟩:=hI
   replace h1:x=(i:Int):=h1
   subst h1
   replace h2:out.length=i:=h2
   show(i<N/\∃s' t',ER a b sum i out=_/\body ((i:Int),out++List.replicate (N-i) [])=_/\_)\/∃r q,ER a b sum i out=_/\body ((i:Int),out++List.replicate (N-i) [])=_/\_
   rw[hbody]
   unfold ER IA
   by_cases hlt:i<N
   ·have i1:i<a.length:=by omega
    have i2:i<b.length:=by omega
    obtain⟨z,hz⟩:=ht _ (Xn i1) _ (Xn i2)
    have h:=hh _ (Xn i1) _ (Xn i2)
    rw[hz]at h
    have hrep:List.replicate (N-i) ([]:QBg)=[]::List.replicate (N-(i+1)) []:=by
     rw[show N-i=(N-(i+1))+1 by omega];rfl
    rw[QE (by omega:(i:Int)<(a.length:Int)),QE (by omega:(i:Int)<(b.length:Int)),QE (by omega:(i:Int)<(N:Int)),Tw,Qz,Qz,QP,Qy i1,QP,Qy i2,QP,hrep,Wl (by omega),h2,Nat.sub_self]
    simp only[Qd,hz,List.getElem?_cons_zero]
    have one:(bif sum then(UL a[i] b[i]).bind λD=>bif (D.2 != 0)then some (.inr (.inl D.2))else(chk (decide (i+[D.1].length<=4294967296))).bind λ_=>some (.inl (Qi ((i:Int)+1),out++[D.1]))else(CY a[i] b[i]).bind λx27=>bif (x27.2 != 0)then some (.inr (.inl x27.2))else(chk (decide (i+[x27.1].length<=4294967296))).bind λ_=>some (.inl (Qi ((i:Int)+1),out++[x27.1])):O_ ((Int×L_ QBg)⊕(Int⊕L_ QBg)))=bif (z.2 != 0)then some (.inr (.inl z.2))else(chk (decide (i+[z.1].length<=4294967296))).bind λ_=>some (.inl (Qi ((i:Int)+1),out++[z.1])):=by
     cases sum with
     | true=>simp only[Qz]at h ⊢;rw[h];rfl
     | false=>simp only[Qs]at h ⊢;rw[h];rfl
    rw[one]
    cases (z.2 != 0)with
    | true=>exact .inr ⟨_,_,rfl,rfl,rfl⟩
    | false=>
     left
     rw[Qs,Qs,WJ (by simp;omega)]
     refine⟨hlt,_,_,rfl,rfl,Qt hlt (by omega),by simp;omega,?_⟩
     rw[Qt hlt (by omega),List.set_append_right _ _ (by omega),h2,Nat.sub_self,WY];rfl
   right
   have hf:(decide ((i:Int)<(a.length:Int))&&decide ((i:Int)<(b.length:Int)))=false:=by
    rcases hab with e | e
    ·rw[QK (by omega:¬(i:Int)<(a.length:Int))];rfl
    rw[QK (by omega:¬(i:Int)<(b.length:Int)),Bool.and_false]
   rw[hf,QK (by omega:¬(i:Int)<(N:Int))]
   exact⟨_,_,rfl,rfl,by rw[show N-i=0 by omega];simp⟩) (0,[]) (0,List.replicate N []) ⟨rfl,rfl,rfl⟩
 rw[e1,e2,e3]
def QcH (a b:Nat):min2 (a:Int) (b:Int)=((min a b:Nat):Int):=by
 unfold min2;split<;>omega
def QqM {a b:L_ QBg}(hl:a.length<=100000)(h:∀x∈a,∀y∈b,x.length+y.length<=4294967290):Aj a b true=Kh a b:=by
 unfold Aj Kh
 rw[QcH,So (by simp;omega),Qd,XC]
 rw[QmQ (sum:=true) (how:=Ji) (body:=λst:Int×L_ QBg=>Jf a b st.1 st.2) (min a.length b.length) (by omega) (by omega) (by omega) (by omega) (λx D y hy=>QhU (h x D y hy)) (λx D y hy=>by
  rcases EA x y (by have:=h x D y hy;omega)with⟨_,e⟩|⟨_,_,_,e⟩|⟨_,_,r,e,_⟩<;>exact⟨_,e⟩) (λi l=>by
  show Jf a b i l=_
  unfold Jf
  rw[QcH,XC,TC,XC])]
 cases Qu (λst:Int×L_ QBg=>Jf a b st.1 st.2) (0,List.replicate (min a.length b.length) [])with
 | none=>rfl
 | some q=>cases q<;>rfl
def QpM {a b:L_ QBg}(hl:a.length<=100000)(h:∀x∈a,∀y∈b,x.length+y.length<=4294967290):Aj a b false=Dd a b:=by
 unfold Aj Dd
 rw[QcH,So (by simp;omega),Qd,XC]
 rw[QmQ (sum:=false) (how:=Ju) (body:=λst:Int×L_ QBg=>Kg a b st.1 st.2) (min a.length b.length) (by omega) (by omega) (by omega) (by omega) (λx D y hy=>QpL (h x D y hy)) (λx D y hy=>by
  rcases Hy x y (by have:=h x D y hy;omega)with⟨_,e⟩|⟨_,_,_,e⟩|⟨_,_,_,r,e,_⟩<;>exact⟨_,e⟩) (λi l=>by
  show Kg a b i l=_
  unfold Kg
  rw[QcH,XC,TC,XC])]
 cases Qu (λst:Int×L_ QBg=>Kg a b st.1 st.2) (0,List.replicate (min a.length b.length) [])with
 | none=>rfl
 | some q=>cases q<;>rfl
def QoB {n:Qk}(h:Xd n){m:L_ QBg}(hm:QV (QV λ_=>True) m){o:Qg}(ho:XQ n o)(hc:Yv n m o=some 0):∃need,WW n o=some (need,0):=by
 obtain⟨_,e,he,_,_,_,b,b1,b2,D,b4⟩:=Fl.1 ((QaN h hm ho).1 hc)
 obtain⟨k1,k2,k3,k4,k5,k6⟩:=Ml h b1
 unfold WW
 rw[k6,k1]
 unfold XA at D
 rw[k3]at D
 obtain⟨x,hx,D⟩:=Qv D
 rcases Xy D with⟨c,D⟩|⟨c,_⟩
 ·rw[Option.some.inj D]at c;cases c
 refine⟨x.1,?_⟩
 simp only[Qd,show((0:Int) != 0)=false from rfl,Qs]
 rw[hx]
 have:x.2=0:=by simpa using c
 show some (x.1,x.2)=_
 rw[this]
def QpN {n:Qk}(h:Xd n)(hr:RN n){c:Nat}(hc:c<=900000){m:L_ QBg}(hm:Kc n c m){o:Qg}(ho:XQ n o):PT n m o=El n m o:=by
 unfold PT El
 have hml:=hm.len h (by omega)
 rw[QcE h hr hml ho]
 obtain⟨x,hx,_⟩:=QbJ n m o h hml ho
 rw[hx,Qd,Qd]
 cases hz:(x != 0)with
 | true=>rfl
 | false=>
  have:x=0:=by simpa using hz
  subst this
  obtain⟨need,D⟩:=QoB h hml ho hx
  have hn:=(Eg (QkN n o h ho) D rfl).1
  rw[Qs,Qs,QjC h hr ho,D,Qd,Qd]
  simp only[show((0:Int) != 0)=false from rfl,Qs]
  rw[QpM (by have:=hm.1;have:=h.pl;omega) λx hx y hy=>by
   have:=(hm.2 x hx).2
   have:=(hn.2 y hy).2
   omega]
def QqN {n:Qk}(h:Xd n)(hr:RN n){o:Qg}(D:XQ n o):AZ n o=Ld n o:=QjD h hr D
def Qnl (e:QI)(m:L_ QBg):Qu (λst:Int×L_ QBg=>IB e st.1 st.2) (0,m)=Qu (λst:Int×L_ QBg=>Jc e st.1 st.2) (0,m):=by
 have h:(λst:Int×L_ QBg=>IB e st.1 st.2)=λst=>Jc e st.1 st.2:=by
  funext st
  unfold IB Jc QaA QaB
  cases decide (st.1<(e.Cancel.length:Int))with
  | false=>rfl
  | true=>
   rw[Qz,Qz]
   cases idx e.Cancel st.1 with
   | none=>rfl
   | some k=>
    simp only[Qd]
    cases decide (0<=k)with
    | false=>rfl
    | true=>
     cases decide (k<(st.2.length:Int))with
     | false=>rfl
     | true=>rfl
 rw[h]
def QoC {e:QI}{m q:L_ QBg}{c:Nat}(hc:e.Cancel.length<=16)(hm:∀b∈m,b.length<=c)(h:Qu (λst:Int×L_ QBg=>Jc e st.1 st.2) (0,m)=some q):q.length=m.length/\∀b∈q,b.length<=c:=by
 have key:Qj (Qu (λst:Int×L_ QBg=>Jc e st.1 st.2) (0,m)) λq=>q.length=m.length/\∀b∈q,b.length<=c:=by
  refine Qj.up e.Cancel.length (λst=>st.1) (λst=>st.2.length=m.length/\∀b∈st.2,b.length<=c) rfl ⟨rfl,hm⟩ (λi st hi hn hJ=>?_)
  obtain⟨x,l⟩:=st
  replace hi:x=(i:Int):=hi
  subst hi
  obtain⟨j1,j2⟩:l.length=m.length/\∀b∈l,b.length<=c:=hJ
  show Qj (Jc e i l) _
  unfold Jc DD
  refine T1 (λD=>?_) λ_=>T2 (Qq ⟨j1,j2⟩)
  simp only[QB]at D
  have hw:Qi ((i:Int)+1)=((i+1:Nat):Int):=Qt (show i<e.Cancel.length by omega) (by unfold maxLen;omega)
  refine T0 (T4 (by omega) D) λk _=>?_
  refine T1 (λhk=>?_) λ_=>T2 (QJ ⟨by omega,hw,j1,j2⟩)
  simp only[QQ,QB]at hk
  refine T0 (T4 hk.1 hk.2) λ_ _=>T2 (QJ ⟨by omega,hw,by simpa using j1,λb hb=>?_⟩)
  rcases RU hb with rfl | hb
  ·simp
  exact j2 b hb
 exact Eg key h
def QpO {n:Qk}(h:Xd n)(hr:RN n){c:Nat}(hc:c<=900000){m:L_ QBg}(hm:Kc n c m){o:Qg}(ho:XQ n o):PV n m o=DT n m o:=by
 unfold PV DT
 rw[QqN h hr ho]
 obtain⟨x,hx,hx2⟩:=QkO n o h ho
 rw[hx,Qd,Qd]
 cases hz:(x.2 != 0)with
 | true=>rfl
 | false=>
  obtain⟨⟨g1,_⟩,g2,g3⟩:=hx2 (by simpa using hz)
  have hpl:=h.pl
  have hml:=hm.1
  have hmem:(n.Tasks[o.Task.toNat]'(by omega))∈n.Tasks:=Xn _
  rw[Qs,Qs,WJ (by simp;omega),Qd,Lp m (by omega) λb D=>by have:=(hm.2 b D).2;omega,Qd,Ng g2 g3,Qd,Qd,Nm,Qnl]
  cases hq:Qu (λst:Int×L_ QBg=>Jc (n.Tasks[o.Task.toNat]'(by omega)) st.1 st.2) (0,m)with
  | none=>rfl
  | some q=>
   obtain⟨q1,q2⟩:=QoC (h.tk _ hmem).2.2.2 (λb D=>(hm.2 b D).2) hq
   rw[Qd,Qd]
   unfold QaC GT
   rw[QqM (by omega) λa ha b D=>by
    have:=q2 a ha
    have:=(g1.2 b D).2
    omega]
def QnE {n:Qk}(h:Xd n)(hr:RN n){c:Nat}(hc:c<=800000){m:L_ QBg}(hm:Kc n c m){o:Qg}(D:XQ n o):PW n m o=Yh n m o:=by
 unfold PW Yh
 rw[QpN h hr (by omega) hm D]
 obtain⟨x,hx,hx2⟩:=QmE n m o c h hm (by omega) D
 rw[hx,Qd,Qd]
 cases hz:(x.2 != 0)with
 | true=>rfl
 | false=>rw[Qs,Qs,QpO h hr (c:=c+20) (by omega) (hx2 (by simpa using hz)) D]
def Ax : LI_->Nat
 | []=>1
 | s::r=>(1+(s-1).toNat)*Ax r
def ZB {α β:Type}{f:α->L_ β}{c:Nat}:∀{l:L_ α},(∀x∈l,(f x).length<=c)->(l.flatMap f).length<=l.length*c:=by
 intro l
 induction l with
 | nil=>intro _;simp
 | cons x l ih=>
  intro h
  have h1:=ih λy D=>h y (Yo _ D)
  have h2:=h x XY
  rw[EC,JI,GF,Nat.succ_mul]
  omega
def QrB (x:Int)(k:Nat):(upL x k).length=k:=by
 induction k generalizing x with
 | zero=>rfl
 | succ k h=>simp[upL,h]
def QpP (l:LI_):(binds l).length<=Ax l:=by
 induction l with
 | nil=>exact YY _
 | cons s r h=>
  rw[binds,Ax]
  have:=ZB (f:=λx=>(binds r).map (x::·)) (c:=Ax r) (l:=0::upL 1 (s-1).toNat) λx _=>by simpa using h
  rw[GF,QrB]at this
  rwa[Nat.add_comm 1]
def QpQ (l:LI_)(s:Int):Ax (l++[s])=Ax l*(1+(s-1).toNat):=by
 induction l with
 | nil=>simp[Ax]
 | cons x l h=>simp only[QbP,Ax,h,Nat.mul_assoc]
def QpR (l:LI_):0<Ax l:=by
 induction l with
 | nil=>decide
 | cons s r h=>exact Nat.mul_pos (by omega) h
def QpS (n:Qk)(m:L_ QBg)(h:Int){D outs:L_ LI_}(p:LI_)(hi:D.length<=16)(ho:outs.length<=16):(WX n m h D outs p).length<=256:=by
 unfold WX
 cases YV n m h p with
 | none=>simp
 | some x=>
  obtain⟨c,b⟩:=x
  simp only
  split
  ·refine Yb (ZB (c:=16) λe _=>?_) (JP 16 hi)
   split
   ·rw[Lv];exact Yb (QeK _ _) ho
   simp
  simp
def Bd (n:Qk):Prop:=∀t∈n.Tasks,(0:Int)∈XO n t\/Ax (XO n t)<=1024
def QeD {n:Qk}(m:L_ QBg)(D:Int)(h:Xd n)(hb:Bd n):(Yd n m D).length<=262144:=by
 by_cases e0:Yd n m D=[]
 ·rw[e0];simp
 obtain⟨o,ho⟩:=List.exists_mem_of_ne_nil _ e0
 obtain⟨_,e,he,_,_,_,b,hbd,_⟩:=Fl.1 ho
 obtain⟨k1,k2,_,_,k3,_⟩:=Ml h hbd
 rw[he]at k1;cases k1
 unfold Yd
 rw[he]
 simp only
 refine Yb (ZB (c:=256) λp _=>QpS n m D p (Ni _ _).2.1 (Ni _ _).2.1) ?_
 have h1:=QpP (XO n b.task)
 rcases hb _ k2 with h2 | h2
 ·have:=k3.2 0 h2;omega
 omega
def QeY {n:Qk}(m:L_ QBg)(h:Xd n)(D:Bd n):(YW n m).length<=4194304:=by
 unfold YW
 refine Yb (ZB (c:=262144) λk _=>QeD m _ h D) ?_
 have:=h.tl
 rw[ZQ];omega
def QoD (n:Qk)(k:Int)(t:QI)(b:Int)(h:Xd n)(ht:idx n.Tasks k=some t)(htm:t∈n.Tasks)(hb:De n k=some b)(hle:b<=1024):(0:Int)∈XO n t\/Ax (XO n t)<=1024:=by
 have hv:=(h.tk t htm).1
 have hsz:(XO n t).length=t.Vars.length:=by simp[XO]
 have ha:Jx n.Tasks k=some true:=by
  unfold Jx
  unfold idx at ht
  split at ht
  ·have:=(Xj.1 ht).1
   rw[QE (by omega),QE (by omega)];rfl
  cases ht
 have key:Qj (De n k) λb=>b<=1024->(0:Int)∈XO n t\/Ax (XO n t)<=1024:=by
  unfold De
  rw[ha,Qd]
  simp only[GE,Qs]
  rw[ht,Qd]
  refine T0 (Qj.up t.Vars.length (λst=>st.2) (λst=>st.1=min ((Ax ((XO n t).take st.2.toNat):Nat):Int) 1025) (Q:=λq:Unit⊕Int=>(q=.inl ()->(0:Int)∈XO n t)/\∀o,q=.inr o->o=min ((Ax (XO n t):Nat):Int) 1025) rfl (by show(1:Int)=min ((1:Nat):Int) 1025;omega) (λi st hi hn hJ=>?_)) (λq hq=>?_)
  ·obtain⟨out,x⟩:=st
   replace hi:x=(i:Int):=hi
   subst hi
   replace hJ:out=min ((Ax ((XO n t).take (i:Int).toNat):Nat):Int) 1025:=hJ
   rw[XC]at hJ
   show Qj (Ad t n out i) _
   unfold Ad
   refine T1 (λhc=>?_) (λhc=>T2 (Qq ⟨λe=>(by cases e),λo e=>?_⟩))
   ·simp only[QB]at hc
    have i1:i<t.Vars.length:=by omega
    rw[QP,Qy i1,Qd]
    refine T0 (WK _ _ h.k.1).self λz hz=>?_
    obtain⟨hze,hz⟩:=hz
    have hs:(XO n t)[i]? = some z:=by
     unfold XO
     rw[Yf,Qy i1,Ww,hze];rfl
    refine T1 (λD=>T2 (Qq ⟨λ_=>?_,λo e=>by cases e⟩)) λD=>?_
    ·simp only[beq_iff_eq]at D
     subst D
     exact XH hs
    simp only[beq_eq_false_iff_ne]at D
    have hw:Qi ((i:Int)+1)=((i+1:Nat):Int):=Qt i1 (by unfold maxLen;omega:t.Vars.length<=maxLen)
    refine T2 (QJ ⟨i1,hw,?_⟩)
    show min2 (Qi (out*z)) 1025=min ((Ax ((XO n t).take (Qi ((i:Int)+1)).toNat):Nat):Int) 1025
    rw[hw,XC,ED,hs]
    show _=min ((Ax ((XO n t).take i++[z]):Nat):Int) 1025
    rw[QpQ]
    have hp:=QpR ((XO n t).take i)
    generalize Ax ((XO n t).take i)=P at hJ hp ⊢
    obtain⟨Z,rfl⟩:∃Z:Nat,z=(Z:Int):=⟨z.toNat,by omega⟩
    rw[show 1+((Z:Int)-1).toNat=Z by omega]
    have hZ:0<Z:=by omega
    have h1:(P:Int)*(Z:Int)=((P*Z:Nat):Int):=by simp
    by_cases c:P<=1025
    ·have:out=(P:Int):=by rw[hJ];omega
     rw[this,h1]
     have h2:P*Z<=1025*1024:=Nat.mul_le_mul c (by omega)
     rw[XD (by omega)]
     unfold min2;split<;>omega
    have:out=1025:=by rw[hJ];omega
    have h2:P<=P*Z:=Nat.le_mul_of_pos_right P hZ
    rw[this,XD (by omega)]
    unfold min2;split<;>omega
   cases e
   simp only[QX]at hc
   rw[hJ,JR (by omega)]
  rcases q with q | q
  ·exact T2 λ_=>.inl (hq.1 rfl)
  refine T2 λhl=>.inr ?_
  have:=hq.2 q rfl
  omega
 exact Eg key hb hle
def QoE (n1:Qk)(k2:Int)(h:Ku n1 k2=some 0):∃b,De n1 k2=some b/\b<=1024:=by
 unfold Ku at h
 obtain⟨x5,_,h⟩:=Qv h
 rcases Xy h with⟨_,h⟩|⟨_,h⟩
 ·cases h
 obtain⟨x7,_,h⟩:=Qv h
 rcases Xy h with⟨c,h⟩|⟨_,h⟩
 ·simp only[Option.some.injEq]at h;rw[h]at c;cases c
 obtain⟨e9,he9,h⟩:=Qv h
 obtain⟨e10,he10,h⟩:=Qv h
 obtain⟨_,_,h⟩:=Qv h
 obtain⟨_,_,h⟩:=Qv h
 obtain⟨_,_,h⟩:=Qv h
 obtain⟨_,_,h⟩:=Qv h
 obtain⟨x15,D,h⟩:=Qv h
 have bad:∀a b:Int,0<a->x15=(a,b)->False:=λa b ha e=>by
  subst e
  simp only at h
  rcases Xy h with⟨c,h⟩|⟨_,h⟩
  ·simp only[beq_iff_eq]at c;omega
  simp only[Option.some.injEq]at h;omega
 unfold GU at D
 obtain⟨x20,_,D⟩:=Qv D
 rcases Xy D with⟨_,D⟩|⟨_,D⟩
 ·exact(bad _ _ (by decide) (Option.some.inj D).symm).elim
 obtain⟨x22,_,D⟩:=Qv D
 rcases Xy D with⟨_,D⟩|⟨_,D⟩
 ·exact(bad _ _ (by decide) (Option.some.inj D).symm).elim
 obtain⟨x24,h24,D⟩:=Qv D
 rcases Xy D with⟨_,D⟩|⟨c,D⟩
 ·exact(bad _ _ (by decide) (Option.some.inj D).symm).elim
 obtain⟨x26,h26,D⟩:=Qv D
 rcases Xy D with⟨c2,D⟩|⟨_,D⟩
 ·have e:=(Option.some.inj D).symm
  subst e
  simp only at h
  rcases Xy h with⟨_,h⟩|⟨c3,_⟩
  ·simp only[Option.some.injEq]at h
   unfold Bz at h26
   obtain⟨y,_,h26⟩:=Qv h26
   simp only[Option.some.injEq]at h26
   rw[<-h26]at c2 h
   simp only at h
   subst h
   cases c2
  cases c3
 obtain⟨x28,h28,D⟩:=Qv D
 rcases Xy D with⟨_,D⟩|⟨c4,D⟩
 ·exact(bad _ _ (by decide) (Option.some.inj D).symm).elim
 unfold CP at h28
 obtain⟨b,hb,h28⟩:=Qv h28
 simp only[Option.some.injEq]at h28
 rw[<-h28]at c4
 exact⟨b,hb,by simpa using c4⟩
def Qsi (n1:Qk)(h:Xd n1){p:EG}(D:UK n1=some (0,p)):Bd n1:=by
 unfold UK at D
 obtain⟨x6,_,D⟩:=Qv D
 rcases Xy D with⟨c,D⟩|⟨_,D⟩
 ·simp only[Option.some.injEq,Prod.mk.injEq]at D;rw[D.1]at c;cases c
 obtain⟨x8,_,D⟩:=Qv D
 rcases Xy D with⟨c,D⟩|⟨_,D⟩
 ·simp only[Option.some.injEq,Prod.mk.injEq]at D;rw[D.1]at c;cases c
 obtain⟨x10,_,D⟩:=Qv D
 rcases Xy D with⟨c,D⟩|⟨_,D⟩
 ·simp only[Option.some.injEq,Prod.mk.injEq]at D;rw[D.1]at c;cases c
 obtain⟨x12,h12,D⟩:=Qv D
 rcases Xy D with⟨c,D⟩|⟨c,D⟩
 ·simp only[Option.some.injEq,Prod.mk.injEq]at D;rw[D.1]at c;cases c
 simp only[WP]at c
 obtain⟨r,hr,hr2⟩:=Qgf n1.Tasks n1 h.k h.k.2.2.1
 rw[h12]at hr;cases hr
 intro t ht
 have htm:=ht
 obtain⟨j,hj,rfl⟩:=HX.1 ht
 obtain⟨b,hb,hb2⟩:=QoE n1 j (hr2 c j hj)
 exact QoD n1 j _ b h (by rw[QP,Qy hj]) htm hb hb2
def QrC (n1:Qk)(m:L_ QBg)(h:Xd n1)(D:CQ n1 m=some true):Bd n1:=by
 unfold CQ at D
 obtain⟨x5,_,D⟩:=Qv D
 obtain⟨x6,_,D⟩:=Qv D
 rcases Xy D with⟨_,D⟩|⟨_,D⟩
 ·cases D
 obtain⟨x11,h11,D⟩:=Qv D
 obtain⟨x12,h12,D⟩:=Qv D
 unfold PN at D
 rcases Xy D with⟨_,D⟩|⟨c,_⟩
 ·cases D
 subst c
 unfold PL at h12
 rcases Xy h12 with⟨_,h12⟩|⟨c,_⟩
 ·cases h12
 simp only[WP]at c
 obtain⟨a,b⟩:=x11
 simp only at c
 subst c
 exact Qsi n1 h h11
def Xz (n:Qk)(m:L_ Bag):Prop:=Kc n 1024 m/\II n m
def Xz.len {n:Qk}{m:L_ Bag}(D:Xz n m)(h:Xd n):QV (QV λ_=>True) m:=D.1.len h (by omega)
def QqO {n:Qk}{m:L_ Bag}{c:Nat}(h:Xd n)(hm:Kc n c m)(hl:II n m):Xz n m:=by
 refine⟨⟨hm.1,λb hb=>?_⟩,hl⟩
 have hr:=(hm.2 b hb).1
 refine⟨hr,?_⟩
 obtain⟨j,hj,rfl⟩:=HX.1 hb
 have hj2:j<n.Places.length:=by have:=hm.1;omega
 by_cases c0:(m[j]).length=0
 ·omega
 have D:(m[j]).length-1<(m[j]).length:=by omega
 have h1:=Qnx hr.1 (a:=0) (λp hp=>(hr.2 p hp).1) ((m[j]).length-1) D
 have h2:=Ef hr.1.nd (Xn D)
 have h3:=(hr.2 _ (Xn D)).2.1
 obtain⟨z,hz,hk⟩:=hl j _ _ (Qy hj) (Qy hj2) _ (by rw[h2];omega)
 have:=Eg (WK _ _ h.k.1) hz
 omega
def TX {n:Qk}{m x:L_ Bag}{o:Qg}(h:Xd n)(hg:Xz n m)(ho:XQ n o)(hD:Yh n m o=some (x,0)):Xz n x:=by
 obtain⟨hm,hl⟩:=hg
 have hpl:=h.pl
 have hm1:=hm.1
 have hx:=Eg (QmF n m o 1024 h hm (by omega) ho) hD rfl
 obtain⟨t,hT,hG⟩:=QqH hD
 obtain⟨hCk,need,hN,hL⟩:=Qoq hT
 obtain⟨hnd,hndl⟩:=Eg (QkN n o h ho) hN rfl
 have ht:=Eg (QmE n m o 1024 h hm (by omega) ho) hT rfl
 obtain⟨_,eL⟩:=(Eg (Qnf n m need 1024 20 h hm hnd (by omega)) hL).1 rfl
 have htl:II n t:=λj b p hb hp k hk=>by
  have hj:=(Xj.1 hp).1
  obtain⟨a,ha,ha1,ha2⟩:=QlT hm hj
  obtain⟨u,hu,hu1,hu2⟩:=QlT hnd hj
  obtain⟨p',D,hp2⟩:=eL j a u ha hu
  have D:t[j]? = some p':=D
  rw[hb]at D;cases D
  have q:=Qru (by omega) hp2
  have:=hu1.cnt k
  have:=q.2.2.2.2 k
  exact hl j a p ha hp k (by omega)
 exact QqO h hx (Eg (QqI n t o (1024+20) h ht htl (by omega) ho) hG rfl)
def XR : Nat->Int->LI_
 | 0,_=>[]
 | k+1,x=>IntKind.u8.wrap (Jn .i64 x (Qi (8*(k:Int))))::XR k x
def Ko (k:Nat)(x:Int):(XR k x).length=k:=by
 induction k with
 | zero=>rfl
 | succ k h=>simp[XR,h]
def QkR {α β:Type}{f:α->L_ β}{c:Nat}:∀{l:L_ α},(∀x∈l,(f x).length=c)->(l.flatMap f).length=l.length*c:=by
 intro l
 induction l with
 | nil=>intro _;simp
 | cons x l ih=>
  intro h
  have h1:=ih λy D=>h y (Yo _ D)
  have h2:=h x XY
  rw[EC,JI,GF,Nat.succ_mul]
  omega
def QqP (e:Int)(h:Nat)(D:LI_)(hs:h<=8)(hl:D.length+h<=4294967296):Qu (λst=>UY e st.1 st.2) ((Qi ((h:Int)-1)),D)=some (D++XR h e):=by
 obtain⟨r,h1,h2⟩:=(Qj.up (body:=λst:Int×LI_=>UY e st.1 st.2) h (λst=>(h:Int)-1-st.1) (λst=>-1<=st.1/\st.2.length+(st.1+1).toNat=D.length+h/\st.2++XR (st.1+1).toNat e=D++XR h e) (Q:=λq:LI_=>q=D++XR h e) (s0:=((Qi ((h:Int)-1)),D))
  (by show(h:Int)-1-Qi ((h:Int)-1)=0;rw[XD (by omega)];omega) (by
   show -1<=Qi ((h:Int)-1)/\D.length+(Qi ((h:Int)-1)+1).toNat=_/\D++XR (Qi ((h:Int)-1)+1).toNat e=_
   rw[XD (by omega),show((h:Int)-1+1).toNat=h by omega]
   exact⟨by omega,rfl,rfl⟩) (λi st hi hn hJ=>by
   obtain⟨k,l⟩:=st
   replace hi:(h:Int)-1-k=(i:Int):=hi
   obtain⟨j0,j1,j2⟩:-1<=k/\l.length+(k+1).toNat=D.length+h/\l++XR (k+1).toNat e=D++XR h e:=hJ
   show Qj (UY e k l) _
   unfold UY
   refine T1 (λhc=>?_) (λhc=>T2 (Qq ?_))
   ·simp only[QB]at hc
    have hw:Qi (8*k)=8*k:=XD (by omega)
    have hw2:Qi (k-1)=k-1:=XD (by omega)
    have e1:(k+1).toNat=k.toNat+1:=by omega
    refine T0 (T5 (by rw[hw];simp only[QB];omega)) λ_ _=>?_
    refine T0 (T5 (by simp;omega)) λ_ _=>?_
    refine T2 (QJ ⟨by omega,by show(h:Int)-1-Qi (k-1)=_;rw[hw2];omega,?_⟩)
    show -1<=Qi (k-1)/\(l++[_]).length+(Qi (k-1)+1).toNat=_/\(l++[_])++XR (Qi (k-1)+1).toNat e=_
    rw[hw2,show(k-1+1).toNat=k.toNat by omega]
    rw[e1,XR,show((k.toNat:Nat):Int)=k by omega]at j2
    refine⟨by omega,by simp;omega,?_⟩
    rw[WY];exact j2
   simp only[QX]at hc
   rw[show(k+1).toNat=0 by omega,XR,QbO]at j2
   exact j2))
 rw[h1,h2]
def QmR (D:LI_)(h:Nat)(l:LI_)(hs:h<=8)(hl:D.length+8*l.length<=4294967296):AQ D h l=some (D++l.flatMap (XR h)):=by
 unfold AQ
 obtain⟨r,h1,h2⟩:=(Qj.up (body:=λst:Int×LI_=>Fs l h st.1 st.2) l.length (λst=>st.1) (λst=>st.2=D++(l.take st.1.toNat).flatMap (XR h)) (Q:=λq:LI_=>q=D++l.flatMap (XR h)) (s0:=((0:Int),D)) rfl (by simp) (λi st hi hn hJ=>by
  obtain⟨x,a⟩:=st
  replace hi:x=(i:Int):=hi
  subst hi
  replace hJ:a=D++(l.take (i:Int).toNat).flatMap (XR h):=hJ
  rw[XC]at hJ
  show Qj (Fs l h i a) _
  unfold Fs
  refine T1 (λhc=>?_) (λhc=>T2 (Qq ?_))
  ·simp only[QB]at hc
   have i1:i<l.length:=by omega
   have hlen:a.length=D.length+i*h:=by
    rw[hJ,JI,QkR (c:=h) λx _=>Ko h x,WZ,MP (by omega)]
   have hm:i*h<=i*8:=Nat.mul_le_mul_left i hs
   rw[QP,Qy i1,Qd,QqP _ h a hs (by omega),Qd]
   unfold Vz
   have hw:Qi ((i:Int)+1)=((i+1:Nat):Int):=Qt i1 (by unfold maxLen;omega:l.length<=maxLen)
   refine T2 (QJ ⟨i1,hw,?_⟩)
   show a++XR h l[i]=D++(l.take (Qi ((i:Int)+1)).toNat).flatMap (XR h)
   rw[hw,XC,ED,Qy i1,hJ,QeG,WY]
   simp
  simp only[QX]at hc
  rw[hJ,JR (by omega)]))
 rw[h1,h2];rfl
def QrD (h:Nat)(l:LI_):SN h l=AQ [] h l:=rfl
def Rk (b:Bag):LI_:=XR 2 b.length++b.flatMap λp=>XR 4 p.1++XR 4 p.2
def QeZ (m:L_ Bag):LI_:=XR 1 m.length++m.flatMap Rk
def QhW (b:Bag):(Rk b).length=2+8*b.length:=by
 unfold Rk
 rw[JI,Ko,QkR (c:=8) λx _=>by simp[Ko]]
 omega
def QpT {n:Qk}{m:L_ Bag}(h:Xd n)(hg:Xz n m)(hml:m.length<=64):AR m=some (QeZ m,0):=by
 unfold AR
 rw[QK (by omega),Qs,show(1:Int)=((1:Nat):Int)from rfl,QrD,QmR [] 1 _ (by omega) (by simp),Qd]
 have hb:∀b∈m,Rt b/\b.length<=1024:=hg.1.2
 have hmem:∀b∈m,∀p∈b,p.1<=1024:=λb hb' p hp=>by
  obtain⟨j,hj,rfl⟩:=HX.1 hb'
  have hj2:j<n.Places.length:=by have:=hg.1.1;omega
  have hr:=(hb _ hb').1
  have h2:=Ef hr.1.nd hp
  have h3:=(hr.2 _ hp).2.1
  obtain⟨z,hz,hk⟩:=hg.2 j _ _ (Qy hj) (Qy hj2) p.1 (by rw[h2];omega)
  have:=Eg (WK _ _ h.k.1) hz
  omega
 have lens:∀i,i<=m.length->((m.take i).flatMap Rk).length<=i*8194:=λi hi=>by
  have:=ZB (f:=Rk) (c:=8194) (l:=m.take i) λb hb'=>by
   have:=(hb b (Bf hb')).2
   rw[QhW];omega
  rw[WZ,MP hi]at this
  exact this
 obtain⟨r,h1,h2⟩:=(Qj.up (body:=λst:Int×LI_=>Fu m st.1 st.2) m.length (λst=>st.1) (λst=>st.2=XR 1 m.length++(m.take st.1.toNat).flatMap Rk) (Q:=λq:Unit⊕LI_=>q=.inr (QeZ m)) (s0:=((0:Int),[]++[(m.length:Int)].flatMap (XR 1))) rfl (by simp) (λi st hi hn hJ=>by
  obtain⟨x,a⟩:=st
  replace hi:x=(i:Int):=hi
  subst hi
  replace hJ:a=XR 1 m.length++(m.take (i:Int).toNat).flatMap Rk:=hJ
  rw[XC]at hJ
  show Qj (Fu m i a) _
  unfold Fu
  refine T1 (λhc=>?_) (λhc=>T2 (Qq ?_))
  ·simp only[QB]at hc
   have i1:i<m.length:=by omega
   have hbm:=Xn i1
   have hr:=(hb _ hbm).1
   have hrl:=(hb _ hbm).2
   have hal:a.length<=1+i*8194:=by
    have:=lens i (by omega)
    rw[hJ,JI,Ko];omega
   rw[QP,Qy i1,Qd]
   have g1:NU m[i]=some false:=by
    unfold NU
    rw[Zw _ (by unfold maxLen;omega),Qd,YQ.2 hr]
    simp only[GE,Qs]
    rw[QK (by omega),Qs]
    by_cases c0:(m[i]).length=0
    ·rw[QK (by omega)];rfl
    have D:(m[i]).length-1<(m[i]).length:=by omega
    rw[QE (by omega),Qz,XD (by omega),show((m[i]).length:Int)-1=(((m[i]).length-1:Nat):Int) by omega,QP,Qy D,Qd]
    have:=hmem _ hbm _ (Xn D)
    rw[QK (by omega)]
   rw[g1,Qd]
   unfold VC
   rw[Qs,show(2:Int)=((2:Nat):Int)from rfl,QmR a 2 _ (by omega) (by simp;omega),Qd]
   have inner:Qj (Qu (λst=>Ft m[i] st.1 st.2) ((0:Int),a++[((m[i]).length:Int)].flatMap (XR 2))) λq:LI_=>q=a++Rk m[i]:=by
    refine Qj.up (m[i]).length (λst=>st.1) (λst=>st.2=a++(XR 2 (m[i]).length++((m[i]).take st.1.toNat).flatMap λp=>XR 4 p.1++XR 4 p.2)) rfl (by simp) (λk st hk hn2 hK=>?_)
    obtain⟨x,c⟩:=st
    replace hk:x=(k:Int):=hk
    subst hk
    replace hK:c=a++(XR 2 (m[i]).length++((m[i]).take (k:Int).toNat).flatMap λp=>XR 4 p.1++XR 4 p.2):=hK
    rw[XC]at hK
    show Qj (Ft m[i] k c) _
    unfold Ft
    refine T1 (λhc2=>?_) (λhc2=>T2 (Qq ?_))
    ·simp only[QB]at hc2
     have k1:k<(m[i]).length:=by omega
     have hcl:c.length=a.length+2+k*8:=by
      rw[hK,JI,JI,Ko,QkR (c:=8) λx _=>by simp[Ko],WZ,MP (by omega)];omega
     rw[QP,Qy k1,Qd,show(4:Int)=((4:Nat):Int)from rfl,QmR c 4 _ (by omega) (by simp;omega),Qd]
     have hw:Qi ((k:Int)+1)=((k+1:Nat):Int):=Qt k1 (by unfold maxLen;omega:(m[i]).length<=maxLen)
     refine T2 (QJ ⟨k1,hw,?_⟩)
     show c++[(m[i])[k].1,(m[i])[k].2].flatMap (XR 4)=a++(XR 2 (m[i]).length++((m[i]).take (Qi ((k:Int)+1)).toNat).flatMap λp=>XR 4 p.1++XR 4 p.2)
     rw[hw,XC,ED,Qy k1,hK,QeG]
     simp
    simp only[QX]at hc2
    rw[hK,JR (by omega)];rfl
   obtain⟨q,hq1,rfl⟩:=inner
   rw[hq1,Qd]
   unfold VB
   have hw:Qi ((i:Int)+1)=((i+1:Nat):Int):=Qt i1 (by unfold maxLen;omega:m.length<=maxLen)
   refine T2 (QJ ⟨i1,hw,?_⟩)
   show a++Rk m[i]=XR 1 m.length++(m.take (Qi ((i:Int)+1)).toNat).flatMap Rk
   rw[hw,XC,ED,Qy i1,hJ,QeG,WY]
   simp
  simp only[QX]at hc
  rw[hJ,JR (by omega)];rfl))
 rw[h1,h2];rfl
def Xt (m:L_ Bag):ByteArray:=Ib (if m.length<=64 then QeZ m else [])
def QjF {n:Qk}{m:L_ Bag}(h:Xd n)(D:Xz n m):CH m=some (Xt m):=by
 unfold CH Xt
 by_cases c:m.length<=64
 ·rw[QpT h D c,if_pos c];rfl
 rw[if_neg c]
 unfold AR
 rw[QE (by omega)];rfl
def KQ (n:Qk)(w:Int)(x:L_ Bag)(o:Qg):O_ (L_ Bag):=if o.Task=w then none else match Yh n x o with
 | some (y,c)=>if c=0 then some y else none
 | none=>none
def BP (n:Qk)(w:Int)(x:L_ Bag):L_ (L_ Bag):=(YW n x).filterMap (KQ n w x)
def QpU {n:Qk}{w:Int}{x y:L_ Bag}{o:Qg}(h:KQ n w x o=some y):o.Task≠w/\Yh n x o=some (y,0):=by
 unfold KQ at h
 split at h
 ·cases h
 rename_i c
 refine⟨c,?_⟩
 cases e:Yh n x o with
 | none=>rw[e]at h;cases h
 | some r=>
  obtain⟨a,b⟩:=r
  rw[e]at h
  simp only at h
  split at h
  ·rename_i D;cases h;rw[D]
  cases h
def QpV {n:Qk}{w:Int}{x:L_ Bag}(h:Xd n)(D:Xz n x):∀y∈BP n w x,Xz n y:=λy hy=>by
 obtain⟨o,ho,he⟩:=List.mem_filterMap.1 hy
 exact TX h D (Rj h (D.len h) ho) (QpU he).2
def FM (mm:L_ (ByteArray×Bool))(l:L_ (L_ Bag)):Prop:=∀k,(QR mm k).getD false=l.any λy=>decide (Xt y=k)
def FM.add {mm:L_ (ByteArray×Bool)}{l:L_ (L_ Bag)}(h:FM mm l)(x:L_ Bag):FM (YI OM mm (Xt x) true) (l++[x]):=λk=>by
 rw[UM,List.any_append]
 by_cases c:k=Xt x
 ·subst c
  rw[if_pos rfl]
  simp
 rw[if_neg c,h k]
 have:decide (Xt x=k)=false:=QK λe=>c e.symm
 simp[this]
def Xc (budget:Int):Nat:=(min2 (max2 0 budget) 4096).toNat
def QbK (budget:Int):(Xc budget:Int)=min2 (max2 0 budget) 4096/\Xc budget<=4096:=by
 unfold Xc min2 max2
 split<;>split<;>omega
def BQ (n:Qk)(w budget:Int)(m:L_ Bag):L_ (L_ Bag)×Bool:=if Xc budget=0 then([],false)else GM Xt (BP n w) (Xc budget) (Xc budget+1) [m] 0
def QoF {n:Qk}{m:L_ Bag}(w budget:Int)(h:Xd n)(hb:Bd n)(hg:Xz n m):LL n m w budget=some (BQ n w budget m):=by
 have hm:=QbK budget
 have hpl:=h.pl
 unfold LL BQ
 by_cases c0:Xc budget=0
 ·rw[if_pos c0,show(min2 (max2 0 budget) 4096==0)=true by rw[<-hm.1,c0];rfl];rfl
 rw[if_neg c0,show(min2 (max2 0 budget) 4096==0)=false by simp;omega]
 simp only[Qs]
 have hm1:=hg.1.1
 rw[QjF h hg,Qd,Lp m (by omega) (λb hb=>by have:=(hg.1.2 b hb).2;omega),Qd]
 generalize hR:GM Xt (BP n w) (Xc budget) (Xc budget+1) [m] 0=R
 have main:Qj (Qu (λst=>Cm n w budget st.1 st.2.1 st.2.2) ((0:Int),(YI OM ([]:QSB) (Xt m) true),[m])) λq:L_ (L_ Bag)⊕L_ (L_ Bag)=>(∀l,q=.inl l->R=(l,false))/\∀l,q=.inr l->R=(l,true):=by
  refine Qj.up (Xc budget) (λst=>st.1) (λst=>FM st.2.1 st.2.2/\(∀x∈st.2.2,Xz n x)/\st.2.2.length<=Xc budget/\GM Xt (BP n w) (Xc budget) (Xc budget+1-st.1.toNat) st.2.2 st.1.toNat=R) rfl ⟨?_,?_,?_,hR⟩ (λi st hi hn hJ=>?_)
  ·exact FM.add (mm:=[]) (l:=[]) (λk=>rfl) m
  ·intro x hx;simp at hx;subst hx;exact hg
  ·show 1<=_;omega
  obtain⟨a,mm,l⟩:=st
  replace hi:a=(i:Int):=hi
  subst hi
  obtain⟨j1,j2,j3,j4⟩:FM mm l/\(∀x∈l,Xz n x)/\l.length<=Xc budget/\GM Xt (BP n w) (Xc budget) (Xc budget+1-(i:Int).toNat) l (i:Int).toNat=R:=hJ
  rw[XC,show Xc budget+1-i=(Xc budget-i)+1 by omega,GM]at j4
  show Qj (Cm n w budget i mm l) _
  unfold Cm
  refine T1 (λhc=>?_) (λhc=>T2 (Qq ⟨λl' e=>(by cases e),λl' e=>?_⟩))
  ·simp only[QB]at hc
   have i1:i<l.length:=by omega
   have hx:=Qy i1
   have hgx:=j2 _ (Xn i1)
   rw[QP,hx,Qd]
   rw[hx]at j4
   simp only at j4
   generalize l[i]=x at hx hgx j4 ⊢
   have hal:=QeY x h hb
   rw[QcD n x 9223372036854775807 h (hgx.len h) (by omega) (by omega) (.inr (by omega)),Qd]
   have hxl:=hgx.len h
   have e0:(YW n x).take (9223372036854775807:Int).toNat=YW n x:=JR (by omega)
   rw[e0]
   have hok:=λo=>Rj (o:=o) h hxl
   have inner:Qj (Qu (λst=>Ck (YW n x) w i n budget st.1 st.2.1 st.2.2) ((0:Int),mm,l)) λq:L_ (L_ Bag)⊕(L_ (ByteArray×Bool)×L_ (L_ Bag))=>
     (∀o,q=.inl o->YK Xt (Xc budget) l (BP n w x)=.inl o)/\∀D o,q=.inr (D,o)->YK Xt (Xc budget) l (BP n w x)=.inr o/\FM D o/\(∀x∈o,Xz n x)/\o.length<=Xc budget:=by
    generalize hT:YK Xt (Xc budget) l (BP n w x)=T
    have hT:YK Xt (Xc budget) l ((YW n x).filterMap (KQ n w x))=T:=hT
    generalize YW n x=X at hT hal hok ⊢
    refine Qj.up X.length (λst=>st.1) (λst=>FM st.2.1 st.2.2/\(∀x∈st.2.2,Xz n x)/\st.2.2.length<=Xc budget/\st.2.2[i]? = some x/\YK Xt (Xc budget) st.2.2 ((X.drop st.1.toNat).filterMap (KQ n w x))=T) rfl ⟨j1,j2,j3,hx,hT⟩ (λk st hk hn2 hK=>?_)
    obtain⟨a,mm,l⟩:=st
    replace hk:a=(k:Int):=hk
    subst hk
    obtain⟨k1,k2,k3,k4,k5⟩:FM mm l/\(∀x∈l,Xz n x)/\l.length<=Xc budget/\l[i]? = some x/\YK Xt (Xc budget) l ((X.drop (k:Int).toNat).filterMap (KQ n w x))=T:=hK
    rw[XC]at k5
    show Qj (Ck X w i n budget k mm l) _
    unfold Ck
    refine T1 (λhc2=>?_) (λhc2=>T2 (Qq ⟨λo e=>(by cases e),λD o e=>?_⟩))
    ·simp only[QB]at hc2
     have i2:k<X.length:=by omega
     have hw:Qi ((k:Int)+1)=((k+1:Nat):Int):=Qt i2 (by unfold maxLen;omega:X.length<=maxLen)
     have next:∀D l',FM D l'->(∀x∈l',Xz n x)->l'.length<=Xc budget->l'[i]? = some x->YK Xt (Xc budget) l' ((X.drop (k+1)).filterMap (KQ n w x))=T->
       Qj (Gq k D l') λo=>(∀s',o=.inl s'->k<X.length/\s'.1=((k+1:Nat):Int)/\FM s'.2.1 s'.2.2/\(∀x∈s'.2.2,Xz n x)/\s'.2.2.length<=Xc budget/\s'.2.2[i]? = some x/\YK Xt (Xc budget) s'.2.2 ((X.drop s'.1.toNat).filterMap (KQ n w x))=T)/\
        ∀r:L_ (L_ Bag)⊕(L_ (ByteArray×Bool)×L_ (L_ Bag)),o=.inr r->(∀o,r=.inl o->T=.inl o)/\∀D o,r=.inr (D,o)->T=.inr o/\FM D o/\(∀x∈o,Xz n x)/\o.length<=Xc budget:=λD l' f1 f2 f3 f4 f5=>by
      unfold Gq
      refine T2 (QJ (ix:=λst:Int×L_ (ByteArray×Bool)×L_ (L_ Bag)=>st.1) (J:=λst:Int×L_ (ByteArray×Bool)×L_ (L_ Bag)=>FM st.2.1 st.2.2/\(∀x∈st.2.2,Xz n x)/\st.2.2.length<=Xc budget/\st.2.2[i]? = some x/\YK Xt (Xc budget) st.2.2 ((X.drop st.1.toNat).filterMap (KQ n w x))=T) ⟨i2,hw,f1,f2,f3,f4,?_⟩)
      show YK Xt (Xc budget) l' ((X.drop (Qi ((k:Int)+1)).toNat).filterMap (KQ n w x))=T
      rw[hw,XC];exact f5
     rw[QP,Qy i2,Qd]
     rw[Lt i2,List.filterMap_cons]at k5
     have hox:=hok _ (Xn i2)
     generalize X[k]=o at k5 hox ⊢
     refine T1 (λhc3=>?_) λhc3=>?_
     ·have:KQ n w x o=none:=by unfold KQ;rw[if_pos (by simpa using hc3)]
      rw[this]at k5
      exact next mm l k1 k2 k3 k4 k5
     simp only[beq_eq_false_iff_ne]at hc3
     rw[QP,k4,Qd]
     obtain⟨⟨y,c⟩,hD,_⟩:=QmF n x o 1024 h hgx.1 (by omega) hox
     rw[hD,Qd]
     by_cases cc:c=0
     ·subst cc
      have hgy:=TX h hgx hox hD
      have:KQ n w x o=some y:=by unfold KQ;rw[if_neg hc3,hD];rfl
      rw[this]at k5
      simp only at k5
      rw[YK]at k5
      unfold MB
      simp only[show((0:Int) != 0)=false from rfl,Qs]
      rw[QjF h hgy,Qd,k1 (Xt y),Qd]
      unfold MC
      refine T1 (λhh=>?_) λhh=>?_
      ·rw[if_pos (show QhD Xt l y=true from hh)]at k5
       exact next mm l k1 k2 k3 k4 k5
      rw[if_neg (by rw[show QhD Xt l y=false from hh];decide)]at k5
      refine T1 (λhf=>?_) λhf=>?_
      ·simp only[beq_iff_eq]at hf
       rw[if_pos (by omega)]at k5
       exact T2 (Qq ⟨λo e=>(by cases e;exact k5.symm),λD o e=>by cases e⟩)
      simp only[beq_eq_false_iff_ne]at hf
      rw[if_neg (by omega)]at k5
      simp only
      rw[QjF h hgy,Qd]
      refine T0 (T5 (by simp;omega)) λ_ _=>?_
      refine next _ _ (k1.add y) (λz hz=>?_) (by simp;omega) (by rw[Jz ((Xj.1 k4).1)];exact k4) k5
      rcases YD.1 hz with hz | hz
      ·exact k2 z hz
      simp at hz;subst hz;exact hgy
     have:KQ n w x o=none:=by unfold KQ;rw[if_neg hc3,hD];simp only;rw[if_neg cc]
     rw[this]at k5
     unfold MB
     simp only[show(c != 0)=true by simpa using cc,Qz,Qd]
     unfold MC
     exact next mm l k1 k2 k3 k4 k5
    cases e
    simp only[QX]at hc2
    rw[QbQ (by omega),List.filterMap_nil,YK]at k5
    exact⟨k5.symm,k1,k2,k3⟩
   obtain⟨q,hq1,hq2,hq3⟩:=inner
   rw[hq1,Qd]
   rcases q with q | ⟨D,o⟩
   ·have:=hq2 q rfl
    rw[this]at j4
    show Qj (ME q) _
    unfold ME
    exact T2 (Qq ⟨λl' e=>(by cases e;exact j4.symm),λl' e=>by cases e⟩)
   obtain⟨f1,f2,f3,f4⟩:=hq3 D o rfl
   rw[f1]at j4
   simp only at j4
   show Qj (MF i D o) _
   unfold MF
   have hw:Qi ((i:Int)+1)=((i+1:Nat):Int):=Qt (by omega:i<Xc budget) (by unfold maxLen;omega)
   refine T2 (QJ ⟨by omega,hw,f2,f3,f4,?_⟩)
   show GM Xt (BP n w) (Xc budget) (Xc budget+1-(Qi ((i:Int)+1)).toNat) o (Qi ((i:Int)+1)).toNat=R
   rw[hw,XC,show Xc budget+1-(i+1)=Xc budget-i by omega]
   exact j4
  cases e
  simp only[QX]at hc
  rw[Sa (by omega)]at j4
  exact j4.symm
 obtain⟨q,hq1,hq2,hq3⟩:=main
 rw[hq1,Qd]
 rcases q with q | q
 ·rw[hq2 q rfl];rfl
 rw[hq3 q rfl];rfl
def Mm {l:LI_}{j:Nat}(h:j<l.length):l.toArray[j]! = l[j]:=by
 rw[getElem!_pos l.toArray j (by simpa using h)];simp
def Qlh {l:LI_}{x:Int}(h:x∈DY l):x∈l:=by
 unfold DY Lib.compact Lib.compactUpTo at h
 obtain⟨j,D,rfl⟩:=YL.1 h
 have:=An.1 (Lx.1 D).1
 rw[Mm this];exact Xn this
def Qli {l:LI_}(h:l.Pairwise (·<=·)):(DY l).Pairwise (·<·):=by
 have hp:=Qh0.1 h
 unfold DY Lib.compact Lib.compactUpTo
 rw[TG,List.pairwise_filter,Qh0]
 intro i j hi hj hij _ D
 rw[ZQ]at hi hj
 rw[TB]at D
 rw[TB,TB,Mm hi,Mm hj]
 unfold Lib.keeps at D
 have D:=Xo D
 rcases D with D | D
 ·omega
 have hj1:j-1<l.length:=by omega
 rw[Mm hj,Mm hj1]at D
 have h1:=hp (j-1) j hj1 hj (by omega)
 by_cases c:i=j-1
 ·subst c;omega
 have h2:=hp i (j-1) hi hj1 (by omega)
 omega
def QmS (l:LI_):(DI l).Pairwise (·<=·):=Qf7 l
def Qlj {l:LI_}{x:Int}:x∈DI l↔x∈l:=by
 exact(Qcf l).mem_iff
def Lr (m:L_ Bag)(k:Int):Prop:=0<=k/\k<m.length/\m[k.toNat]? = some []
def QoG (n:Qk)(m:L_ Bag)(task:Int)(h:Xd n):Qj (Wo n m task) λe=>(∀k∈e,Lr m k)/\e.Pairwise (·<·):=by
 unfold Wo
 refine T1 (λ_=>T2 ⟨λk h=>(by cases h),List.Pairwise.nil⟩) λhc=>?_
 simp only[Kw,QX]at hc
 refine T0 (T4 (by omega) (by omega)) λe he=>?_
 have hil:=(h.tk e he).2.1
 refine T0 (Qj.up e.Ins.length (λst=>st.1) (λst=>(st.2.length:Int)<=st.1/\∀k∈st.2,Lr m k) (Q:=λq:LI_=>q.length<=16/\∀k∈q,Lr m k) rfl ⟨by simp,λk h=>by cases h⟩ (λi st hi hn hJ=>?_)) (λq hq=>?_)
 ·obtain⟨x,l⟩:=st
  replace hi:x=(i:Int):=hi
  subst hi
  obtain⟨j1,j2⟩:(l.length:Int)<=(i:Int)/\∀k∈l,Lr m k:=hJ
  show Qj (Uj e m i l) _
  unfold Uj
  refine T1 (λhc2=>?_) (λhc2=>T2 (Qq ⟨by omega,j2⟩))
  simp only[QB]at hc2
  have i1:i<e.Ins.length:=by omega
  have hw:Qi ((i:Int)+1)=((i+1:Nat):Int):=Qt i1 (by unfold maxLen;omega:e.Ins.length<=maxLen)
  rw[QP,Qy i1,Qd]
  refine T0 (P:=λy=>y=true->Lr m (e.Ins[i]).Place) ?_ λy hy=>?_
  ·unfold Mz
   refine T1 (λc1=>?_) λ_=>T2 λh=>by cases h
   refine T1 (λc2=>?_) λ_=>T2 λh=>by cases h
   simp only[QB]at c1 c2
   have D:(e.Ins[i]).Place.toNat<m.length:=by omega
   rw[WN c1,Qy D,Qd]
   refine T2 λhz=>⟨c1,c2,?_⟩
   simp only[beq_iff_eq]at hz
   rw[Qy D,HV.1 (show(m[(e.Ins[i]).Place.toNat]).length=0 by omega)]
  unfold MA Ui
  refine T1 (λc1=>?_) λ_=>?_
  ·refine T0 (T5 (by simp;omega)) λ_ _=>?_
   refine T2 (QJ ⟨i1,hw,by show((l++[_]).length:Int)<=Qi _;rw[hw];simp;omega,λk D=>?_⟩)
   rcases YD.1 D with D | D
   ·exact j2 k D
   simp at D;subst D;exact hy c1
  exact T2 (QJ ⟨i1,hw,by show(l.length:Int)<=Qi _;rw[hw];omega,j2⟩)
 obtain⟨q1,q2⟩:=hq
 show Qj (Uk q) _
 unfold Uk
 rw[QcB _ (by omega),Qd]
 refine T0 (T5 (by simp[Gv])) λ_ _=>?_
 unfold Wd
 rw[WJ (by rw[Gv];omega),Qd,Qd]
 exact T2 ⟨λk D=>q2 k (Qlj.1 (Qlh D)),Qli (QmS q)⟩
def Fd (n:Qk)(m:L_ Bag)(h:Int):LI_:=(Wo n m h).getD []
def QmT (n:Qk)(m:L_ Bag)(D:Int)(h:Xd n):Wo n m D=some (Fd n m D)/\(∀k∈Fd n m D,Lr m k)/\(Fd n m D).Pairwise (·<·):=by
 obtain⟨e,h1,h2⟩:=QoG n m D h
 unfold Fd
 rw[h1];exact⟨rfl,h2⟩
def AG (e:LI_)(x:L_ Bag):Bool:=e.any λk=>decide (0<(((x[k.toNat]?).getD []).length:Int))
def Qsj (e:LI_)(x:L_ Bag)(he:e.length<=maxLen)(hk:∀k∈e,0<=k/\k<x.length):Kj e x=some (AG e x):=by
 unfold Kj GD
 obtain⟨q,h1,h2⟩:=(Qj.up (body:=λst=>Ki e x st) e.length (λst=>st) (λst=>AG (e.take st.toNat) x=false) (Q:=λq:Int⊕Unit=>(∀j,q=.inl j->0<=j/\AG e x=true)/\(q=.inr ()->AG e x=false)) (s0:=(0:Int)) rfl rfl (λi st hi hn hJ=>by
  replace hi:st=(i:Int):=hi
  subst hi
  replace hJ:AG (e.take (i:Int).toNat) x=false:=hJ
  rw[XC]at hJ
  show Qj (Ki e x i) _
  unfold Ki Ok
  refine T1 (λhc=>?_) (λhc=>T2 (Qq ⟨λj e=>(by cases e),λ_=>?_⟩))
  ·simp only[QB]at hc
   have i1:i<e.length:=by omega
   have h:=Xn i1
   obtain⟨k1,k2⟩:=hk _ h
   have hkk:(e[i]).toNat<x.length:=by omega
   rw[QP,Qy i1,Qd,WN k1,Qy hkk]
   simp only[Qd]
   have D:decide (0<(((x[(e[i]).toNat]?).getD []).length:Int))=decide (0<((x[(e[i]).toNat]).length:Int)):=by rw[Qy hkk];rfl
   refine T1 (λhc2=>T2 (Qq ⟨λj e'=>(by cases e';exact⟨by omega,EB.2 ⟨_,h,by rw[D];exact hc2⟩⟩),λe=>by cases e⟩)) λhc2=>?_
   have hw:Qi ((i:Int)+1)=((i+1:Nat):Int):=Qt i1 he
   refine T2 (QJ ⟨i1,hw,?_⟩)
   show AG (e.take (Qi ((i:Int)+1)).toNat) x=false
   rw[hw,XC,ED,Qy i1]
   unfold AG at hJ ⊢
   rw[List.any_append,hJ]
   simp only[Option.toList_some,List.any_cons,List.any_nil,ZP,Tz]
   rw[D];exact hc2
  simp only[QX]at hc
  rwa[JR (by omega)]at hJ))
 rw[h1]
 rcases q with q | q
 ·have:=h2.1 q rfl
  rw[this.2]
  simp only[Qd,Sum.elim_inl]
  unfold Ac
  rw[Qd,QE this.1]
 rw[h2.2 rfl];rfl
def QjG {n:Qk}{m:L_ Bag}(w budget:Int)(h:Xd n)(hg:Xz n m):(∀x∈(BQ n w budget m).1,Xz n x)/\(BQ n w budget m).1.length<=Xc budget/\NJ Xt (BQ n w budget m).1/\(0<Xc budget->∃r,(BQ n w budget m).1=m::r):=by
 unfold BQ
 by_cases c0:Xc budget=0
 ·rw[if_pos c0]
  exact⟨λx h=>(by cases h),by simp,List.Pairwise.nil,λh=>by omega⟩
 rw[if_neg c0]
 obtain⟨⟨r,hr⟩,h2,h3,h4⟩:=Qpr (key:=Xt) (succ:=BP n w) (P:=Xz n) (λx D=>QpV h D) (most:=Xc budget) (Xc budget+1) (out:=[m]) (a:=0) (by simp;omega) (Qh1 _ _) λx D=>by simp at D;subst D;exact hg
 exact⟨h4,h2,h3,λ_=>⟨r,hr⟩⟩
def QjH (n:Qk)(m:L_ Bag)(h budget:Int):Int:=if (BQ n h budget m).1.any (AG (Fd n m h))then 0 else if (BQ n h budget m).2 then 1 else 2
def QqQ {n:Qk}{m:L_ Bag}(D budget:Int)(h:Xd n)(hb:Bd n)(hg:Xz n m):LN n m D budget=some (QjH n m D budget):=by
 have hpl:=h.pl
 obtain⟨e1,e2,e3⟩:=QmT n m D h
 obtain⟨r1,r2,_,_⟩:=QjG D budget h hg
 have hmost:=(QbK budget).2
 have hm1:=hg.1.1
 unfold LN QjH
 rw[e1,Qd,QoF D budget h hb hg,Qd]
 have hel:(Fd n m D).length<=maxLen:=by
  unfold Wo at e1
  have:∀(l:LI_) (a b:Int),l.Pairwise (·<·)->(∀k∈l,a<=k/\k<b)->(l.length:Int)<=max 0 (b-a):=by
   intro l
   induction l with
   | nil=>intro a b _ _;simp;omega
   | cons x l ih=>
    intro a b hp hk
    obtain⟨p1,p2⟩:=TF.1 hp
    have h1:=hk x XY
    have:=ih (x+1) b p2 λk hk2=>⟨by have:=p1 k hk2;omega,(hk k (Yo _ hk2)).2⟩
    simp only[GF];omega
  have:=this _ 0 (m.length:Int) e3 λk hk=>⟨(e2 k hk).1,(e2 k hk).2.1⟩
  unfold maxLen;omega
 have hbk:∀x∈(BQ n D budget m).1,∀k∈Fd n m D,0<=k/\k<x.length:=λx hx k hk=>by
  have h1:=e2 k hk
  have h2:=(r1 x hx).1.1
  exact⟨h1.1,by have:=h1.2.1;omega⟩
 generalize BQ n D budget m=R at r1 r2 hbk ⊢
 generalize Fd n m D=E at hel hbk ⊢
 obtain⟨q,h1,h2⟩:=(Qj.up (body:=λst:LI_×Int=>Cn R st.1 st.2) R.1.length (λst=>st.2) (λst=>st.1=E/\(R.1.take st.2.toNat).any (AG E)=false) (Q:=λq:Unit⊕Unit=>(q=.inl ()->R.1.any (AG E)=true)/\(q=.inr ()->R.1.any (AG E)=false)) (s0:=(E,(0:Int))) rfl ⟨rfl,rfl⟩ (λi st hi hn hJ=>by
  obtain⟨a,x⟩:=st
  replace hi:x=(i:Int):=hi
  subst hi
  obtain⟨j1,j2⟩:a=E/\(R.1.take (i:Int).toNat).any (AG E)=false:=hJ
  subst j1
  rw[XC]at j2
  show Qj (Cn R a i) _
  unfold Cn
  refine T1 (λhc=>?_) (λhc=>T2 (Qq ⟨λe=>(by cases e),λ_=>?_⟩))
  ·simp only[QB]at hc
   have i1:i<R.1.length:=by omega
   have hmem:=Xn i1
   rw[QP,Qy i1,Qd,Qsj a _ hel (hbk _ hmem),Qd]
   refine T1 (λhc2=>T2 (Qq ⟨λ_=>EB.2 ⟨_,hmem,hc2⟩,λe=>by cases e⟩)) λhc2=>?_
   have hw:Qi ((i:Int)+1)=((i+1:Nat):Int):=Qt i1 (by unfold maxLen;omega:R.1.length<=maxLen)
   refine T2 (QJ ⟨i1,hw,rfl,?_⟩)
   show(R.1.take (Qi ((i:Int)+1)).toNat).any (AG a)=false
   rw[hw,XC,ED,Qy i1,List.any_append,j2]
   simpa using hc2
  simp only[QX]at hc
  rwa[JR (by omega)]at j2))
 rw[h1,Qd]
 rcases q with q | q
 ·rw[h2.1 rfl];rfl
 rw[h2.2 rfl]
 show MG R=_
 unfold MG
 cases R.2<;>rfl
def ZC (n:Qk)(m:L_ Bag)(o:Qg)(budget:Int):Int:=if Yv n m o=some 0 then(match idx n.Tasks o.Task with
 | some e=>if e.Join=3 then QjH n m o.Task budget else 1
 | none=>0)else 0
def QjI {n:Qk}{m:L_ Bag}{o:Qg}(h:Xd n)(hm:QV (QV λ_=>True) m)(ho:XQ n o)(hc:Yv n m o=some 0):∃e,idx n.Tasks o.Task=some e/\e∈n.Tasks:=by
 obtain⟨_,e,D,_,_,_,b,hb,_⟩:=Fl.1 ((QaN h hm ho).1 hc)
 obtain⟨k1,k2,_⟩:=Ml h hb
 rw[D]at k1;cases k1
 exact⟨_,D,k2⟩
def QmU {n:Qk}{m:L_ Bag}(o:Qg)(budget:Int)(h:Xd n)(hb:Bd n)(hg:Xz n m)(ho:XQ n o):LO n m o budget=some (ZC n m o budget):=by
 unfold LO ZC
 obtain⟨c,hc,_⟩:=QbJ n m o h (hg.len h) ho
 rw[hc,Qd]
 by_cases c0:c=0
 ·subst c0
  obtain⟨e,he,_⟩:=QjI h (hg.len h) ho hc
  rw[if_pos rfl,he]
  simp only[show((0:Int) != 0)=false from rfl,Qs,Qd]
  by_cases D:e.Join=3
  ·rw[if_pos D,show(e.Join != 3)=false by simpa using D,Qs,QqQ o.Task budget h hb hg];rfl
  rw[if_neg D,show(e.Join != 3)=true by simpa using D];rfl
 rw[if_neg (λe=>c0 (Option.some.inj e)),show(c != 0)=true by simpa using c0];rfl
def QqR (n:Qk)(m:L_ Bag)(budget:Int)(hn:Xp n)(hm:QV (QV λ_=>True) m):Qj (PO n m budget) λr=>r=true->Xd n/\Bd n/\Xz n m/\budget<=12:=by
 unfold PO
 refine T0 (Qr8 n m hn hm).self λf D=>?_
 obtain⟨hfe,D⟩:=D
 refine T0 (P:=λr=>r=true->Xd n/\Bd n/\Xz n m/\budget<=12) ?_ λr hr=>?_
 ·unfold Qan
  refine T1 (λc1=>?_) λ_=>T2 λh=>by cases h
  refine T1 (λc2=>?_) λ_=>T2 λh=>by cases h
  refine T1 (λc3=>?_) λ_=>T2 λh=>by cases h
  obtain⟨h,g1,g2⟩:=D c1
  subst c1
  rw[SX h g1 (by omega),Qd]
  exact T2 λ_=>⟨h,QrC n m h hfe,⟨g1,g2⟩,by simpa using c2⟩
 unfold Qao
 exact T2 hr
def Qrb (x:Int):IntKind.u8.wrap x=x % 256:=rfl
def TY (k:Nat)(x:Int)(h:k<8):IntKind.u8.wrap (Jn .i64 x (Qi (8*(k:Int))))=(x / (2 ^ (8*k):Nat)) % 256:=by
 rw[Qrb,XD (by omega)]
 unfold Jn
 rw[show(8*(k:Int)).toNat=8*k by omega,show min (8*k) (IntKind.bits .i64)=8*k from MP (by show 8*k<=64;omega),Int.fdiv_eq_ediv_of_nonneg _ (Int.pow_nonneg (by omega))]
 simp
def QmV (x:Int):XR 2 x=[x / 256 % 256,x % 256]:=by
 simp only[XR,TY 0 x (by omega),TY 1 x (by omega)];simp
def QmW (x:Int):XR 4 x=[x / 16777216 % 256,x / 65536 % 256,x / 256 % 256,x % 256]:=by
 simp only[XR,TY 0 x (by omega),TY 1 x (by omega),TY 2 x (by omega),TY 3 x (by omega)];simp
def QsX {x y:Int}(D:0<=x/\x<65536)(hy:0<=y/\y<65536)(h:XR 2 x=XR 2 y):x=y:=by
 rw[QmV,QmV]at h
 simp only[List.cons.injEq,and_true]at h
 omega
def Qrc {x y:Int}(D:0<=x/\x<4294967296)(hy:0<=y/\y<4294967296)(h:XR 4 x=XR 4 y):x=y:=by
 rw[QmW,QmW]at h
 simp only[List.cons.injEq,and_true]at h
 omega
def QcI {k:Nat}{x:Int}(hk:k<=8):∀b∈XR k x,0<=b/\b<256:=by
 induction k with
 | zero=>intro b h;cases h
 | succ k D=>
  intro b h
  rcases Yw.1 h with rfl | h
  ·rw[Qrb];omega
  exact D (by omega) b h
def QoH (p:Int×Int):LI_:=XR 4 p.1++XR 4 p.2
def QmX (p:Int×Int):(QoH p).length=8:=by simp[QoH,Ko]
def InP (p:Int×Int):Prop:=(0<=p.1/\p.1<4294967296)/\0<=p.2/\p.2<4294967296
def QqS : ∀(a b:Bag),a.length=b.length->(∀p∈a,InP p)->(∀p∈b,InP p)->a.flatMap QoH=b.flatMap QoH->a=b:=by
 intro a
 induction a with
 | nil=>intro b h _ _ _;exact(HV.1 (by simpa using h.symm)).symm
 | cons p a ih=>
  intro b h ha hb e
  cases b with
  | nil=>simp at h
  | cons q b=>
   rw[EC,EC]at e
   obtain⟨e1,e2⟩:=List.append_inj e (by rw[QmX,QmX])
   obtain⟨e3,e4⟩:=List.append_inj e1 (by rw[Ko,Ko])
   have hp:=ha p XY
   have hq:=hb q XY
   have f1:=Qrc hp.1 hq.1 e3
   have f2:=Qrc hp.2 hq.2 e4
   rw[Prod.ext f1 f2,ih b (by simpa using h) (λr D=>ha r (Yo _ D)) (λr D=>hb r (Yo _ D)) e2]
def InB (b:Bag):Prop:=b.length<65536/\∀p∈b,InP p
def QqT : ∀(a b:L_ Bag),a.length=b.length->(∀x∈a,InB x)->(∀x∈b,InB x)->a.flatMap Rk=b.flatMap Rk->a=b:=by
 intro a
 induction a with
 | nil=>intro b h _ _ _;exact(HV.1 (by simpa using h.symm)).symm
 | cons x a ih=>
  intro b h ha hb e
  cases b with
  | nil=>simp at h
  | cons y b=>
   have hx:=ha x XY
   have hy:=hb y XY
   rw[EC,EC]at e
   have e':=e
   unfold Rk at e'
   rw[WY,WY]at e'
   have e1:=(List.append_inj e' (by rw[Ko,Ko])).1
   have D:=QsX (x:=(x.length:Int)) (y:=(y.length:Int)) ⟨by omega,by have:=hx.1;omega⟩ ⟨by omega,by have:=hy.1;omega⟩ e1
   have D:x.length=y.length:=by omega
   obtain⟨f1,f2⟩:=List.append_inj e (by rw[QhW,QhW,D])
   have f3:=(List.append_inj f1 (by rw[Ko,Ko])).2
   rw[QqS x y D hx.2 hy.2 f3,ih b (by simpa using h) (λr hr=>ha r (Yo _ hr)) (λr hr=>hb r (Yo _ hr)) f2]
def QjJ (l:LI_):(Ib l).data.toList=l.map λx=>UInt8.ofNat x.toNat:=by
 unfold Ib
 have:∀(l:LI_) (r:ByteArray),(l.foldl (λr n=>r.push (UInt8.ofNat n.toNat)) r).data.toList=r.data.toList++l.map λx=>UInt8.ofNat x.toNat:=by
  intro l
  induction l with
  | nil=>intro r;simp
  | cons x l h=>intro r;rw[List.foldl_cons,h];simp[ByteArray.push]
 rw[this];rfl
def QpW {a b:LI_}(ha:∀x∈a,0<=x/\x<256)(hb:∀x∈b,0<=x/\x<256)(h:Ib a=Ib b):a=b:=by
 have e:(a.map λx=>UInt8.ofNat x.toNat)=b.map λx=>UInt8.ofNat x.toNat:=by rw[<-QjJ,<-QjJ,h]
 clear h
 induction a generalizing b with
 | nil=>cases b with
  | nil=>rfl
  | cons y b=>simp at e
 | cons x a ih=>cases b with
  | nil=>simp at e
  | cons y b=>
   simp only[Ul,List.cons.injEq]at e
   have h1:=ha x XY
   have h2:=hb y XY
   have e1:=congrArg UInt8.toNat e.1
   rw[UInt8.toNat_ofNat',UInt8.toNat_ofNat']at e1
   have:x=y:=by omega
   rw[this,ih (λz D=>ha z (Yo _ D)) (λz D=>hb z (Yo _ D)) e.2]
def QmY (m:L_ Bag):∀x∈QeZ m,0<=x/\x<256:=by
 intro x h
 unfold QeZ at h
 rcases YD.1 h with h | h
 ·exact QcI (by omega) x h
 obtain⟨b,_,h⟩:=List.mem_flatMap.1 h
 unfold Rk at h
 rcases YD.1 h with h | h
 ·exact QcI (by omega) x h
 obtain⟨p,_,h⟩:=List.mem_flatMap.1 h
 rcases YD.1 h with h | h
 ·exact QcI (by omega) x h
 exact QcI (by omega) x h
def QnF {n:Qk}{m:L_ Bag}(h:Xd n)(D:Xz n m):∀b∈m,InB b:=λb hb=>by
 obtain⟨hr,hl⟩:=D.1.2 b hb
 refine⟨by omega,λp hp=>?_⟩
 have h1:=hr.2 p hp
 obtain⟨j,hj,rfl⟩:=HX.1 hb
 have hj2:j<n.Places.length:=by have:=D.1.1;omega
 have h2:=Ef hr.1.nd hp
 obtain⟨z,hz,hk⟩:=D.2 j _ _ (Qy hj) (Qy hj2) p.1 (by rw[h2];omega)
 have:=Eg (WK _ _ h.k.1) hz
 exact⟨⟨h1.1,by omega⟩,by omega,by omega⟩
def QkS {n:Qk}{a b:L_ Bag}(h:Xd n)(hp:n.Places.length<=64)(D:Xz n a)(hb:Xz n b)(e:Xt a=Xt b):a=b:=by
 have ha1:=D.1.1
 have hb1:=hb.1.1
 unfold Xt at e
 rw[if_pos (by omega),if_pos (by omega)]at e
 have e:=QpW (QmY a) (QmY b) e
 unfold QeZ at e
 exact QqT a b (by omega) (QnF h D) (QnF h hb) (List.append_inj e (by rw[Ko,Ko])).2
def TZ (p:Int×Int)(l:Bag)(k:Int):QM (p::l) k=if p.1=k then p.2 else QM l k:=by
 unfold QM
 rw[QR]
 split<;>rfl
def QkT {l:Bag}{k:Int}(h:∀p∈l,p.1≠k):QM l k=0:=by
 unfold QM
 rw[Mj.2 h];rfl
def QnG {p:Int×Int}{l:Bag}(h:Rt (p::l)):Rt l:=⟨(Dv.1 h.1).2,λq D=>h.2 q (Yo _ D)⟩
def QpX {p:Int×Int}{l:Bag}(h:Rt (p::l)){k:Int}(hk:k<p.1):QM (p::l) k=0:=QkT λq D=>by
 rcases Yw.1 D with rfl | D
 ·omega
 have:=(Dv.1 h.1).1 q D;omega
def rt_ext : ∀{a b:Bag},Rt a->Rt b->(∀k,QM a k=QM b k)->a=b:=by
 intro a
 induction a with
 | nil=>
  intro b _ D e
  cases b with
  | nil=>rfl
  | cons q s=>
   have:=e q.1
   rw[TZ q s,if_pos rfl]at this
   have h2:=(D.2 q XY).2.1
   have h3:QM ([]:Bag) q.1=0:=rfl
   omega
 | cons p r ih=>
  intro b ha D e
  have hp:=(ha.2 p XY).2.1
  have ep:=e p.1
  rw[TZ p r,if_pos rfl]at ep
  cases b with
  | nil=>
   have h3:QM ([]:Bag) p.1=0:=rfl
   omega
  | cons q s=>
   have hq:=(D.2 q XY).2.1
   have eq:=e q.1
   rw[TZ q s,if_pos rfl]at eq
   have h1:p.1=q.1:=by
    rcases Int.lt_trichotomy p.1 q.1 with h | h | h
    ·rw[QpX D h]at ep;omega
    ·exact h
    rw[QpX ha h]at eq;omega
   rw[TZ q s,if_pos h1.symm]at ep
   have h2:p=q:=Prod.ext h1 ep
   subst h2
   refine congrArg (p::·) (ih (QnG ha) (QnG D) λk=>?_)
   have:=e k
   rw[TZ,TZ]at this
   by_cases hk:p.1=k
   ·subst hk
    rw[QkT λx hx=>by have:=(Dv.1 ha.1).1 x hx;omega,QkT λx hx=>by have:=(Dv.1 D.1).1 x hx;omega]
   rwa[if_neg hk,if_neg hk]at this
def QqU {a b:Bag}(h:Rt a)(hb:Rt b)(D:a.length<=maxLen)(lb:b.length<=maxLen):PX a b=some (decide (a=b)):=by
 obtain⟨r1,e1,h1⟩:=BO a b D lb
 obtain⟨r2,e2,h2⟩:=BO b a lb D
 unfold PX QaD QaE
 rw[Sq D lb,Sq lb D,e1,e2]
 cases r1 with
 | false=>
  have:a≠b:=λe=>by
   subst e
   have:=h1.2 ⟨h,h,λ_=>Int.le_refl _⟩
   cases this
  rw[QK this];rfl
 | true=>cases r2 with
  | false=>
   have:a≠b:=λe=>by
    subst e
    have:=h2.2 ⟨h,h,λ_=>Int.le_refl _⟩
    cases this
   rw[QK this];rfl
  | true=>
   have:a=b:=rt_ext h hb λk=>Int.le_antisymm ((h1.1 rfl).2.2 k) ((h2.1 rfl).2.2 k)
   rw[QE this];rfl
def Qlk {a b:L_ Bag}(hl:a.length=b.length)(la:a.length<=maxLen)(ha:∀x∈a,Rt x/\x.length<=maxLen)(hb:∀x∈b,Rt x/\x.length<=maxLen):Gj a b=some (decide (a=b)):=by
 unfold Gj
 rw[show((a.length:Int) != (b.length:Int))=false by rw[hl];simp,Qs]
 have D:Qj (Qu (λst=>ID a b st) 0) λq=>(q=.inl ()->a≠b)/\(q=.inr ()->a=b):=by
  refine Qj.up a.length (λst=>st) (λst=>∀(j:Nat),(j:Int)<st->a[j]? = b[j]?) rfl (λj hj=>by omega) (λi st hi hn hJ=>?_)
  replace hi:st=(i:Int):=hi
  subst hi
  show Qj (ID a b i) _
  unfold ID
  refine T1 (λhc=>?_) (λhc=>T2 (Qq ⟨λe=>(by cases e),λ_=>?_⟩))
  ·simp only[QB]at hc
   have h:i<a.length:=by omega
   have i2:i<b.length:=by omega
   rw[QP,QP,Qy h,Qy i2,Qd,Qd]
   have hx:=ha _ (Xn h)
   have hy:=hb _ (Xn i2)
   rw[QqU hx.1 hy.1 hx.2 hy.2,Qd]
   by_cases c:a[i]=b[i]
   ·rw[QE c]
    refine T2 (QJ ⟨h,Qt h la,λj hj=>?_⟩)
    rw[Qt h la]at hj
    by_cases cj:j=i
    ·subst cj;rw[Qy h,Qy i2,c]
    exact hJ j (by omega)
   rw[QK c]
   refine T2 (Qq ⟨λ_ e=>c ?_,λe=>by cases e⟩)
   subst e;rfl
  simp only[QX]at hc
  refine List.ext_getElem? λj=>?_
  by_cases cj:j<i
  ·exact hJ j (by omega)
  rw[Sa (by omega),Sa (by omega)]
 obtain⟨q,q1,q2,q3⟩:=D
 rw[q1,Qd]
 rcases q with q | q
 ·rw[QK (q2 rfl)];rfl
 rw[QE (q3 rfl)];rfl
def Xz.rt {n:Qk}{m:L_ Bag}(D:Xz n m):∀x∈m,Rt x/\x.length<=maxLen:=λx hx=>by
 have mx:(1024:Nat)<=maxLen:=by decide
 obtain⟨h,h2⟩:=D.1.2 x hx
 exact⟨h,by omega⟩
def QjK {n:Qk}(h:Xd n){a b:L_ Bag}(D:Xz n a)(hb:Xz n b):Gj a b=some (decide (a=b)):=by
 have hpl:=h.pl
 have mx:(70:Nat)<=maxLen:=by decide
 exact Qlk (by rw[D.1.1,hb.1.1]) (by rw[D.1.1];omega) D.rt hb.rt
def Qll {l:L_ (L_ Bag)}{m:L_ Bag}(hl:l.length<=maxLen)(hS:∀y∈l,Gj y m=some (decide (y=m))):Bc l m=some (l.any λy=>decide (y=m)):=by
 unfold Bc
 have main:Qj (Qu (λst=>FV l m st) 0) λq=>(q=.inl ()->∃y∈l,y=m)/\(q=.inr ()->∀y∈l,y≠m):=by
  refine Qj.up l.length (λst=>st) (λst=>∀y∈l.take st.toNat,y≠m) rfl (λy h=>by cases h) (λi st hi hn hJ=>?_)
  replace hi:st=(i:Int):=hi
  subst hi
  rw[XC]at hJ
  show Qj (FV l m i) _
  unfold FV
  refine T1 (λhc=>?_) (λhc=>T2 (Qq ⟨λe=>(by cases e),λ_=>?_⟩))
  ·simp only[QB]at hc
   have D:i<l.length:=by omega
   rw[QP,Qy D,Qd,hS _ (Xn D),Qd]
   by_cases c:l[i]=m
   ·rw[QE c]
    exact T2 (Qq ⟨λ_=>⟨_,Xn D,c⟩,λe=>by cases e⟩)
   rw[QK c]
   refine T2 (QJ ⟨D,Qt D hl,λy h=>?_⟩)
   rw[Qt D hl,XC,Wj D]at h
   rcases YD.1 h with h | h
   ·exact hJ y h
   simp at h;subst h;exact c
  simp only[QX]at hc
  rw[JR (by omega)]at hJ
  exact hJ
 obtain⟨q,q1,q2,q3⟩:=main
 rw[q1,Qd]
 rcases q with q | q
 ·obtain⟨y,h,e⟩:=q2 rfl
  rw[show(l.any λy=>decide (y=m))=true from EB.2 ⟨y,h,QE e⟩];rfl
 rw[show(l.any λy=>decide (y=m))=false from List.any_eq_false.2 λy h=>by simpa using q3 rfl y h];rfl
def QpY {n:Qk}(h:Xd n){l:L_ (L_ Bag)}{m:L_ Bag}(hl:l.length<=maxLen)(D:∀x∈l,Xz n x)(hm:Xz n m):Bc l m=some (l.any λy=>decide (y=m)):=Qll hl λy hy=>QjK h (D y hy) hm
def Qsk {n:Qk}{m:L_ Bag}{o:Qg}{y:L_ Bag}{c:Int}(h:Yh n m o=some (y,c))(hc:c≠0):y=[]:=by
 have bad:∀{a:Int} {v:L_ Bag},(a != 0)=false->some (v,a)=some (y,c)->y=[]:=λh0 e=>by
  simp only[Option.some.injEq,Prod.mk.injEq]at e
  obtain⟨_,rfl⟩:=e
  exact absurd (by simpa using h0) hc
 have nil:∀{a:Int},some (([]:L_ Bag),a)=some (y,c)->y=[]:=λe=>by
  simp only[Option.some.injEq,Prod.mk.injEq]at e
  exact e.1.symm
 unfold Yh at h
 obtain⟨x,_,h⟩:=Qv h
 rcases Xy h with⟨_,h⟩|⟨_,h⟩
 ·exact nil h
 obtain⟨z,D,h⟩:=Qv h
 simp only[Option.some.injEq,Prod.mk.injEq]at h
 obtain⟨rfl,rfl⟩:=h
 unfold DT at D
 obtain⟨x8,_,D⟩:=Qv D
 rcases Xy D with⟨_,D⟩|⟨_,D⟩
 ·rw[<-Option.some.inj D]
 obtain⟨_,_,D⟩:=Qv D
 obtain⟨_,_,D⟩:=Qv D
 obtain⟨q,_,D⟩:=Qv D
 unfold GT at D
 obtain⟨w,hw,D⟩:=Qv D
 rw[<-Option.some.inj D]at hc ⊢
 simp only at hc ⊢
 unfold Kh at hw
 obtain⟨_,_,hw⟩:=Qv hw
 obtain⟨u,_,hw⟩:=Qv hw
 rcases u with u | u
 ·replace hw:HL u=some w:=hw
  unfold HL at hw
  rw[<-Option.some.inj hw]
 replace hw:HN u=some w:=hw
 unfold HN at hw
 rw[<-Option.some.inj hw]at hc
 exact absurd rfl hc
def QpZ {n:Qk}(h:Xd n){a:L_ Bag}(ha:Xz n a):Gj a []=some (decide (a=[])):=by
 cases a with
 | nil=>exact Qlk rfl (He _) (λx D=>by cases D) λx D=>by cases D
 | cons x r=>
  unfold Gj
  rw[show(((x::r).length:Int) != (([]:L_ Bag).length:Int))=true by simp;omega,QK (by simp)];rfl
def QoI {n:Qk}(h:Xd n){l:L_ (L_ Bag)}(hl:l.length<=maxLen)(D:∀x∈l,Xz n x):Bc l []=some (l.any λy=>decide (y=[])):=Qll hl λy hy=>QpZ h (D y hy)
def Qrd (budget:Int):min2 (max2 budget 0) 4096=(Xc budget:Int):=by
 rw[(QbK budget).1]
 unfold max2 min2
 repeat' split
 all_goals omega
def QrE {n:Qk}(h:Xd n)(hp:n.Places.length<=64){l:L_ (L_ Bag)}{y:L_ Bag}(hg:∀x∈l,Xz n x)(hy:Xz n y):(l.any λz=>decide (z=y))=QhD Xt l y:=by
 have e:QhD Xt l y=l.any λz=>decide (Xt z=Xt y):=rfl
 rw[e]
 refine ZN.2 ?_
 rw[EB,EB]
 constructor
 ·rintro ⟨z,D,e⟩
  exact⟨z,D,QE (congrArg Xt (Xo e))⟩
 rintro ⟨z,D,e⟩
 exact⟨z,D,QE (QkS h hp (hg z D) hy (Xo e))⟩
def Qnm {n:Qk}{m:L_ Bag}(w budget:Int)(h:Xd n)(hr:RN n)(hb:Bd n)(hp:n.Places.length<=64)(hg:Xz n m):NH n m w budget=some (BQ n w budget m):=by
 have hm:=QbK budget
 have hpl:=h.pl
 have mx:(4194304:Nat)<=maxLen:=by decide
 unfold NH BQ
 rw[Qrd]
 by_cases c0:Xc budget=0
 ·rw[if_pos c0,c0];rfl
 rw[if_neg c0,show((Xc budget:Int)==0)=false by simp;omega]
 simp only[Qs]
 generalize hR:GM Xt (BP n w) (Xc budget) (Xc budget+1) [m] 0=R
 have main:Qj (Qu (λst=>FX n w budget st.1 st.2) ((0:Int),[m])) λq:L_ (L_ Bag)⊕L_ (L_ Bag)=>(∀l,q=.inl l->R=(l,false))/\∀l,q=.inr l->R=(l,true):=by
  refine Qj.up (Xc budget) (λst=>st.1) (λst=>(∀x∈st.2,Xz n x)/\st.2.length<=Xc budget/\GM Xt (BP n w) (Xc budget) (Xc budget+1-st.1.toNat) st.2 st.1.toNat=R) rfl ⟨?_,?_,hR⟩ (λi st hi hn hJ=>?_)
  ·intro x hx;simp at hx;subst hx;exact hg
  ·show 1<=_;omega
  obtain⟨a,l⟩:=st
  replace hi:a=(i:Int):=hi
  subst hi
  obtain⟨j2,j3,j4⟩:(∀x∈l,Xz n x)/\l.length<=Xc budget/\GM Xt (BP n w) (Xc budget) (Xc budget+1-(i:Int).toNat) l (i:Int).toNat=R:=hJ
  rw[XC,show Xc budget+1-i=(Xc budget-i)+1 by omega,GM]at j4
  show Qj (FX n w budget i l) _
  unfold FX
  refine T1 (λhc=>?_) (λhc=>T2 (Qq ⟨λl' e=>(by cases e),λl' e=>?_⟩))
  ·simp only[QB]at hc
   have i1:i<l.length:=by omega
   have hx:=Qy i1
   have hgx:=j2 _ (Xn i1)
   rw[QP,hx,Qd]
   rw[hx]at j4
   simp only at j4
   generalize l[i]=x at hx hgx j4 ⊢
   have hal:=QeY x h hb
   rw[QmP h hr (hgx.len h) (by unfold XJ;omega) (.inr λk=>by have:=QeD x (k:Int) h hb;omega),QcD n x 9223372036854775807 h (hgx.len h) (by omega) (by omega) (.inr (by omega)),Qd]
   have hxl:=hgx.len h
   have e0:(YW n x).take (9223372036854775807:Int).toNat=YW n x:=JR (by omega)
   rw[e0]
   have hok:=λo=>Rj (o:=o) h hxl
   have inner:Qj (Qu (λst=>FW (YW n x) w i n budget st.1 st.2) ((0:Int),l)) λq:L_ (L_ Bag)⊕L_ (L_ Bag)=>
     (∀o,q=.inl o->YK Xt (Xc budget) l (BP n w x)=.inl o)/\∀o,q=.inr o->YK Xt (Xc budget) l (BP n w x)=.inr o/\(∀x∈o,Xz n x)/\o.length<=Xc budget:=by
    generalize hT:YK Xt (Xc budget) l (BP n w x)=T
    have hT:YK Xt (Xc budget) l ((YW n x).filterMap (KQ n w x))=T:=hT
    generalize YW n x=X at hT hal hok ⊢
    refine Qj.up X.length (λst=>st.1) (λst=>(∀x∈st.2,Xz n x)/\st.2.length<=Xc budget/\st.2[i]? = some x/\YK Xt (Xc budget) st.2 ((X.drop st.1.toNat).filterMap (KQ n w x))=T) rfl ⟨j2,j3,hx,hT⟩ (λk st hk hn2 hK=>?_)
    obtain⟨a,l⟩:=st
    replace hk:a=(k:Int):=hk
    subst hk
    obtain⟨k2,k3,k4,D⟩:(∀x∈l,Xz n x)/\l.length<=Xc budget/\l[i]? = some x/\YK Xt (Xc budget) l ((X.drop (k:Int).toNat).filterMap (KQ n w x))=T:=hK
    rw[XC]at D
    show Qj (FW X w i n budget k l) _
    unfold FW
    refine T1 (λhc2=>?_) (λhc2=>T2 (Qq ⟨λo e=>(by cases e),λo e=>?_⟩))
    ·simp only[QB]at hc2
     have i2:k<X.length:=by omega
     have hw:Qi ((k:Int)+1)=((k+1:Nat):Int):=Qt i2 (by unfold maxLen;omega:X.length<=maxLen)
     have next:∀l',(∀x∈l',Xz n x)->l'.length<=Xc budget->l'[i]? = some x->YK Xt (Xc budget) l' ((X.drop (k+1)).filterMap (KQ n w x))=T->
       Qj (Ee k l') λo=>(∀s',o=.inl s'->k<X.length/\s'.1=((k+1:Nat):Int)/\(∀x∈s'.2,Xz n x)/\s'.2.length<=Xc budget/\s'.2[i]? = some x/\YK Xt (Xc budget) s'.2 ((X.drop s'.1.toNat).filterMap (KQ n w x))=T)/\
        ∀r:L_ (L_ Bag)⊕L_ (L_ Bag),o=.inr r->(∀o,r=.inl o->T=.inl o)/\∀o,r=.inr o->T=.inr o/\(∀x∈o,Xz n x)/\o.length<=Xc budget:=λl' f2 f3 f4 f5=>by
      unfold Ee
      refine T2 (QJ (ix:=λst:Int×L_ (L_ Bag)=>st.1) (J:=λst:Int×L_ (L_ Bag)=>(∀x∈st.2,Xz n x)/\st.2.length<=Xc budget/\st.2[i]? = some x/\YK Xt (Xc budget) st.2 ((X.drop st.1.toNat).filterMap (KQ n w x))=T) ⟨i2,hw,f2,f3,f4,?_⟩)
      show YK Xt (Xc budget) l' ((X.drop (Qi ((k:Int)+1)).toNat).filterMap (KQ n w x))=T
      rw[hw,XC];exact f5
     rw[QP,Qy i2,Qd]
     rw[Lt i2,List.filterMap_cons]at D
     have hox:=hok _ (Xn i2)
     generalize X[k]=o at D hox ⊢
     refine T1 (λhc3=>?_) λhc3=>?_
     ·have:KQ n w x o=none:=by unfold KQ;rw[if_pos (by simpa using hc3)]
      rw[this]at D
      exact next l k2 k3 k4 D
     simp only[beq_eq_false_iff_ne]at hc3
     rw[QP,k4,Qd,Qd]
     obtain⟨⟨y,c⟩,hD,_⟩:=QmF n x o 1024 h hgx.1 (by omega) hox
     rw[QnE h hr (by omega) hgx.1 hox,hD,Qd]
     by_cases cc:c=0
     ·subst cc
      have hgy:=TX h hgx hox hD
      have:KQ n w x o=some y:=by unfold KQ;rw[if_neg hc3,hD];rfl
      rw[this]at D
      simp only at D
      rw[YK]at D
      simp only
      rw[QpY h (by omega) k2 hgy,Qd,QrE h hp k2 hgy,show((0:Int) != 0)=false from rfl,Tz]
      refine T1 (λhh=>?_) λhh=>?_
      ·rw[if_pos hh]at D
       exact next l k2 k3 k4 D
      rw[if_neg (by rw[hh];decide)]at D
      rw[Qrd]
      refine T1 (λhf=>?_) λhf=>?_
      ·simp only[QB]at hf
       rw[if_pos (by omega)]at D
       exact T2 (Qq ⟨λo e=>(by cases e;exact D.symm),λo e=>by cases e⟩)
      simp only[QX]at hf
      rw[if_neg (by omega)]at D
      refine T0 (T5 (by simp;omega)) λ_ _=>?_
      refine next _ (λz hz=>?_) (by simp;omega) (by rw[Jz ((Xj.1 k4).1)];exact k4) D
      rcases YD.1 hz with hz | hz
      ·exact k2 z hz
      simp at hz;subst hz;exact hgy
     have:KQ n w x o=none:=by unfold KQ;rw[if_neg hc3,hD];simp only;rw[if_neg cc]
     rw[this]at D
     obtain rfl:=Qsk hD cc
     simp only
     rw[QoI h (by omega) k2,Qd,show(c != 0)=true by simpa using cc,Bool.true_or,Qz]
     exact next l k2 k3 k4 D
    cases e
    simp only[QX]at hc2
    rw[QbQ (by omega),List.filterMap_nil,YK]at D
    exact⟨D.symm,k2,k3⟩
   obtain⟨q,hq1,hq2,hq3⟩:=inner
   rw[hq1,Qd]
   rcases q with q | o
   ·have:=hq2 q rfl
    rw[this]at j4
    show Qj (OC q) _
    unfold OC
    exact T2 (Qq ⟨λl' e=>(by cases e;exact j4.symm),λl' e=>by cases e⟩)
   obtain⟨f1,f3,f4⟩:=hq3 o rfl
   rw[f1]at j4
   simp only at j4
   show Qj (OD i o) _
   unfold OD
   have hw:Qi ((i:Int)+1)=((i+1:Nat):Int):=Qt (by omega:i<Xc budget) (by unfold maxLen;omega)
   refine T2 (QJ ⟨by omega,hw,f3,f4,?_⟩)
   show GM Xt (BP n w) (Xc budget) (Xc budget+1-(Qi ((i:Int)+1)).toNat) o (Qi ((i:Int)+1)).toNat=R
   rw[hw,XC,show Xc budget+1-(i+1)=Xc budget-i by omega]
   exact j4
  cases e
  simp only[QX]at hc
  rw[Sa (by omega)]at j4
  exact j4.symm
 obtain⟨q,hq1,hq2,hq3⟩:=main
 rw[hq1,Qd]
 rcases q with q | q
 ·rw[hq2 q rfl];rfl
 rw[hq3 q rfl];rfl
def asc_ext : ∀{a b:LI_},a.Pairwise (·<·)->b.Pairwise (·<·)->(∀k,k∈a↔k∈b)->a=b:=by
 intro a
 induction a with
 | nil=>
  intro b _ _ e
  cases b with
  | nil=>rfl
  | cons y s=>have:=(e y).2 XY;cases this
 | cons x r ih=>
  intro b ha hb e
  cases b with
  | nil=>have:=(e x).1 XY;cases this
  | cons y s=>
   obtain⟨a1,a2⟩:=TF.1 ha
   obtain⟨b1,b2⟩:=TF.1 hb
   have h1:x=y:=by
    rcases Yw.1 ((e x).1 XY)with h | h
    ·exact h
    rcases Yw.1 ((e y).2 XY)with h' | h'
    ·exact h'.symm
    have:=b1 x h;have:=a1 y h';omega
   subst h1
   refine congrArg (x::·) (ih a2 b2 λk=>?_)
   constructor
   ·intro D
    rcases Yw.1 ((e k).1 (Yo _ D))with h | h
    ·subst h;have:=a1 k D;omega
    exact h
   intro D
   rcases Yw.1 ((e k).2 (Yo _ D))with h | h
   ·subst h;have:=b1 k D;omega
   exact h
def QoJ {l:LI_}:∀(j:Nat) (h:j<l.length),l[j]∈DY l:=by
 intro j
 induction j with
 | zero=>
  intro h
  unfold DY Lib.compact Lib.compactUpTo
  refine YL.2 ⟨0,Lx.2 ⟨An.2 h,?_⟩,Mm h⟩
  unfold Lib.keeps
  simp
 | succ j ih=>
  intro h
  have D:j<l.length:=by omega
  by_cases e:l[j+1]=l[j]
  ·rw[e];exact ih D
  unfold DY Lib.compact Lib.compactUpTo
  refine YL.2 ⟨j+1,Lx.2 ⟨An.2 h,?_⟩,Mm h⟩
  unfold Lib.keeps
  rw[show j+1-1=j from rfl,Mm h,Mm D]
  exact QE (.inr e)
def QlM {l:LI_}{x:Int}:x∈DY l↔x∈l:=⟨Qlh,λh=>by
 obtain⟨j,D,rfl⟩:=HX.1 h
 exact QoJ j D⟩
def EmP (n:Qk)(m:L_ Bag)(h:Int)(r:LI_):Prop:=∀k,k∈r↔Lr m k/\∃e,idx n.Tasks h=some e/\∃a∈e.Ins,a.Place=k
def Qnn (n:Qk)(m:L_ Bag)(task:Int)(h:Xd n):Qj (Wo n m task) λr=>EmP n m task r/\r.Pairwise (·<·):=by
 unfold Wo
 refine T1 (λhc=>T2 ⟨λk=>⟨λh=>(by cases h),λ⟨_,e,he,_⟩=>?_⟩,List.Pairwise.nil⟩) λhc=>?_
 ·obtain⟨h0,D⟩:=Yl he
  have:=(Xj.1 D).1
  simp only[KE,QB]at hc
  omega
 simp only[Kw,QX]at hc
 refine T0 (T4 (by omega) (by omega)).self λe he=>?_
 have hil:=(h.tk e he.2).2.1
 refine T0 (Qj.up e.Ins.length (λst=>st.1) (λst=>(st.2.length:Int)<=st.1/\∀k,k∈st.2↔Lr m k/\∃a∈e.Ins.take st.1.toNat,a.Place=k) (Q:=λq:LI_=>q.length<=16/\∀k,k∈q↔Lr m k/\∃a∈e.Ins,a.Place=k) rfl ⟨by simp,λk=>⟨λh=>(by cases h),λ⟨_,a,ha,_⟩=>(by cases ha)⟩⟩ (λi st hi hn hJ=>?_)) (λq hq=>?_)
 ·obtain⟨x,l⟩:=st
  replace hi:x=(i:Int):=hi
  subst hi
  obtain⟨j1,j2⟩:(l.length:Int)<=(i:Int)/\∀k,k∈l↔Lr m k/\∃a∈e.Ins.take (i:Int).toNat,a.Place=k:=hJ
  rw[XC]at j2
  show Qj (Uj e m i l) _
  unfold Uj
  refine T1 (λhc2=>?_) (λhc2=>T2 (Qq ⟨by omega,?_⟩))
  rotate_left
  ·simp only[QX]at hc2
   rw[JR (by omega)]at j2;exact j2
  simp only[QB]at hc2
  have i1:i<e.Ins.length:=by omega
  have hw:Qi ((i:Int)+1)=((i+1:Nat):Int):=Qt i1 (by unfold maxLen;omega:e.Ins.length<=maxLen)
  rw[QP,Qy i1,Qd]
  refine T0 (P:=λy=>y=true↔Lr m (e.Ins[i]).Place) ?_ λy hy=>?_
  ·unfold Mz
   refine T1 (λc1=>?_) λc1=>T2 ⟨λh=>(by cases h),λh=>absurd h.1 (by simpa using c1)⟩
   refine T1 (λc2=>?_) λc2=>T2 ⟨λh=>(by cases h),λh=>absurd h.2.1 (by simpa using c2)⟩
   simp only[QB]at c1 c2
   have hk:(e.Ins[i]).Place.toNat<m.length:=by omega
   rw[WN c1,Qy hk,Qd]
   refine T2 ⟨λhz=>⟨c1,c2,?_⟩,λhz=>?_⟩
   ·simp only[beq_iff_eq]at hz
    rw[Qy hk,HV.1 (show(m[(e.Ins[i]).Place.toNat]).length=0 by omega)]
   have:=hz.2.2
   rw[Qy hk]at this
   rw[Option.some.inj this];rfl
  unfold MA Ui
  have put:∀k,(∃a∈e.Ins.take (i+1),a.Place=k)↔(∃a∈e.Ins.take i,a.Place=k)\/(e.Ins[i]).Place=k:=λk=>by
   rw[Wj i1]
   constructor
   ·rintro ⟨a,ha,rfl⟩
    rcases YD.1 ha with ha | ha
    ·exact .inl ⟨a,ha,rfl⟩
    simp at ha;subst ha;exact .inr rfl
   rintro (⟨a,ha,rfl⟩|rfl)
   ·exact⟨a,QbR _ ha,rfl⟩
   exact⟨_,QhY _ (by simp),rfl⟩
  refine T1 (λc1=>?_) λc1=>?_
  ·refine T0 (T5 (by simp;omega)) λ_ _=>?_
   refine T2 (QJ ⟨i1,hw,by show((l++[_]).length:Int)<=Qi _;rw[hw];simp;omega,λk=>?_⟩)
   show k∈l++[_]↔Lr m k/\∃a∈e.Ins.take (Qi ((i:Int)+1)).toNat,a.Place=k
   rw[hw,XC,put k,YD,j2 k]
   constructor
   ·rintro (⟨D,h2⟩|hk)
    ·exact⟨D,.inl h2⟩
    simp at hk;subst hk;exact⟨hy.1 c1,.inr rfl⟩
   rintro ⟨D,h2 | rfl⟩
   ·exact .inl ⟨D,h2⟩
   exact .inr (by simp)
  refine T2 (QJ ⟨i1,hw,by show(l.length:Int)<=Qi _;rw[hw];omega,λk=>?_⟩)
  show k∈l↔Lr m k/\∃a∈e.Ins.take (Qi ((i:Int)+1)).toNat,a.Place=k
  rw[hw,XC,put k,j2 k]
  constructor
  ·rintro ⟨D,h2⟩
   exact⟨D,.inl h2⟩
  rintro ⟨D,h2 | rfl⟩
  ·exact⟨D,h2⟩
  have:=hy.2 D;rw[c1]at this;cases this
 obtain⟨q1,q2⟩:=hq
 show Qj (Uk q) _
 unfold Uk
 rw[QcB _ (by omega),Qd]
 refine T0 (T5 (by simp[Gv])) λ_ _=>?_
 unfold Wd
 rw[WJ (by rw[Gv];omega),Qd,Qd]
 refine T2 ⟨λk=>?_,Qli (QmS q)⟩
 rw[QlM,Qlj,q2 k]
 constructor
 ·rintro ⟨D,h2⟩
  exact⟨D,e,he.1,h2⟩
 rintro ⟨D,e',he',h2⟩
 rw[he.1]at he';cases he'
 exact⟨D,h2⟩
def QmZ (n:Qk)(m:L_ Bag)(D:Int)(h:Xd n)(hl:m.length<=70):Qj (Hs n m D) λr=>EmP n m D r/\r.Pairwise (·<·):=by
 have mx:(70:Nat)<=maxLen:=by decide
 unfold Hs
 by_cases hc:0<=D/\D<n.Tasks.length
 ·obtain⟨e,he,hmem⟩:=T4 hc.1 hc.2
  have hil:=(h.tk e hmem).2.1
  refine T0 (Qj.up m.length (λst=>st.1) (λst=>((st.2.length:Int)<=st.1/\st.2.Pairwise (·<·))/\∀k,k∈st.2↔k<st.1/\Lr m k/\∃a∈e.Ins,a.Place=k) (Q:=λq:LI_=>(∀k,k∈q↔Lr m k/\∃a∈e.Ins,a.Place=k)/\q.Pairwise (·<·)) rfl ⟨⟨by simp,List.Pairwise.nil⟩,λk=>⟨λh=>(by cases h),λ⟨h1,h2,_⟩=>absurd h2.1 (by show ¬0<=k;have:k<(0:Int):=h1;omega)⟩⟩ (λi st hi hn hJ=>?_)) (λq hq=>?_)
  ·obtain⟨x,l⟩:=st
   replace hi:x=(i:Int):=hi
   subst hi
   obtain⟨⟨j1,j3⟩,j2⟩:((l.length:Int)<=(i:Int)/\l.Pairwise (·<·))/\∀k,k∈l↔k<(i:Int)/\Lr m k/\∃a∈e.Ins,a.Place=k:=hJ
   show Qj (Ak m D n i l) _
   unfold Ak
   rw[QE hc.1,QE hc.2,Tw,Tw]
   refine T1 (λhc2=>?_) (λhc2=>T2 (Qq ⟨λk=>?_,j3⟩))
   rotate_left
   ·simp only[QX]at hc2
    rw[j2 k]
    exact⟨λh=>h.2,λh=>⟨by have:=h.1.2.1;omega,h⟩⟩
   simp only[QB]at hc2
   have i1:i<m.length:=by omega
   have hw:Qi ((i:Int)+1)=((i+1:Nat):Int):=Qt i1 (by omega:m.length<=maxLen)
   refine T0 (P:=λb=>b=true↔∃a∈e.Ins,a.Place=(i:Int)) (Qj.up e.Ins.length (λst=>st.2) (λst=>st.1=true↔∃a∈e.Ins.take st.2.toNat,a.Place=(i:Int)) rfl ⟨λh=>(by cases h),λ⟨a,ha,_⟩=>(by cases ha)⟩ (λj st hj hn2 hK=>?_)) λb hb=>?_
   ·obtain⟨b,x⟩:=st
    replace hj:x=(j:Int):=hj
    subst hj
    replace hK:b=true↔∃a∈e.Ins.take (j:Int).toNat,a.Place=(i:Int):=hK
    rw[XC]at hK
    show Qj (OE n D i b j) _
    unfold OE
    rw[he,Qd]
    refine T1 (λhc3=>?_) (λhc3=>T2 (Qq ?_))
    rotate_left
    ·simp only[QX]at hc3
     rw[JR (by omega)]at hK;exact hK
    simp only[QB]at hc3
    have k1:j<e.Ins.length:=by omega
    have hw2:Qi ((j:Int)+1)=((j+1:Nat):Int):=Qt k1 (by unfold maxLen;omega:e.Ins.length<=maxLen)
    refine T0 (P:=λy=>y=true↔(b=true\/(e.Ins[j]).Place=(i:Int))) ?_ λy hy=>?_
    ·unfold Zm
     refine T1 (λc=>T2 ⟨λ_=>.inl c,λ_=>rfl⟩) λc=>?_
     rw[he,Qd,QP,Qy k1,Qd]
     refine T2 ⟨λh=>.inr (by simpa using h),λh=>?_⟩
     rcases h with h | h
     ·rw[c]at h;cases h
     simpa using h
    unfold Zn
    refine T2 (QJ ⟨k1,hw2,?_⟩)
    show y=true↔∃a∈e.Ins.take (Qi ((j:Int)+1)).toNat,a.Place=(i:Int)
    rw[hw2,XC,Wj k1,hy,hK]
    constructor
    ·rintro (⟨a,ha,e1⟩|e1)
     ·exact⟨a,QbR _ ha,e1⟩
     exact⟨_,QhY _ (by simp),e1⟩
    rintro ⟨a,ha,e1⟩
    rcases YD.1 ha with ha | ha
    ·exact .inl ⟨a,ha,e1⟩
    simp at ha;subst ha;exact .inr e1
   show Qj (OF m i l b) _
   unfold OF
   have hmi:=Qy i1
   refine T0 (P:=λy=>y=true↔Lr m i/\∃a∈e.Ins,a.Place=(i:Int)) ?_ λy hy=>?_
   ·unfold Zo
    refine T1 (λc=>?_) λc=>T2 ⟨λh=>(by cases h),λh=>by have:=hb.2 h.2;rw[c]at this;cases this⟩
    rw[QP,hmi,Qd]
    refine T2 ⟨λhz=>⟨⟨by omega,by omega,?_⟩,hb.1 c⟩,λhz=>?_⟩
    ·simp only[beq_iff_eq]at hz
     rw[XC,hmi,HV.1 (show(m[i]).length=0 by omega)]
    have:=hz.1.2.2
    rw[XC,hmi]at this
    rw[Option.some.inj this];rfl
   unfold Zp FY
   refine T1 (λc1=>?_) λc1=>?_
   ·refine T0 (T5 (by simp;omega)) λ_ _=>?_
    refine T2 (QJ ⟨i1,hw,⟨by show((l++[_]).length:Int)<=Qi _;rw[hw];simp;omega,?_⟩,λk=>?_⟩)
    ·refine QhZ.2 ⟨j3,by simp,λa ha c hc'=>?_⟩
     simp at hc';subst hc';exact((j2 a).1 ha).1
    show k∈l++[(i:Int)]↔k<Qi ((i:Int)+1)/\_
    rw[hw,YD,j2 k]
    constructor
    ·rintro (h1 | hk)
     ·exact⟨by omega,h1.2⟩
     simp at hk;subst hk;exact⟨by omega,hy.1 c1⟩
    rintro ⟨h1,h2⟩
    by_cases ck:k=(i:Int)
    ·exact .inr (by simp[ck])
    exact .inl ⟨by omega,h2⟩
   refine T2 (QJ ⟨i1,hw,⟨by show(l.length:Int)<=Qi _;rw[hw];omega,j3⟩,λk=>?_⟩)
   show k∈l↔k<Qi ((i:Int)+1)/\_
   rw[hw,j2 k]
   constructor
   ·rintro ⟨h1,h2⟩
    exact⟨by omega,h2⟩
   rintro ⟨h1,h2⟩
   refine⟨?_,h2⟩
   by_cases ck:k=(i:Int)
   ·subst ck;have:=hy.2 h2;rw[c1]at this;cases this
   omega
  show Qj (Al q) _
  unfold Al
  refine T2 ⟨λk=>?_,hq.2⟩
  rw[hq.1 k]
  exact⟨λ⟨a,b⟩=>⟨a,e,he,b⟩,λ⟨a,e',h1,b⟩=>by rw[he]at h1;cases h1;exact⟨a,b⟩⟩
 refine T0 (P:=λq:LI_=>q=[]) (Qj.up 0 (λst=>st.1) (λst=>st.2=[]) rfl rfl (λi st hi hn hJ=>?_)) λq hq=>?_
 ·obtain⟨x,l⟩:=st
  replace hJ:l=[]:=hJ
  subst hJ
  show Qj (Ak m D n x []) _
  unfold Ak
  have:(decide (0<=D)&&decide (D<(n.Tasks.length:Int)))=false:=by
   rw[Bool.and_eq_false_iff,QX,QX]
   omega
  rw[this,Bool.and_false]
  exact T2 (Qq rfl)
 subst hq
 show Qj (Al []) _
 unfold Al
 refine T2 ⟨λk=>⟨λh=>(by cases h),λ⟨_,e,he,_⟩=>?_⟩,List.Pairwise.nil⟩
 obtain⟨h0,h1⟩:=Yl he
 have:=(Xj.1 h1).1
 omega
def Qp0 {n:Qk}{m:L_ Bag}(D:Int)(h:Xd n)(hl:m.length<=70):Hs n m D=some (Fd n m D):=by
 obtain⟨r,r1,r2,r3⟩:=QmZ n m D h hl
 obtain⟨s,s1,s2,s3⟩:=Qnn n m D h
 unfold Fd
 rw[r1,s1,asc_ext r3 s3 λk=>(r2 k).trans (s2 k).symm];rfl
def QrF : ∀{l:LI_} {a N:Nat},l.Pairwise (·<·)->(∀k∈l,(a:Int)<=k/\k<N)->a<=N->l.length+a<=N:=by
 intro l
 induction l with
 | nil=>intro a N _ _ h;simpa using h
 | cons x r ih=>
  intro a N h hk ha
  obtain⟨h1,h2⟩:=TF.1 h
  have hx:=hk x XY
  have:=ih (a:=x.toNat+1) (N:=N) h2 (λk D=>by have:=h1 k D;have:=hk k (Yo _ D);omega) (by omega)
  rw[GF];omega
def Qtm {l:L_ (L_ Bag)}{fl:Bool}{e:LI_}(i:Nat)(hi:i<l.length)(he:e.length<=maxLen)(hk:∀k∈e,0<=k/\k<(l[i]).length):Qj (Qu (λst=>FZ e (l,fl) i st) 0) λq=>(q=.inl ()->AG e l[i]=true)/\(q=.inr ()->AG e l[i]=false):=by
 have hx:=Qy hi
 generalize l[i]=x at hk hx ⊢
 refine Qj.up e.length (λst=>st) (λst=>AG (e.take st.toNat) x=false) rfl rfl (λj st hj hn hJ=>?_)
 replace hj:st=(j:Int):=hj
 subst hj
 rw[XC]at hJ
 show Qj (FZ e (l,fl) i j) _
 unfold FZ
 refine T1 (λhc=>?_) (λhc=>T2 (Qq ⟨λh=>(by cases h),λ_=>?_⟩))
 ·simp only[QB]at hc
  have D:j<e.length:=by omega
  obtain⟨k0,k1⟩:=hk _ (Xn D)
  have k2:(e[j]).toNat<x.length:=by omega
  simp only
  rw[QP,hx,Qd,QP,Qy D,Qd,WN k0,Qy k2,Qd]
  have hd:((x[(e[j]).toNat]?).getD [])=x[(e[j]).toNat]:=by rw[Qy k2];rfl
  refine T1 (λc=>T2 (Qq ⟨λ_=>?_,λh=>by cases h⟩)) λc=>T2 (QJ ⟨D,Qt D he,?_⟩)
  ·exact EB.2 ⟨e[j],Xn D,by rw[hd];exact c⟩
  rw[Qt D he,XC,Wj D]
  unfold AG at hJ ⊢
  rw[List.any_append,hJ,Tz,List.any_cons,List.any_nil,ZP,hd]
  exact c
 simp only[QX]at hc
 rw[JR (by omega)]at hJ
 exact hJ
def Qp1 {n:Qk}{m:L_ Bag}(o:Qg)(budget:Int)(h:Xd n)(hr:RN n)(hb:Bd n)(hp:n.Places.length<=64)(hg:Xz n m)(ho:XQ n o):NI n m o budget=some (ZC n m o budget):=by
 have hml:=hg.len h
 have hpl:=h.pl
 have mx:(4096:Nat)<=maxLen:=by decide
 unfold NI
 rw[QcE h hr hml ho]
 obtain⟨x,hx,_⟩:=QbJ n m o h hml ho
 rw[hx,Qd]
 by_cases c:x=0
 rotate_left
 ·rw[show(x != 0)=true by simpa using c]
  unfold ZC
  rw[if_neg (by rw[hx];simpa using c)];rfl
 subst c
 obtain⟨e,he,hmem⟩:=QjI h hml ho hx
 rw[show((0:Int) != 0)=false from rfl,Qs,he,Qd]
 unfold ZC
 rw[if_pos hx,he]
 simp only
 by_cases c3:e.Join=3
 rotate_left
 ·rw[show(e.Join != 3)=true by simpa using c3,if_neg c3];rfl
 rw[show(e.Join != 3)=false by simpa using c3,Qs,if_pos c3,Qnm o.Task budget h hr hb hp hg,Qd,Qp0 o.Task h (by rw[hg.1.1];omega),Qd]
 obtain⟨_,e1,e2⟩:=QmT n m o.Task h
 obtain⟨g1,g2,_,_⟩:=QjG (w:=o.Task) (budget:=budget) h hg
 have hmo:=QbK budget
 have hel:(Fd n m o.Task).length<=maxLen:=by
  have hs:(Fd n m o.Task).length<=m.length:=by have:=QrF (a:=0) (N:=m.length) e2 (λk hk=>⟨(e1 k hk).1,(e1 k hk).2.1⟩) (He _);omega
  rw[hg.1.1]at hs;omega
 unfold QjH
 generalize BQ n o.Task budget m=R at g1 g2
 obtain⟨l,fl⟩:=R
 replace g1:∀x∈l,Xz n x:=g1
 replace g2:l.length<=Xc budget:=g2
 generalize Fd n m o.Task=E at e1 hel ⊢
 have main:Qj (Qu (λst=>Ha (l,fl) E st) 0) λq=>(q=.inl ()->l.any (AG E)=true)/\(q=.inr ()->l.any (AG E)=false):=by
  refine Qj.up l.length (λst=>st) (λst=>(l.take st.toNat).any (AG E)=false) rfl rfl (λi st hi hn hJ=>?_)
  replace hi:st=(i:Int):=hi
  subst hi
  rw[XC]at hJ
  show Qj (Ha (l,fl) E i) _
  unfold Ha
  refine T1 (λD=>?_) (λD=>T2 (Qq ⟨λh=>(by cases h),λ_=>?_⟩))
  ·replace D:decide ((i:Int)<(l.length:Int))=true:=D
   simp only[QB]at D
   have i1:i<l.length:=by omega
   obtain⟨q,q1,q2,q3⟩:=Qtm (fl:=fl) i i1 hel λk hk=>by
    have h1:=e1 k hk
    have h2:=(g1 _ (Xn i1)).1.1
    have h3:=hg.1.1
    exact⟨h1.1,by have:=h1.2.1;omega⟩
   rw[q1,Qd]
   rcases q with q | q
   ·exact T2 (Qq ⟨λ_=>EB.2 ⟨_,Xn i1,q2 rfl⟩,λh=>by cases h⟩)
   refine T2 (QJ ⟨i1,Qt i1 (by omega),?_⟩)
   rw[Qt i1 (by omega),XC,Wj i1,List.any_append,hJ,Tz,List.any_cons,List.any_nil,ZP]
   exact q3 rfl
  replace D:decide ((i:Int)<(l.length:Int))=false:=D
  simp only[QX]at D
  rw[JR (by omega)]at hJ
  exact hJ
 obtain⟨q,q1,q2,q3⟩:=main
 rw[q1,Qd]
 rcases q with q | q
 ·show Zq=some (if l.any (AG E)=true then 0 else if fl=true then 1 else 2)
  rw[if_pos (q2 rfl)];rfl
 show OG (l,fl)=some (if l.any (AG E)=true then 0 else if fl=true then 1 else 2)
 rw[if_neg (by rw[q3 rfl];decide)]
 unfold OG
 cases fl<;>rfl
def Fe (n:Qk)(m:L_ Bag)(budget t:Int):Int:=match idx n.Tasks t with
 | some e=>if e.Join=3 then QjH n m t budget else 1
 | none=>0
def QqV {n:Qk}{m:L_ Bag}{o:Qg}(budget:Int)(h:Yv n m o=some 0):ZC n m o budget=Fe n m budget o.Task:=by
 unfold ZC Fe
 cases idx n.Tasks o.Task<;>exact if_pos h
end Go.Proofs
