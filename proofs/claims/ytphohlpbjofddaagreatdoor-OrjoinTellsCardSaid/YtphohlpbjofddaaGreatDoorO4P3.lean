/- A part of the proof; what it holds is told at each theorem. -/
import Derived.Test.YtphohlpbjofddaaGreatDoorO4P2
import Derived.Test.YtphohlpbjofddaaGreatDoorO4P2
import Derived.Test.YtphohlpbjofddaaGreatDoorO4P1
import Derived.Test.YtphohlpbjofddaaGreatDoorO4P2
import Derived.Test.YtphohlpbjofddaaGreatDoorO4P2
import Derived.Test.YtphohlpbjofddaaGreatDoorO4P1
import Derived.Test.YtphohlpbjofddaaGreatDoorO4T2
import Derived.KernelRfl
set_option linter.all false
noncomputable section
namespace Go.Proofs
open Go Go.RowKit Go.Vm
def Qc4 {σ ρ:Type}{b1 b2:σ->O_ (σ⊕ρ)}(n:Nat)(I:Nat->σ->Prop)(he:∀i s,I i s->b1 s=b2 s)(hn:∀i s j,I i s->b2 s=some (.inl j)->i<n/\I (i+1) j):∀s0,I 0 s0->Qs b1 s0=Qs b2 s0:=by
 have key:∀(k i:Nat) s,n<=i+k->I i s->Qs b1 s=Qs b2 s:=by
  intro k
  induction k with
  | zero=>
   intro i s hk D
   rw[Yz,Yz (body:=b2),he i s D]
   cases hb:b2 s with
   | none=>rfl
   | some o=>
    cases o with
    | inr r=>rfl
    | inl j=>have:=(hn i s j D hb).1;omega
  | succ k ih=>
   intro i s hk D
   rw[Yz,Yz (body:=b2),he i s D]
   cases hb:b2 s with
   | none=>rfl
   | some o=>
    cases o with
    | inr r=>rfl
    | inl j=>exact ih (i+1) j (by omega) (hn i s j D hb).2
 exact λs0 h=>key n 0 s0 (by omega) h
structure RN (n:Qn):Prop where
 c:∀c∈n.Colours,IC c
 g:∀t∈n.Tasks,RE t.Guard
 i:∀t∈n.Tasks,∀a∈t.Ins,RE a.Expr
 o:∀t∈n.Tasks,∀a∈t.Outs,RE a.Expr
def Qf3 {n:Qn}(h:Xd n)(hr:RN n)(D:Int)(j:L_ Int):∃r,WH n D j=some r/\Fv n D j=some r/\(r.2=0->(∀x∈r.1,Xy x)/\∃e,idx n.Tasks D=some e/\e∈n.Tasks):=by
 unfold WH Fv
 cases hq:((decide (D<0))||(decide ((n.Tasks.length:Int)<=D)))with
 | true=>exact⟨_,rfl,rfl,λh=>by cases h⟩
 | false=>
  simp only[Kn,QV]at hq
  have he:idx n.Tasks D=some (n.Tasks[D.toNat]'(by omega)):=LY (by omega) (by omega)
  have hm:(n.Tasks[D.toNat]'(by omega))∈n.Tasks:=Xs _
  rw[Qq,Qq,he,Qd,Qd]
  generalize (n.Tasks[D.toNat]'(by omega))=e at he hm
  have hv:=(h.tk e hm).1
  by_cases hl:(j.length:Int)=(e.Vars.length:Int)
  ·rw[show((j.length:Int) != (e.Vars.length:Int))=false by simpa using hl,Qq,Qq,PA (by simp;omega),Qd]
   have mx:(16:Nat)<=maxLen:=by decide
   obtain⟨r,q,e1,e2,e3⟩:=TS (b1:=λst:Int×L_ Int=>WG e j n st.1 st.2) (b2:=λst:Int×L_ Int=>BS e j n st.1 st.2) e.Vars.length
    (λi s t=>s=((i:Int),t.2++List.replicate (e.Vars.length-i) 0)/\t.1=(i:Int)/\t.2.length=i/\∀x∈t.2,Xy x) (λr q=>r=q/\∀l,r=.inr l->∀x∈l,Xy x) (λi s t hi hI=>by
     obtain⟨a,out⟩:=t
     obtain⟨rfl,h2,h3,h4⟩:=hI
     replace h2:a=(i:Int):=h2
     subst h2
     replace h3:out.length=i:=h3
     replace h4:∀x∈out,Xy x:=h4
     show(i<e.Vars.length/\∃s' t',WG e j n i (out++List.replicate (e.Vars.length-i) 0)=_/\BS e j n i out=_/\_)\/∃r q,WG e j n i (out++List.replicate (e.Vars.length-i) 0)=_/\BS e j n i out=_/\_
     unfold WG BS
     by_cases hlt:i<e.Vars.length
     ·rw[QB (by omega:(i:Int)<(e.Vars.length:Int)),Qx,Qx,QR,Qy hlt,QR,Qy (show i<j.length by omega)]
      simp only[Qd]
      obtain⟨y,y1,y2,y3⟩:=Qk6 h.k.1 hr.c (e.Vars[i]).Colour (j[i]'(by omega))
      have hrep:List.replicate (e.Vars.length-i) (0:Int)=0::List.replicate (e.Vars.length-(i+1)) 0:=by
       rw[show e.Vars.length-i=(e.Vars.length-(i+1))+1 by omega];rfl
      rw[y1,y2,Qd,Qd]
      cases y.2 with
      | false=>exact .inr ⟨_,_,rfl,rfl,rfl,λl h=>by cases h⟩
      | true=>
       left
       simp only[DW,Qq]
       rw[QR,hrep,Ko (by omega),h3,Nat.sub_self,GJ (by simp;omega)]
       refine⟨hlt,_,_,rfl,rfl,?_,Qr hlt (by omega),by simp;omega,λx hx=>?_⟩
       ·rw[Qr hlt (by omega),XH,List.set_append_right _ _ (by omega),h3,Nat.sub_self,WD];rfl
       rcases YM.1 hx with hx | hx
       ·exact h4 x hx
       simp at hx;subst hx;exact y3
     right
     rw[QF (by omega:¬(i:Int)<(e.Vars.length:Int))]
     have:i=e.Vars.length:=by omega
     subst this
     refine⟨_,_,rfl,rfl,?_,λl hl=>?_⟩
     ·simp
     cases hl;simpa using h4) (0,List.replicate (e.Vars.length:Int).toNat 0) (0,[]) ⟨by simp,rfl,rfl,λx h=>by cases h⟩
   obtain⟨e3,e4⟩:=e3
   subst e3
   rw[e1,e2]
   rcases r with r | r
   ·exact⟨_,rfl,rfl,λh=>by cases h⟩
   exact⟨_,rfl,rfl,λ_=>⟨e4 r rfl,e,rfl,hm⟩⟩
  rw[show((j.length:Int) != (e.Vars.length:Int))=true by simpa using hl]
  exact⟨_,rfl,rfl,λh=>by cases h⟩
def ZF {n:Qn}(h:Xd n)(hr:RN n){l:L_ Xk}(hl:QO Fm l)(hre:∀a∈l,RE a.Expr){j env:L_ Int}(hw:j.length<=1000)(hv:∀x∈env,Xy x):Gu n l j env=XS n l j env:=by
 unfold Gu XS
 congr 1
 funext _
 have mx:(1000:Nat)<=maxLen:=by decide
 have e:Qs (λst:Int×L_ QBg=>Bx j l env n st.1 st.2) (0,(List.replicate (n.Places.length:Int).toNat (([]:QBg):QBg)))=Qs (λst:Int×L_ QBg=>KJ j l env n st.1 st.2) (0,(List.replicate (n.Places.length:Int).toNat (([]:QBg):QBg))):=by
  refine Qc4 j.length (λi s=>s.1=(i:Int)/\i<=j.length/\∀b∈s.2,b.length<=i) (λi s hI=>?_) (λi s s' hI D=>?_) _ ⟨rfl,by omega,λb hb=>by rw[Pk hb];simp⟩
  ·obtain⟨a,m⟩:=s
   obtain⟨h1,h2,h3⟩:=hI
   replace h1:a=(i:Int):=h1
   subst h1
   replace h3:∀b∈m,b.length<=i:=h3
   show Bx j l env n i m=KJ j l env n i m
   unfold Bx KJ
   cases decide ((i:Int)<(j.length:Int))with
   | false=>rfl
   | true=>
    rw[Qx,Qx]
    cases idx j (i:Int)with
    | none=>rfl
    | some k=>
     simp only[Qd]
     cases ((decide (k<0))||(decide ((l.length:Int)<=k)))with
     | true=>rfl
     | false=>
      rw[Qq,Qq]
      cases hk:idx l k with
      | none=>rfl
      | some a=>
       simp only[Qd]
       have ha:a∈l:=XF (Ys hk).2
       obtain⟨x,x1,x2,x3⟩:=QiZ (hl.2 a ha).2 (hre a ha) hv
       rw[x1,x2,Qd,Qd]
       cases (x.2 != 0)with
       | true=>rfl
       | false=>
        rw[Qq,Qq]
        cases ((decide (a.Place<0))||(decide ((n.Places.length:Int)<=a.Place)))with
        | true=>rfl
        | false=>
         rw[Qq,Qq]
         cases idx n.Places a.Place with
         | none=>rfl
         | some p=>
          simp only[Qd]
          obtain⟨y,y1,y2⟩:=Qk7 h.k.1 hr.c p.Colour x.1 x3
          rw[y1,y2,Qd,Qd]
          cases hy:y.2 with
          | false=>rfl
          | true=>
           simp only[DW,Qq]
           have y0:=GA (Qkl n.Colours p.Colour x.1 h.k.1) y1 hy
           cases hb:idx m a.Place with
           | none=>rfl
           | some b=>
            simp only[Qd]
            have hbl:=h3 b (XF (Ys hb).2)
            rw[Qa9,QB y0,Qx,Qd,Qkz (by simp;omega)]
  obtain⟨a,m⟩:=s
  obtain⟨h1,h2,h3⟩:=hI
  replace h1:a=(i:Int):=h1
  subst h1
  replace h3:∀b∈m,b.length<=i:=h3
  replace D:KJ j l env n i m=some (.inl s'):=D
  unfold KJ at D
  rcases Xr D with⟨c,D⟩|⟨_,D⟩
  ·have hlt:i<j.length:=by simpa using c
   obtain⟨k,_,D⟩:=Qw D
   rcases Xr D with⟨_,D⟩|⟨_,D⟩
   ·cases D
   obtain⟨a,_,D⟩:=Qw D
   obtain⟨x,_,D⟩:=Qw D
   rcases Xr D with⟨_,D⟩|⟨_,D⟩
   ·cases D
   obtain⟨a',_,D⟩:=Qw D
   rcases Xr D with⟨_,D⟩|⟨_,D⟩
   ·cases D
   obtain⟨p,_,D⟩:=Qw D
   obtain⟨y,_,D⟩:=Qw D
   rcases Xr D with⟨_,D⟩|⟨_,D⟩
   ·cases D
   obtain⟨b,hb,D⟩:=Qw D
   obtain⟨o,ho,D⟩:=Qw D
   obtain⟨u,hu,D⟩:=Qw D
   obtain⟨_,_,D⟩:=Qw D
   rcases Xr D with⟨_,D⟩|⟨cu,D⟩
   ·cases D
   cases D
   refine⟨hlt,Qr hlt (by omega),by omega,λc hc=>?_⟩
   have hbl:=h3 b (XF (Ys hb).2)
   rw[Qa9]at ho
   have hol:o.length<=1:=by
    rw[<-Option.some.inj ho]
    cases decide (0<=y.1)<;>simp
   rcases Pf hc with rfl | hc
   ·rcases UG b o (by omega)with⟨_,e⟩|⟨_,_,_,e⟩|⟨_,_,r,e,_,_,e2⟩
    ·rw[hu]at e;cases e;simp
    ·rw[hu]at e;cases e;simp
    rw[hu]at e;cases e;show r.length<=_;omega
   have:=h3 c hc;omega
  cases D
 rw[e];rfl
def Qhy {n:Qn}(h:Xd n)(j:RN n){o:Qh}(ho:YQ n o):Fi n o=WA n o:=by
 unfold Fi WA
 obtain⟨r,e1,e2,e3⟩:=Qf3 h j o.Task o.Vars
 rw[e1,e2,Qd,Qd]
 cases hz:(r.2 != 0)with
 | true=>rfl
 | false=>
  obtain⟨hv,e,he,D⟩:=e3 (by simpa using hz)
  rw[Qq,Qq,he,Qd,Qd,ZF h j (h.k.2.2.1.2 e D).2.2.2.2.2.1 (j.i e D) (by have:=ho.2.1;omega) hv]
def Qhz {n:Qn}(h:Xd n)(j:RN n){o:Qh}(ho:YQ n o):An n o=(WH n o.Task o.Vars).bind λx=>bif (x.2 != 0)then some ([],x.2)else(idx n.Tasks o.Task).bind λe=>(XS n e.Outs o.Outs x.1).bind λy=>some (y.1,y.2):=by
 unfold An
 obtain⟨r,e1,e2,e3⟩:=Qf3 h j o.Task o.Vars
 rw[e1,e2,Qd,Qd]
 cases hz:(r.2 != 0)with
 | true=>rfl
 | false=>
  obtain⟨hv,e,he,D⟩:=e3 (by simpa using hz)
  rw[Qq,Qq,he,Qd,Qd,ZF h j (h.k.2.2.1.2 e D).2.2.2.2.2.2.1 (j.o e D) (by have:=ho.2.2;omega) hv]
def Qew {a m:L_ QBg}(h:QO (QO λ_=>True) a)(j:QO (QO λ_=>True) m):BW a m=Ew a m:=by
 unfold BW Ew XK
 cases ((a.length:Int) != (m.length:Int))with
 | true=>rfl
 | false=>
  rw[Qq,Qq]
  have e:(λst=>LA a m st)=λst=>Xb a m st:=by
   funext i
   unfold LA Xb
   cases decide (i<(a.length:Int))with
   | false=>rfl
   | true=>
    rw[Qx,Qx]
    cases D:idx a i with
    | none=>rfl
    | some x=>
     cases hy:idx m i with
     | none=>rfl
     | some y=>
      simp only[Qd]
      rw[PC (h.2 x (XF (Ys D).2)).1 (j.2 y (XF (Ys hy).2)).1]
  rw[e]
  cases Qs (λst=>Xb a m st) 0 with
  | none=>rfl
  | some q=>cases q<;>rfl
def Qdo (a b:L_ Int)(h:a.length<=maxLen):WB a b=some (decide (a=b)):=by
 rw[<-Qht a b h];rfl
def QhA (j h:Int)(row:L_ Int):BV j h row=some (decide (row∈DT j h)):=by
 unfold BV
 obtain⟨e,hx⟩:=Ma j h
 rw[TR,e,Qd]
 generalize DT j h=x at hx
 have mx:(16:Nat)<=maxLen:=by decide
 have hl:=hx.1
 rw[Pd (body:=λst:Int=>DK x row st) (l:=x) (λi=>(i:Int)) (λ_ y=>decide (y=row)) (.inl ()) (.inr ()) (λi y hi hy=>by
  show DK x row i=_
  unfold DK
  rw[QB (by omega),Qx,QR,hy,Qd,Qdo _ _ (by have:=hx.2 y (XF hy);omega),Qd,Qr hi (by omega)]
  cases decide (y=row)<;>rfl) (by
  show DK x row x.length=_
  unfold DK
  rw[QF (by omega),Qq]) (s0:=0) rfl,Qd]
 by_cases D:row∈x
 ·obtain⟨i,hi⟩:=Md.1 D
  have:OC (λ_ y=>decide (y=row)) 0 x=true:=QfL.2 ⟨i,row,hi,by simp⟩
  rw[this,QB D];rfl
 have:OC (λ_ y=>decide (y=row)) 0 x=false:=Qa3.2 λi y hy=>QF λe=>D (e▸XF hy)
 rw[this,QF D];rfl
def QpF {l:L_ Int}(hl:l.length<=maxLen)(k:Int):Se l k=some (decide (k∈l)):=by
 unfold Se
 rw[Pd (body:=λst:Int=>Am l k st) (l:=l) (λi=>(i:Int)) (λ_ y=>y==k) (.inl ()) (.inr ()) (λi y j D=>by
  show Am l k i=_
  unfold Am
  rw[QB (by omega),Qx,QR,D,Qd,Qr j hl]
  cases (y==k)<;>rfl) (by
  show Am l k l.length=_
  unfold Am
  rw[QF (by omega),Qq]) (s0:=0) rfl,Qd]
 by_cases h:k∈l
 ·obtain⟨i,j⟩:=Md.1 h
  have:OC (λ_ y=>y==k) 0 l=true:=QfL.2 ⟨i,k,j,by simp⟩
  rw[this,QB h];rfl
 have:OC (λ_ y=>y==k) 0 l=false:=Qa3.2 λi y D=>by
  have:=XF D
  simp only[beq_eq_false_iff_ne]
  intro e;exact h (e▸this)
 rw[this,QF h];rfl
def QpG {l:L_ Int}(j:l.length<=maxLen)(k:Int):Yh l k=some (decide (k∈l)):=by
 unfold Yh Wz
 rw[Qne (l:=l) (λy=>k==y) (λi x h D=>by
  show YH l k i=_
  unfold YH
  rw[QB (by omega),Qx,QR,D,Qd,Qr h j]
  cases (k==x)<;>rfl) (by
  show YH l k l.length=_
  unfold YH
  rw[QF (by omega),Qq])]
 have e:decide (k∈l)=l.any λy=>k==y:=by
  apply Vf.2
  simp[GX]
 rw[e,<-QoD]
 cases IU (λ_ y=>k==y) 0 l<;>rfl
def chP (h:Nat):Bool:=((Yx 3 h).getD []).all λrow=>(List.range h).all λk=>decide ((k:Int)∈row)||decide (Pz row k=some (Df (row++[(k:Int)])))
def QpH {j:Nat}{row:L_ Int}(h:row∈DT 3 j){k:Nat}(D:k<j)(hn:(k:Int) ∉ row):Pz row k=some (Df (row++[(k:Int)])):=by
 by_cases h4:j<=4
 ·have c:chP j=true:=by
   rcases show j=0\/j=1\/j=2\/j=3\/j=4 by omega with e | e | e | e | e<;>subst e<;>kernel_rfl
  have:=XD.1 (XD.1 c row h) k (Au.2 D)
  rw[QF hn,RM]at this
  exact Xn this
 exfalso
 unfold DT Yx at h
 have:((decide ((j:Int)<0))||((decide ((16:Int)<(j:Int)))||(((3:Int)==3)&&(decide ((4:Int)<(j:Int))))))=true:=by simp;omega
 rw[this]at h
 simp at h
def Qmh {n:Qn}(h:Xd n)(hr:RN n){m:L_ QBg}(hm:QO (QO λ_=>True) m){o:Qh}(ho:YQ n o){e:QL}(he:e∈n.Tasks)(hj:e.Join=3){D:L_ Int}{z:Int}(hv:∀x∈D,Xy x)(hch:o.Ins∈DT e.Join e.Ins.length):
  Qs (λst=>KN e o n (D,z) m st) 0=Qs (λst=>XV (QX.mk n m e D) o.Ins st) 0:=by
 have hi:=(h.tk e he).2.1
 have mx:(1000:Nat)<=maxLen:=by decide
 have hil:=ho.2.1
 rw[hj]at hch
 refine Qc4 (b1:=λst=>KN e o n (D,z) m st) (b2:=λst=>XV (QX.mk n m e D) o.Ins st) e.Ins.length (λi s=>s=(i:Int)) (λi s hI=>?_) (λi s s' hI j=>?_) 0 rfl
 ·subst hI
  show KN e o n (D,z) m i=XV (QX.mk n m e D) o.Ins i
  unfold KN XV
  rw[hj,show((3:Int)==3)=true from rfl,Bool.and_true]
  by_cases hlt:i<e.Ins.length
  ·rw[QB (by omega:(i:Int)<(e.Ins.length:Int)),Qx,Qx,QpF (by omega),QpG (by omega),Qd,Qd]
   by_cases hin:(i:Int)∈o.Ins
   ·rw[QB hin];rfl
   rw[QF hin,Qq,Qq,QpH hch hlt hin,Nq _ (by omega),Qd,Qd,GJ (by simp;omega),Qd,Qba _ (by simp;omega),Qd,GJ (DP _),Qd]
   show(Gu n e.Ins _ D).bind _=_
   rw[ZF h hr (h.k.2.2.1.2 e he).2.2.2.2.2.1 (hr.i e he) (by rw[DP];simp;omega) hv]
   show _=(XS n e.Ins _ D).bind _
   cases hx:XS n e.Ins (Df (o.Ins++[(i:Int)])) D with
   | none=>rfl
   | some x=>
    simp only[Qd]
    have:=GA (Nj n e.Ins _ D h (h.k.2.2.1.2 e he).2.2.2.2.2.1 (by rw[DP];simp;omega)) hx
    unfold TB Ba
    cases hz:(x.2==0)with
    | false=>rfl
    | true=>
     rw[Qx,Qx,Qew ((this (by simpa using hz)).1.len h (by rw[DP];simp;omega)) hm]
     rfl
  rw[QF (by omega:¬(i:Int)<(e.Ins.length:Int))];rfl
 subst hI
 replace j:XV (QX.mk n m e D) o.Ins i=some (.inl s'):=j
 unfold XV at j
 rcases Xr j with⟨c,j⟩|⟨_,j⟩
 ·have hlt:i<e.Ins.length:=by
   have:(i:Int)<(e.Ins.length:Int):=Xn c
   omega
  refine⟨hlt,?_⟩
  have fin:∀s',Kl (i:Int)=some (.inl s')->s'=((i+1:Nat):Int):=λs' h=>by
   unfold Kl at h
   rw[<-Qr (n:=e.Ins.length) hlt (by omega)];cases h;rfl
  obtain⟨_,_,j⟩:=Qw j
  rcases Xr j with⟨_,j⟩|⟨_,j⟩
  ·exact fin s' j
  obtain⟨_,_,j⟩:=Qw j
  obtain⟨_,_,j⟩:=Qw j
  obtain⟨_,_,j⟩:=Qw j
  obtain⟨_,_,j⟩:=Qw j
  obtain⟨_,_,j⟩:=Qw j
  obtain⟨_,_,j⟩:=Qw j
  unfold Bb at j
  rcases Xr j with⟨_,j⟩|⟨_,j⟩
  ·cases j
  exact fin s' j
 cases j
def Qbd {n:Qn}(h:Xd n)(hr:RN n){m:L_ QBg}(hm:QO (QO λ_=>True) m){o:Qh}(ho:YQ n o):Ao n m o=Ye n m o:=by
 have hN:=Qhy h hr ho
 have hG:=Qhz h hr ho
 unfold WA at hN
 unfold Ao Ye YE
 obtain⟨⟨j,z⟩,e1,e2,e3⟩:=Qf3 h hr o.Task o.Vars
 rw[e1]at hN hG
 rw[e1,e2]
 simp only[Qd]at hN hG ⊢
 cases hz:(z != 0)with
 | true=>
  have hz2:(z==0)=false:=by simpa using hz
  rw[Qx,Qx,Qd]
  simp only[hz2,Qq]
  unfold Jg
  rw[hz];rfl
 | false=>
  have hz0:z=0:=by simpa using hz
  obtain⟨hv,e,he,D⟩:=e3 hz0
  rw[hz,Qq,he,Qd]at hN hG
  rw[Qq,Qq,he,Qd,Qd,Qd]
  simp only[show((0:Int)==0)=true from rfl,Qx]
  obtain⟨x,x1,x2,_⟩:=QiZ (h.k.2.2.1.2 e D).2.2.1 (hr.g e D) hv
  unfold Xu
  simp only[x1,x2,Qd]
  cases hx:(x.2 != 0)with
  | true=>
   simp only[Qx,Qd]
   unfold Jg
   rw[hx];rfl
  | false=>
   simp only[Qq]
   cases hx0:(x.1==0)with
   | true=>rfl
   | false=>
    simp only[Qq,Qd]
    unfold Jg Az AA
    simp only[show((0:Int) != 0)=false from rfl,Qq]
    rw[QhA,QhA,Fw,Fw,Qd,Qd,Qd]
    by_cases c1:o.Ins∈DT e.Join e.Ins.length
    ·by_cases c2:o.Outs∈DT e.Split e.Outs.length
     ·rw[QB c1,QB c2]
      simp only[DW,Vh,Qq,Qd]
      rw[hN]
      unfold Xo XN
      show _=(((XS n e.Ins o.Ins j).bind _).bind _:O_ Int)
      have kt:=Nj n e.Ins o.Ins j h (h.k.2.2.1.2 e D).2.2.2.2.2.1 (by have:=ho.2.1;omega)
      obtain⟨T,hT,hT2⟩:=kt
      rw[hT]
      simp only[Qd]
      cases ht:(T.2 != 0)with
      | true=>
       simp only[Qx,Qd,ht]
      | false=>
       simp only[Qq]
       rw[Qew ((hT2 (by simpa using ht)).1.len h (by have:=ho.2.1;omega)) hm]
       obtain⟨w,hw,_⟩:=Qf0 T.1 m ((hT2 (by simpa using ht)).1.len h (by have:=ho.2.1;omega)) hm
       rw[hw]
       simp only[Qd]
       cases w with
       | false=>rfl
       | true=>
        simp only[DW,Qq]
        have fin:UC n o=(XS n e.Outs o.Outs j).bind λx=>some x.2:=by
         unfold UC
         rw[hG]
         cases XS n e.Outs o.Outs j with
         | none=>rfl
         | some y=>rfl
        by_cases hj:e.Join=3
        ·rw[Qmh h hr hm ho D hj hv c1]
         simp only[hj,show((3:Int) != 3)=false from rfl,Qq]
         cases Qs (λst=>XV (QX.mk n m e j) o.Ins st) 0 with
         | none=>rfl
         | some q=>
          rcases q with q | q
          ·rfl
          show UC n o=_
          rw[fin]
          cases XS n e.Outs o.Outs j<;>rfl
        have hjb:(e.Join==3)=false:=by simpa using hj
        have hjn:(e.Join != 3)=true:=by simpa using hj
        simp only[hjn,Qx,Qd,show((0:Int) != 0)=false from rfl,Qq]
        have:Qs (λst=>KN e o n (j,z) m st) 0=some (.inr ()):=by
         refine PE.2 (.done ?_)
         show KN e o n (j,z) m 0=_
         unfold KN
         rw[hjb,Bool.and_false];rfl
        rw[this]
        show UC n o=_
        rw[fin]
        cases XS n e.Outs o.Outs j<;>rfl
     rw[QB c1,QF c2];rfl
    rw[QF c1];rfl
def Qi1 {α β:Type}{l:L_ α}(g:α->L_ β){most:Nat}{body:Int×L_ β->O_ ((Int×L_ β)⊕(L_ β⊕L_ β))}(A:Nat)(hl:l.length<=maxLen)
  (hb:∀(i:Nat) h x,h.length<most->h.length+(g x).length<=A->i<l.length->l[i]? = some x->body ((i:Int),h)=some (match YI most h (g x)with | .inl a=>.inr (.inl a) | .inr a=>.inl (Qj ((i:Int)+1),a)))
  (hf:∀h,body ((l.length:Int),h)=some (.inr (.inr h))) {h:L_ β} (j:h.length<most) (hA:h.length+(l.flatMap g).length<=A):Qs body (0,h)=some (YI most h (l.flatMap g)):=by
 have key:∀(k i:Nat) h,i+k=l.length->h.length<most->h.length+((l.drop i).flatMap g).length<=A->Qs body ((i:Int),h)=some (YI most h ((l.drop i).flatMap g)):=by
  intro k
  induction k with
  | zero=>
   intro i h hk j hA
   obtain rfl:i=l.length:=by omega
   rw[Yz,hf,List.drop_length]
   show _=some (YI most h [])
   rw[Np j];rfl
  | succ k ih=>
   intro i h hk j hA
   have D:i<l.length:=by omega
   rw[Nt D,GY,Ju]at hA
   rw[Yz,hb i h l[i] j (by omega) D (Qy D),Nt D,GY,Qdm]
   cases hx:YI most h (g l[i])with
   | inl a=>rfl
   | inr a=>
    simp only
    show Qs body (Qj ((i:Int)+1),a)=_
    rw[Qr D hl]
    refine ih (i+1) a (by omega) (Qhe hx) ?_
    have:=congrArg List.length (Qdn hx)
    rw[Ju]at this
    omega
 have:=key l.length 0 h (by omega) j (by rw[List.drop_zero];exact hA)
 rwa[List.drop_zero]at this
def QkA (n:Qn)(m:L_ QBg)(o:Qh):Bool:=decide (Ye n m o=some 0)
def Qbe (n:Qn)(m:L_ QBg)(o:Qh):L_ Qh:=if QkA n m o=true then [o]else []
def QkB {α β:Type}(p:α->Bool)(f:α->β):∀l:L_ α,l.flatMap (λx=>if p x=true then [f x]else [])=(l.filter p).map f
 | []=>rfl
 | x::l=>by
  rw[GY,QkB p f l,Mb]
  cases p x<;>rfl
def Ph {α β:Type}{g:α->L_ β}:∀{l:L_ α},(∀x∈l,g x=[])->l.flatMap g=[]
 | [],_=>rfl
 | x::l,h=>by rw[GY,h x XQ,Ph λy j=>h y (Yf _ j)];rfl
def Qbf {α β:Type}{f g:α->L_ β}:∀{l:L_ α},(∀x∈l,f x=g x)->l.flatMap f=l.flatMap g
 | [],_=>rfl
 | x::l,h=>by rw[GY,GY,h x XQ,Qbf λy j=>h y (Yf _ j)]
def Qnj {n:Qn}(h:Xd n){m:L_ QBg}(hm:QO (QO λ_=>True) m){j:Int}{e:QL}(he:idx n.Tasks j=some e){p:L_ Int}(hp:p.length<=20):
  WC n m j (DT e.Join e.Ins.length) (DT e.Split e.Outs.length) p=(DT e.Join e.Ins.length).flatMap λi=>(DT e.Split e.Outs.length).flatMap λk=>Qbe n m (Qh.mk j p i k):=by
 have r1:=(Ma e.Join e.Ins.length).2
 have r2:=(Ma e.Split e.Outs.length).2
 have key:∀i∈DT e.Join e.Ins.length,∀k∈DT e.Split e.Outs.length,(QkA n m (Qh.mk j p i k)=true↔∃b,YE n m j p=some (0,b)/\Xu b=some 0/\Xo b i=some 0/\XN b k=some 0):=λi hi k D=>by
  unfold QkA
  rw[decide_eq_true_iff,Ze h hm ⟨hp,by have:=r1.2 i hi;show i.length<=20;omega,by have:=r2.2 k D;show k.length<=20;omega⟩,Ci]
  constructor
  ·rintro ⟨_,e',he',_,_,_,b,hb⟩;exact⟨b,hb⟩
  rintro ⟨b,b1,b2⟩
  obtain⟨k1,_,_,_,k2,_⟩:=La h b1
  rw[he]at k1
  cases k1
  exact⟨rfl,_,he,k2.1,hi,D,b,b1,b2⟩
 unfold WC Qbe
 cases hb:YE n m j p with
 | none=>
  symm
  refine Ph λi hi=>Ph λk D=>if_neg λc=>?_
  obtain⟨b,b1,_⟩:=(key i hi k D).1 c
  rw[hb]at b1;cases b1
 | some x=>
  obtain⟨c,b⟩:=x
  simp only
  by_cases hc:c=0/\Xu b=some 0
  ·rw[if_pos hc]
   refine Qbf λi hi=>?_
   by_cases ht:Xo b i=some 0
   ·rw[if_pos ht,<-QkB]
    refine Qbf λk D=>?_
    have e:Ca b k=QkA n m (Qh.mk j p i k):=by
     apply Vf.2
     rw[key i hi k D]
     unfold Ca
     rw[decide_eq_true_iff]
     constructor
     ·intro hg;exact⟨b,by rw[hb,hc.1],hc.2,ht,hg⟩
     rintro ⟨b',b1,_,_,b2⟩
     rw[hb]at b1;cases b1;exact b2
    rw[e]
   rw[if_neg ht]
   symm
   refine Ph λk D=>if_neg λc=>?_
   obtain⟨b',b1,_,b2,_⟩:=(key i hi k D).1 c
   rw[hb]at b1;cases b1;exact ht b2
  rw[if_neg hc]
  symm
  refine Ph λi hi=>Ph λk D=>if_neg λc=>?_
  obtain⟨b',b1,b2,_⟩:=(key i hi k D).1 c
  rw[hb]at b1;cases b1;exact hc ⟨rfl,b2⟩
def Qo3 {α:Type}{most:Nat}{j:L_ α}{x:α}(h:j.length<most):YI most j [x]=if most<=j.length+1 then .inl (j++[x])else .inr (j++[x]):=by
 unfold YI
 by_cases c:most<=j.length+1
 ·rw[if_pos c,if_neg (by simp;omega),KE (by simp;omega)]
 rw[if_neg c,if_pos (by simp;omega)]
def Qnk {n:Qn}(h:Xd n)(hr:RN n){m:L_ QBg}(hm:QO (QO λ_=>True) m){j most:Int}{ins outs:L_ (L_ Int)}{p:L_ Int}(hi:Ia ins)(ho:Ia outs)(hp:p.length<=20){D:L_ Qh}(ha:D.length<most.toNat)
  (hs:most<=4294967296\/D.length+(ins.flatMap λi=>outs.flatMap λk=>Qbe n m (Qh.mk j p i k)).length<=4294967296):
  Qs (λst=>WS ins outs p n m j most st.1 st.2) (0,D)=some (YI most.toNat D (ins.flatMap λi=>outs.flatMap λk=>Qbe n m (Qh.mk j p i k))):=by
 have mx:(1000:Nat)<=maxLen:=by decide
 have hi1:=hi.1
 have ho1:=ho.1
 obtain⟨A,hA,hA2⟩:∃A,D.length+(ins.flatMap λi=>outs.flatMap λk=>Qbe n m (Qh.mk j p i k)).length<=A/\(most<=4294967296\/A<=4294967296):=⟨_,JE _,hs⟩
 refine Qi1 (l:=ins) (λi=>outs.flatMap λk=>Qbe n m (Qh.mk j p i k)) (body:=λst:Int×L_ Qh=>WS ins outs p n m j most st.1 st.2) A (by omega) (λi D x h1 h2 hlt hx=>?_) (λD=>?_) ha hA
 ·show WS ins outs p n m j most i D=_
  have hxl:=hi.2 x (XF hx)
  unfold WS
  rw[QB (by omega:(i:Int)<(ins.length:Int)),Qx]
  rw[Qi1 (l:=outs) (λk=>Qbe n m (Qh.mk j p x k)) (body:=λst:Int×L_ Qh=>Gw outs p ins i n m j most st.1 st.2) A (by omega) (λk D y g1 g2 glt gy=>by
   show Gw outs p ins i n m j most k D=_
   have hyl:=ho.2 y (XF gy)
   have hck:∃c,Ye n m (Qh.mk j p x y)=some c:=(Qah n m (Qh.mk j p x y) h hm ⟨hp,by show x.length<=20;omega,by show y.length<=20;omega⟩).tot
   obtain⟨c,hc⟩:=hck
   unfold Gw CH
   rw[QB (by omega:(k:Int)<(outs.length:Int)),Qx,GJ (by simp;omega),Qd,QR,hx,Qd,QR,gy,Qd,Pl,Qbd h hr hm ⟨hp,by show x.length<=20;omega,by show y.length<=20;omega⟩,hc,Qd]
   unfold Qbe QkA at g2 ⊢
   rw[hc]at g2 ⊢
   by_cases hc0:c=0
   ·subst hc0
    rw[if_pos (by simp)]at g2 ⊢
    rw[Qo3 g1]
    simp only[show((0:Int)==0)=true from rfl,Qx]
    rw[FP]at g2
    rw[GJ (by rw[FP];omega),Qd,Ju,FP]
    by_cases hcut:most.toNat<=D.length+1
    ·rw[if_pos hcut,QB (by omega:most<=((D.length+1:Nat):Int))];rfl
    rw[if_neg hcut,QF (by omega:¬most<=((D.length+1:Nat):Int))];rfl
   ·have e1:(c==0)=false:=by simpa using hc0
    rw[if_neg (by simpa using hc0),Np g1,e1];rfl) (λD=>by
   show Gw outs p ins i n m j most outs.length D=_
   unfold Gw
   rw[QF (by omega)];rfl) h1 h2,Qd]
  cases YI most.toNat D (outs.flatMap λk=>Qbe n m (Qh.mk j p x k))<;>rfl
 show WS ins outs p n m j most ins.length D=_
 unfold WS
 rw[QF (by omega)];rfl
def Qnl {n:Qn}(h:Xd n)(j:RN n)(t:QL)(s:Int×L_ Int):Qs (λst=>CI t n st.1 st.2) s=Qs (λst=>Jf t n st.1 st.2) s:=by
 have e:(λst:Int×L_ Int=>CI t n st.1 st.2)=λst=>Jf t n st.1 st.2:=by
  funext st
  unfold CI Jf TC Ct
  simp only[Qnh h.k.1 j.c]
  rfl
 rw[e]
def Qk8 {n:Qn}(h:Xd n)(hr:RN n){m:L_ QBg}(hm:QO (QO λ_=>True) m){D most:Int}(hmost:most<=4294967296\/(XP n m D).length<=4294967296):Ap n m D most=some ((XP n m D).take most.toNat):=by
 have key:Qg (Ap n m D most) λr=>r=(XP n m D).take most.toNat:=by
  unfold Ap
  refine T1 (λhc=>T2 ?_) λhc=>?_
  ·simp only[Kh,QC]at hc
   rcases hc with hc | hc | hc
   ·unfold XP idx
    rw[if_neg (by omega)];simp
   ·unfold XP idx
    rw[if_pos (by omega),Vi (by omega)];simp
   rw[show most.toNat=0 by omega,Qan]
  simp only[Kn,QV]at hc
  refine T0 (T4 (by omega) (by omega)).self λe he=>?_
  have hv:=(h.tk e he.2).1
  refine T0 (T5 (by simp only[QH,QC];omega)) λ_ _=>?_
  obtain⟨c1,r1⟩:=Ma e.Join e.Ins.length
  obtain⟨c2,r2⟩:=Ma e.Split e.Outs.length
  rw[TR,c1,Qd,TR,c2,Qd]
  have hsz:(XE n e).length=e.Vars.length:=by simp[XE]
  have hml:XP n m D=(binds (XE n e)).flatMap (WC n m D (DT e.Join e.Ins.length) (DT e.Split e.Outs.length)):=by
   unfold XP;rw[he.1]
  have hrd:∀p:L_ Int,p.length<=20->WC n m D (DT e.Join e.Ins.length) (DT e.Split e.Outs.length) p=_:=λp hp=>Qnj h hm he.1 hp
  rw[hml]at hmost ⊢
  generalize hrl:WC n m D (DT e.Join e.Ins.length) (DT e.Split e.Outs.length)=rl at hmost hrd ⊢
  refine T0 (QiV (λst:Bool×L_ Int×L_ Qh=>bif st.1 then(YU (XE n e) st.2.1).length+1 else 0)
   (λst=>(st.1=true->st.2.1.length=e.Vars.length/\(∀d∈st.2.1,0<=d/\d<=1024)/\(st.2.2.length:Int)<most/\YI most.toNat st.2.2 ((st.2.1::YU (XE n e) st.2.1).flatMap rl)=YI most.toNat [] ((binds (XE n e)).flatMap rl)/\st.2.2.length+((st.2.1::YU (XE n e) st.2.1).flatMap rl).length=((binds (XE n e)).flatMap rl).length)/\
    (st.1=false->Sum.inr st.2.2=YI most.toNat [] ((binds (XE n e)).flatMap rl)))
   (Q:=λq:L_ Qh⊕L_ Qh=>q=YI most.toNat [] ((binds (XE n e)).flatMap rl)) ⟨λ_=>⟨by simp,λd hd=>by have:=Pk hd;omega,by simp;omega,?_⟩,λh=>(by cases h)⟩ (λst hJ=>?_)) (λq hq=>?_)
  ·show YI most.toNat [] ((List.replicate (e.Vars.length:Int).toNat 0::YU (XE n e) (List.replicate (e.Vars.length:Int).toNat 0)).flatMap rl)=_/\0+((List.replicate (e.Vars.length:Int).toNat 0::YU (XE n e) (List.replicate (e.Vars.length:Int).toNat 0)).flatMap rl).length=_
   rw[ZB (XE n e),Fl,hsz,XH,BA]
   exact⟨rfl,rfl⟩
  ·obtain⟨mo,d,l⟩:=st
   obtain⟨hT,hF⟩:=hJ
   show Qg (LD (DT e.Join e.Ins.length) (DT e.Split e.Outs.length) n m D most e mo d l) _
   unfold LD
   cases mo with
   | false=>exact T2 ⟨λs' e=>(by cases e),λq eq=>(by cases eq;exact hF rfl)⟩
   | true=>
    obtain⟨j1,j2,j3,j4,j5⟩:d.length=e.Vars.length/\(∀d'∈d,0<=d'/\d'<=1024)/\(l.length:Int)<most/\YI most.toNat l ((d::YU (XE n e) d).flatMap rl)=YI most.toNat [] ((binds (XE n e)).flatMap rl)/\l.length+((d::YU (XE n e) d).flatMap rl).length=((binds (XE n e)).flatMap rl).length:=hT rfl
    rw[GY,Ju]at j5
    rw[Qx,Qnk h hr hm r1 r2 (by omega) (by omega) (by rw[<-hrd d (by omega)];omega),<-hrd d (by omega),Qd]
    rw[GY,Qdm]at j4
    cases hrr:YI most.toNat l (rl d)with
    | inl r=>
     rw[hrr]at j4
     exact T2 ⟨λs' e=>(by cases e),λq eq=>(by cases eq;exact j4)⟩
    | inr r=>
     rw[hrr]at j4
     have hacc:=Qhe hrr
     have hlen:=congrArg List.length (Qdn hrr)
     rw[Ju]at hlen
     replace j4:YI most.toNat r ((YU (XE n e) d).flatMap rl)=YI most.toNat [] ((binds (XE n e)).flatMap rl):=j4
     show Qg (LC e n d r) _
     unfold LC
     rw[Qnl h hr]
     refine T0 (QiW e n d h.k j1 hv j2) λq hq=>?_
     obtain⟨a,d2⟩:=q
     obtain⟨⟨q1,q2,q3⟩,q4,q5⟩:(-1<=a/\a<d.length/\d2=d.take (a+1).toNat++List.replicate (d.length-(a+1).toNat) 0)/\(∀(j:Nat) x s,a<(j:Int)->d[j]? = some x->(XE n e)[j]? = some s->¬x+1<s)/\∀x s,0<=a->d[a.toNat]? = some x->(XE n e)[a.toNat]? = some s->x+1<s/\x<1024:=hq
     have hnx:=Qhd (XE n e) d
     show Qg (LB r a d2) _
     unfold LB
     by_cases ha:0<=a
     ·have hlt:a.toNat<d.length:=by omega
      have hls:a.toNat<(XE n e).length:=by omega
      have ed:idx d2 a=some d[a.toNat]:=by
       rw[Wu (by omega),q3,YY (by simp;omega),JQ,if_pos (by omega),Qy hlt]
      rw[QB ha,Qx,ed,Qd,Qd]
      have h9:=q5 _ _ (by omega) (Qy hlt) (Qy hls)
      have h10:=j2 _ (Xs hlt)
      rw[Xv (by omega)]
      have e3:d2.set a.toNat (d[a.toNat]+1)=d.take a.toNat++(d[a.toNat]+1)::List.replicate (d.length-(a.toNat+1)) 0:=by
       rw[q3,show(a+1).toNat=a.toNat+1 by omega,Qf1 hlt]
      rw[e3]
      have hd3:∀x∈d.take a.toNat++(d[a.toNat]+1)::List.replicate (d.length-(a.toNat+1)) 0,0<=x/\x<=1024:=λx hx=>by
       rcases YM.1 hx with hx | hx
       ·exact j2 x (UI hx)
       rcases Yt.1 hx with rfl | hx
       ·omega
       have:=Pk hx;omega
      have hlen2:(d.take a.toNat++(d[a.toNat]+1)::List.replicate (d.length-(a.toNat+1)) 0).length=e.Vars.length:=by simp;omega
      rw[Qld a.toNat (XE n e) d _ _ (by omega) (Qy hlt) (Qy hls) h9.1 λj y z hj=>q4 j y z (by omega)]at hnx
      simp only at hnx
      rw[hnx]at j4
      exact T2 ⟨λs' e'=>(by
       cases e'
       refine⟨?_,λ_=>⟨hlen2,hd3,by show(r.length:Int)<most;omega,j4,by show r.length+(List.flatMap rl (_::_)).length=_;rw[<-hnx];omega⟩,λh=>(by cases h)⟩
       show(YU (XE n e) (d.take a.toNat++(d[a.toNat]+1)::List.replicate (d.length-(a.toNat+1)) 0)).length+1<(YU (XE n e) d).length+1
       rw[hnx,DX];omega),λq e'=>(by cases e')⟩
     rw[QF ha,Qq]
     refine T2 ⟨λs' e'=>(by
      cases e'
      refine⟨?_,(λh=>by cases h),λ_=>?_⟩
      ·show 0<(YU (XE n e) d).length+1
       omega
      rw[QcM (XE n e) d λj x s=>q4 j x s (by omega)]at hnx
      simp only at hnx
      rw[hnx,List.flatMap_nil,Np hacc]at j4
      exact j4),λq e'=>(by cases e')⟩
  rw[<-Qkh (by omega:0<most.toNat),<-hq]
  rcases q with q | q<;>exact T2 rfl
 obtain⟨r,h1,h2⟩:=key
 rw[h1,h2]
def Qmi {n:Qn}(h:Xd n)(hr:RN n){m:L_ QBg}(hm:QO (QO λ_=>True) m){j most:Int}(D:most<=4294967296\/(XP n m j).length<=4294967296):Ap n m j most=BO n m j most:=by
 rw[Qk8 h hr hm D,Qbb n m j most h hm D]
def QkC {n:Qn}(h:Xd n)(hr:RN n){m:L_ QBg}(hm:QO (QO λ_=>True) m){most:Int}(hi:Xy most)(hb:most<=4294967296\/∀k:Nat,(XP n m (k:Int)).length<=4294967296):LV n m most=EU n m most:=by
 unfold LV EU
 have mx:(12:Nat)<=maxLen:=by decide
 have htl:=h.tl
 unfold Xy at hi
 have e:Qs (λst:Int×L_ Qh=>IT n m most st.1 st.2) (0,[])=Qs (λst:Int×L_ Qh=>DR n m most st.1 st.2) (0,[]):=by
  have hms:∀(i:Nat) (l:L_ Qh),(l.length:Int)<=max most 0->Qj (most-(l.length:Int))<=4294967296\/(XP n m (i:Int)).length<=4294967296:=λi l hl=>by
   rcases hb with hb | hb
   ·left
    by_cases h0:0<=most
    ·rw[Xv (by omega)];omega
    rw[Xv (by omega)];omega
   exact .inr (hb i)
  refine Qc4 n.Tasks.length (λi s=>s.1=(i:Int)/\(s.2.length:Int)<=max most 0) (λi s hI=>?_) (λi s s' hI j=>?_) _ ⟨rfl,by simp;omega⟩
  ·obtain⟨x,l⟩:=s
   obtain⟨D,h2⟩:=hI
   replace D:x=(i:Int):=D
   subst D
   replace h2:(l.length:Int)<=max most 0:=h2
   show IT n m most i l=DR n m most i l
   unfold IT DR
   rw[Qmi h hr hm (hms i l h2)]
  obtain⟨x,l⟩:=s
  obtain⟨D,h2⟩:=hI
  replace D:x=(i:Int):=D
  subst D
  replace h2:(l.length:Int)<=max most 0:=h2
  replace j:DR n m most i l=some (.inl s'):=j
  unfold DR at j
  rcases Xr j with⟨c,j⟩|⟨_,j⟩
  ·have hlt:i<n.Tasks.length:=by simpa using c
   rw[Qbb n m i _ h hm (hms i l h2),Qd]at j
   obtain⟨_,_,j⟩:=Qw j
   cases j
   refine⟨hlt,Qr hlt (by omega),?_⟩
   show((l++(XP n m (i:Int)).take (Qj (most-(l.length:Int))).toNat).length:Int)<=_
   have:=List.length_take_le (Qj (most-(l.length:Int))).toNat (XP n m (i:Int))
   rw[Ju]
   by_cases h0:0<=most
   ·rw[Xv (by omega)]at this ⊢;omega
   rw[Xv (by omega)]at this ⊢;omega
  cases j
 rw[e];rfl
def Qc5 {α:Type}(l:L_ α):OC (λ_ _=>false) 0 l=false:=Qa3.2 λ_ _ _=>rfl
def Qnm (b:L_ (Int×Int))(h:b.length<=maxLen):OA b b=some true:=by
 unfold OA
 rw[show((b.length:Int) != (b.length:Int))=false by simp,Qq,Pd (body:=λst=>Eo b b st) (l:=b) (λi=>(i:Int)) (λ_ _=>false) (.inl ()) (.inr ()) (λi x j D=>by
  show Eo b b i=_
  unfold Eo
  rw[QB (by omega),Qx,QR,D,Qd,Qd,Qr j h]
  simp) (by
  show Eo b b b.length=_
  unfold Eo
  rw[QF (by omega),Qq]) (s0:=0) rfl,Qc5]
 rfl
def Qjw {m:L_ QBg}(h:QO (QO λ_=>True) m):CM m m=some true:=by
 unfold CM
 rw[show((m.length:Int) != (m.length:Int))=false by simp,Qq,Pd (body:=λst=>Wt m m st) (l:=m) (λi=>(i:Int)) (λ_ _=>false) (.inl ()) (.inr ()) (λi x D j=>by
  show Wt m m i=_
  unfold Wt
  rw[QB (by omega),Qx,QR,j,Qd,Qd,Qnm x (h.2 x (XF j)).1,Qd,Qr D h.1]
  rfl) (by
  show Wt m m m.length=_
  unfold Wt
  rw[QF (by omega),Qq]) (s0:=0) rfl,Qc5]
 rfl
def Qmj {n:Qn}{l:L_ Qh}(hl:l.length<=maxLen)(h:∀o∈l,YQ n o):Mt l l=some true:=by
 have mx:(20:Nat)<=maxLen:=by decide
 unfold Mt
 rw[show((l.length:Int) != (l.length:Int))=false by simp,Qq,Pd (body:=λst=>Gy l l st) (l:=l) (λi=>(i:Int)) (λ_ _=>false) (.inl ()) (.inr ()) (λi x D j=>by
  show Gy l l i=_
  unfold Gy TK VX VY
  obtain⟨h1,h2,h3⟩:=h x (XF j)
  rw[QB (by omega),Qx,QR,j,Qd,Qd,show(x.Task==x.Task)=true by simp,Qdo _ _ (by omega),Qdo _ _ (by omega),Qdo _ _ (by omega),Qr D hl]
  simp) (by
  show Gy l l l.length=_
  unfold Gy
  rw[QF (by omega),Qq]) (s0:=0) rfl,Qc5]
 rfl
def Qnn {a b:L_ (Int×Int)}(h:a.length+b.length<=4294967290):BX a b=Jh a b:=by
 unfold BX VP VQ
 have ha:a.length<=maxLen:=by unfold maxLen;omega
 have hb:b.length<=maxLen:=by unfold maxLen;omega
 rw[Ic ha,Ic hb,Qd,PC hb ha]
 obtain⟨w,hw,hw2⟩:=AP b a hb ha
 rw[hw]
 rcases Fs a b (by omega)with⟨j,D⟩|⟨j,D,⟨k,h3⟩,h4⟩|⟨j,D,h3,r,h4,h5,h6,h7⟩
 ·rw[D,<-YF,<-YF]at *
  cases ra:Ge (-1) a with
  | false=>rfl
  | true=>
   cases rb:Ge (-1) b with
   | false=>rfl
   | true=>exact absurd ⟨ra,rb⟩ j
 ·rw[YF.2 j,YF.2 D,h4]
  have:w=false:=by
   cases w with
   | false=>rfl
   | true=>have:=(hw2.1 rfl).2.2 k;omega
  rw[this];rfl
 rw[YF.2 j,YF.2 D,hw2.2 ⟨D,j,h3⟩,h4]
 simp only[DW,Qq,Qd,Pl,Ij,BA]
 rw[GJ (by omega),Qd]
 obtain⟨q,hq,hp1,hp2⟩:=Nn (body:=λst:Int×L_ (Int×Int)=>Em b a st.1 st.2) b.length
  (λi s=>s.1=(i:Int)/\Rt s.2/\(∀k,QE s.2 k=QE a k-QE (b.take i) k)/\s.2.length<=a.length+i)
  (λq=>Rt q/\∀k,QE q k=QE a k-QE b k) (λi s hi hI=>by
   obtain⟨x,out⟩:=s
   obtain⟨g1,g2,g3,g4⟩:=hI
   replace g1:x=(i:Int):=g1
   subst g1
   replace g2:Rt out:=g2
   replace g3:∀k,QE out k=QE a k-QE (b.take i) k:=g3
   replace g4:out.length<=a.length+i:=g4
   have hx:b[i]? = some b[i]:=Qy hi
   have hbi:=D.2 _ (Xs hi)
   left
   show ∃s',Em b a i out=_/\_
   unfold Em
   rw[QB (by omega),Qx,QR,hx]
   simp only[Qd]
   have hc:=j.cnt b[i].1
   have hle:=h3 b[i].1
   rw[Gz D.1.nd (Xs hi)]at hle
   rw[Qc3 ha j,Qd,Xv (by omega)]
   obtain⟨r',r1,r2,r3,r4⟩:=Qkx (b:=out) (by omega) g2 (m:=b[i].1) (n:=QE a b[i].1-b[i].2) (by omega) (by omega)
   rw[r1,Qd]
   refine⟨_,rfl,Qr hi hb,r2,λk=>?_,by show r'.length<=_;omega⟩
   show QE r' k=_
   rw[r3,Qky D.1 hi,g3]
   by_cases ek:k=b[i].1
   ·subst ek;rw[if_pos rfl,if_pos rfl]
   ·rw[if_neg ek,if_neg ek]) (λs hI=>by
   obtain⟨x,out⟩:=s
   obtain⟨g1,g2,g3,g4⟩:=hI
   replace g1:x=(b.length:Int):=g1
   subst g1
   rw[FQ]at g3
   refine⟨out,?_,g2,g3⟩
   show Em b a b.length out=_
   unfold Em
   rw[QF (by omega)];rfl) (0,a) ⟨rfl,j,λk=>by simp[QE,QW],by simp⟩
 rw[hq]
 have:q=r:=rt_ext hp1 h5 λk=>by rw[hp2,h6]
 subst this;rfl
def QkD {a b:L_ QBg}{sum:Bool}{how:L_ (Int×Int)->L_ (Int×Int)->O_ (L_ (Int×Int)×Int)}{body:Int×L_ QBg->O_ ((Int×L_ QBg)⊕(Int⊕L_ QBg))}(N:Nat)(hN:N<=100000)(ha:N<=a.length)(hb:N<=b.length)(hab:N=a.length\/N=b.length)
  (hh:∀x∈a,∀y∈b,(bif sum then Be x y else BX x y)=how x y) (ht:∀x∈a,∀y∈b,∃z,how x y=some z)
  (hbody:∀(i:Nat) l,body ((i:Int),l)=bif decide ((i:Int)<(N:Int))then(idx a i).bind λx=>(idx b i).bind λy=>(how x y).bind λz=>(idx l i).bind λ_=>bif (z.2 != 0)then some (.inr (.inl z.2))else some (.inl (Qj ((i:Int)+1),l.set i z.1))else some (.inr (.inr l))):
  Qs (λst:Int×L_ QBg=>En a b sum st.1 st.2) (0,[])=Qs body (0,List.replicate N []):=by
 have mx:(100000:Nat)<=maxLen:=by decide
 obtain⟨r,q,e1,e2,e3⟩:=TS (b1:=λst:Int×L_ QBg=>En a b sum st.1 st.2) (b2:=body) N
  (λi s t=>s.1=(i:Int)/\s.2.length=i/\t=((i:Int),s.2++List.replicate (N-i) [])) (λr q=>r=q) (λi s t hi hI=>by
   obtain⟨x,out⟩:=s
   obtain⟨h1,h2,rfl⟩:=hI
   replace h1:x=(i:Int):=h1
   subst h1
   replace h2:out.length=i:=h2
   show(i<N/\∃s' t',En a b sum i out=_/\body ((i:Int),out++List.replicate (N-i) [])=_/\_)\/∃r q,En a b sum i out=_/\body ((i:Int),out++List.replicate (N-i) [])=_/\_
   rw[hbody]
   unfold En Hr
   by_cases hlt:i<N
   ·have i1:i<a.length:=by omega
    have i2:i<b.length:=by omega
    obtain⟨z,hz⟩:=ht _ (Xs i1) _ (Xs i2)
    have h:=hh _ (Xs i1) _ (Xs i2)
    rw[hz]at h
    have hrep:List.replicate (N-i) ([]:L_ (Int×Int))=[]::List.replicate (N-(i+1)) []:=by
     rw[show N-i=(N-(i+1))+1 by omega];rfl
    rw[QB (by omega:(i:Int)<(a.length:Int)),QB (by omega:(i:Int)<(b.length:Int)),QB (by omega:(i:Int)<(N:Int)),Bool.and_true,Qx,Qx,QR,Qy i1,QR,Qy i2,QR,hrep,Ko (by omega),h2,Nat.sub_self]
    simp only[Qd,hz,List.getElem?_cons_zero]
    have one:(bif sum then(Be a[i] b[i]).bind λj=>bif (j.2 != 0)then some (.inr (.inl j.2))else(chk (decide (i+[j.1].length<=4294967296))).bind λ_=>some (.inl (Qj ((i:Int)+1),out++[j.1]))else(BX a[i] b[i]).bind λD=>bif (D.2 != 0)then some (.inr (.inl D.2))else(chk (decide (i+[D.1].length<=4294967296))).bind λ_=>some (.inl (Qj ((i:Int)+1),out++[D.1])):O_ ((Int×L_ QBg)⊕(Int⊕L_ QBg)))=bif (z.2 != 0)then some (.inr (.inl z.2))else(chk (decide (i+[z.1].length<=4294967296))).bind λ_=>some (.inl (Qj ((i:Int)+1),out++[z.1])):=by
     cases sum with
     | true=>simp only[Qx]at h ⊢;rw[h];rfl
     | false=>simp only[Qq]at h ⊢;rw[h];rfl
    rw[one]
    cases (z.2 != 0)with
    | true=>exact .inr ⟨_,_,rfl,rfl,rfl⟩
    | false=>
     left
     rw[Qq,Qq,GJ (by simp;omega)]
     refine⟨hlt,_,_,rfl,rfl,Qr hlt (by omega),by simp;omega,?_⟩
     rw[Qr hlt (by omega),List.set_append_right _ _ (by omega),h2,Nat.sub_self,WD];rfl
   right
   have hf:(decide ((i:Int)<(a.length:Int))&&decide ((i:Int)<(b.length:Int)))=false:=by
    rcases hab with e | e
    ·rw[QF (by omega:¬(i:Int)<(a.length:Int))];rfl
    rw[QF (by omega:¬(i:Int)<(b.length:Int)),Bool.and_false]
   rw[hf,QF (by omega:¬(i:Int)<(N:Int))]
   exact⟨_,_,rfl,rfl,by rw[show N-i=0 by omega];simp⟩) (0,[]) (0,List.replicate N []) ⟨rfl,rfl,rfl⟩
 rw[e1,e2,e3]
def Qbg (a b:Nat):min2 (a:Int) (b:Int)=((min a b:Nat):Int):=by
 unfold min2;split<;>omega
def Qom {a b:L_ QBg}(hl:a.length<=100000)(h:∀x∈a,∀y∈b,x.length+y.length<=4294967290):UD a b true=JV a b:=by
 unfold UD JV
 rw[Qbg,PA (by simp;omega),Qd,XH]
 rw[QkD (sum:=true) (how:=Je) (body:=λst:Int×L_ QBg=>YR a b st.1 st.2) (min a.length b.length) (by omega) (by omega) (by omega) (by omega) (λx j y D=>Qkz (h x j y D)) (λx j y D=>by
  rcases UG x y (by have:=h x j y D;omega)with⟨_,e⟩|⟨_,_,_,e⟩|⟨_,_,r,e,_⟩<;>exact⟨_,e⟩) (λi l=>by
  show YR a b i l=_
  unfold YR
  rw[Qbg,XH,RQ,XH])]
 cases Qs (λst:Int×L_ QBg=>YR a b st.1 st.2) (0,List.replicate (min a.length b.length) [])with
 | none=>rfl
 | some q=>cases q<;>rfl
def Qno {a b:L_ QBg}(hl:a.length<=100000)(h:∀x∈a,∀y∈b,x.length+y.length<=4294967290):UD a b false=WI a b:=by
 unfold UD WI
 rw[Qbg,PA (by simp;omega),Qd,XH]
 rw[QkD (sum:=false) (how:=Jh) (body:=λst:Int×L_ QBg=>JU a b st.1 st.2) (min a.length b.length) (by omega) (by omega) (by omega) (by omega) (λx j y D=>Qnn (h x j y D)) (λx j y D=>by
  rcases Fs x y (by have:=h x j y D;omega)with⟨_,e⟩|⟨_,_,_,e⟩|⟨_,_,_,r,e,_⟩<;>exact⟨_,e⟩) (λi l=>by
  show JU a b i l=_
  unfold JU
  rw[Qbg,XH,RQ,XH])]
 cases Qs (λst:Int×L_ QBg=>JU a b st.1 st.2) (0,List.replicate (min a.length b.length) [])with
 | none=>rfl
 | some q=>cases q<;>rfl
def Qmk {n:Qn}(h:Xd n){m:L_ QBg}(hm:QO (QO λ_=>True) m){o:Qh}(ho:YQ n o)(hc:Ye n m o=some 0):∃D,WA n o=some (D,0):=by
 obtain⟨_,e,he,_,_,_,b,b1,b2,j,b4⟩:=Ci.1 ((Ze h hm ho).1 hc)
 obtain⟨k1,k2,k3,k4,k5,k6⟩:=La h b1
 unfold WA
 rw[k6,k1]
 unfold Xo at j
 rw[k3]at j
 obtain⟨x,hx,j⟩:=Qw j
 rcases Xr j with⟨c,j⟩|⟨c,_⟩
 ·rw[Option.some.inj j]at c;cases c
 refine⟨x.1,?_⟩
 simp only[Qd,show((0:Int) != 0)=false from rfl,Qq]
 rw[hx]
 have:x.2=0:=by simpa using c
 show some (x.1,x.2)=_
 rw[this]
def Qnp {n:Qn}(h:Xd n)(hr:RN n){c:Nat}(hc:c<=900000){m:L_ QBg}(hm:JP n c m){o:Qh}(ho:YQ n o):Ow n m o=GF n m o:=by
 unfold Ow GF
 have D:=hm.len h (by omega)
 rw[Qbd h hr D ho]
 obtain⟨x,hx,_⟩:=Qah n m o h D ho
 rw[hx,Qd,Qd]
 cases hz:(x != 0)with
 | true=>rfl
 | false=>
  have:x=0:=by simpa using hz
  subst this
  obtain⟨need,j⟩:=Qmk h D ho hx
  have hn:=(GA (Qiz n o h ho) j rfl).1
  rw[Qq,Qq,Qhy h hr ho,j,Qd,Qd]
  simp only[show((0:Int) != 0)=false from rfl,Qq]
  rw[Qno (by have:=hm.1;have:=h.pl;omega) λx hx y hy=>by
   have:=(hm.2 x hx).2
   have:=(hn.2 y hy).2
   omega]
def Qon {n:Qn}(h:Xd n)(D:RN n){o:Qh}(j:YQ n o):An n o=HP n o:=Qhz h D j
def Qk9 (e:QL)(m:L_ QBg):Qs (λst:Int×L_ QBg=>Hs e st.1 st.2) (0,m)=Qs (λst:Int×L_ QBg=>YL e st.1 st.2) (0,m):=by
 have h:(λst:Int×L_ QBg=>Hs e st.1 st.2)=λst=>YL e st.1 st.2:=by
  funext st
  unfold Hs YL VS VT
  cases decide (st.1<(e.Cancel.length:Int))with
  | false=>rfl
  | true=>
   rw[Qx,Qx]
   cases idx e.Cancel st.1 with
   | none=>rfl
   | some k=>
    simp only[Qd]
    cases decide (0<=k)with
    | false=>rfl
    | true=>
     cases decide (k<(st.2.length:Int))with
     | false=>rfl
     | true=>rfl
 rw[h]
def Qml {e:QL}{m q:L_ QBg}{c:Nat}(hc:e.Cancel.length<=16)(hm:∀b∈m,b.length<=c)(h:Qs (λst:Int×L_ QBg=>YL e st.1 st.2) (0,m)=some q):q.length=m.length/\∀b∈q,b.length<=c:=by
 have key:Qg (Qs (λst:Int×L_ QBg=>YL e st.1 st.2) (0,m)) λq=>q.length=m.length/\∀b∈q,b.length<=c:=by
  refine Qg.up e.Cancel.length (λst=>st.1) (λst=>st.2.length=m.length/\∀b∈st.2,b.length<=c) rfl ⟨rfl,hm⟩ (λi st hi hn hJ=>?_)
  obtain⟨x,l⟩:=st
  replace hi:x=(i:Int):=hi
  subst hi
  obtain⟨j1,j2⟩:l.length=m.length/\∀b∈l,b.length<=c:=hJ
  show Qg (YL e i l) _
  unfold YL Da
  refine T1 (λj=>?_) λ_=>T2 (Qp ⟨j1,j2⟩)
  simp only[QC]at j
  have hw:Qj ((i:Int)+1)=((i+1:Nat):Int):=Qr (show i<e.Cancel.length by omega) (by unfold maxLen;omega)
  refine T0 (T4 (by omega) j) λk _=>?_
  refine T1 (λhk=>?_) λ_=>T2 (QG ⟨by omega,hw,j1,j2⟩)
  simp only[QH,QC]at hk
  refine T0 (T4 hk.1 hk.2) λ_ _=>T2 (QG ⟨by omega,hw,by simpa using j1,λb D=>?_⟩)
  rcases Pf D with rfl | D
  ·simp
  exact j2 b D
 exact GA key h
def Qnq {n:Qn}(h:Xd n)(hr:RN n){c:Nat}(hc:c<=900000){m:L_ QBg}(hm:JP n c m){o:Qh}(ho:YQ n o):Oy n m o=Dp n m o:=by
 unfold Oy Dp
 rw[Qon h hr ho]
 obtain⟨x,hx,hx2⟩:=QiA n o h ho
 rw[hx,Qd,Qd]
 cases hz:(x.2 != 0)with
 | true=>rfl
 | false=>
  obtain⟨⟨g1,_⟩,g2,g3⟩:=hx2 (by simpa using hz)
  have hpl:=h.pl
  have hml:=hm.1
  have D:(n.Tasks[o.Task.toNat]'(by omega))∈n.Tasks:=Xs _
  rw[Qq,Qq,GJ (by simp;omega),Qd,OE m (by omega) λb j=>by have:=(hm.2 b j).2;omega,Qd,LY g2 g3,Qd,Qd,Pl,Qk9]
  cases hq:Qs (λst:Int×L_ QBg=>YL (n.Tasks[o.Task.toNat]'(by omega)) st.1 st.2) (0,m)with
  | none=>rfl
  | some q=>
   obtain⟨q1,q2⟩:=Qml (h.tk _ D).2.2.2 (λb j=>(hm.2 b j).2) hq
   rw[Qd,Qd]
   unfold VU Gk
   rw[Qom (by omega) λa ha b j=>by
    have:=q2 a ha
    have:=(g1.2 b j).2
    omega]
def Qo4 {n:Qn}(h:Xd n)(hr:RN n){c:Nat}(hc:c<=800000){m:L_ QBg}(hm:JP n c m){o:Qh}(j:YQ n o):Sf n m o=Wp n m o:=by
 unfold Sf Wp
 rw[Qnp h hr (by omega) hm j]
 obtain⟨x,hx,D⟩:=Qkq n m o c h hm (by omega) j
 rw[hx,Qd,Qd]
 cases hz:(x.2 != 0)with
 | true=>rfl
 | false=>rw[Qq,Qq,Qnq h hr (c:=c+20) (by omega) (D (by simpa using hz)) j]
def UQ : L_ Int->Nat
 | []=>1
 | s::r=>(1+(s-1).toNat)*UQ r
def TU {α β:Type}{f:α->L_ β}{c:Nat}:∀{l:L_ α},(∀x∈l,(f x).length<=c)->(l.flatMap f).length<=l.length*c:=by
 intro l
 induction l with
 | nil=>intro _;simp
 | cons x l D=>
  intro h
  have h1:=D λy j=>h y (Yf _ j)
  have h2:=h x XQ
  rw[GY,Ju,DX,Nat.succ_mul]
  omega
def Qo5 (x:Int)(k:Nat):(upL x k).length=k:=by
 induction k generalizing x with
 | zero=>rfl
 | succ k h=>simp[upL,h]
def Qnr (l:L_ Int):(binds l).length<=UQ l:=by
 induction l with
 | nil=>exact JE _
 | cons s r h=>
  rw[binds,UQ]
  have:=TU (f:=λx=>(binds r).map (x::·)) (c:=UQ r) (l:=0::upL 1 (s-1).toNat) λx _=>by simpa using h
  rw[DX,Qo5]at this
  rwa[Nat.add_comm 1]
def Qns (l:L_ Int)(s:Int):UQ (l++[s])=UQ l*(1+(s-1).toNat):=by
 induction l with
 | nil=>simp[UQ]
 | cons x l h=>simp only[List.cons_append,UQ,h,Nat.mul_assoc]
def Qnt (l:L_ Int):0<UQ l:=by
 induction l with
 | nil=>decide
 | cons s r h=>exact Nat.mul_pos (by omega) h
def Qnu (n:Qn)(m:L_ QBg)(h:Int){j outs:L_ (L_ Int)}(p:L_ Int)(D:j.length<=16)(ho:outs.length<=16):(WC n m h j outs p).length<=256:=by
 unfold WC
 cases YE n m h p with
 | none=>simp
 | some x=>
  obtain⟨c,b⟩:=x
  simp only
  split
  ·refine Jn (TU (c:=16) λe _=>?_) (JL 16 D)
   split
   ·rw[Ii];exact Jn (Qda _ _) ho
   simp
  simp
def Bd (n:Qn):Prop:=∀t∈n.Tasks,(0:Int)∈XE n t\/UQ (XE n t)<=1024
def Qi2 {n:Qn}(m:L_ QBg)(j:Int)(h:Xd n)(hb:Bd n):(XP n m j).length<=262144:=by
 by_cases e0:XP n m j=[]
 ·rw[e0];simp
 obtain⟨o,ho⟩:=List.exists_mem_of_ne_nil _ e0
 obtain⟨_,e,he,_,_,_,b,D,_⟩:=Ci.1 ho
 obtain⟨k1,k2,_,_,k3,_⟩:=La h D
 rw[he]at k1;cases k1
 unfold XP
 rw[he]
 simp only
 refine Jn (TU (c:=256) λp _=>Qnu n m j p (Ma _ _).2.1 (Ma _ _).2.1) ?_
 have h1:=Qnr (XE n b.task)
 rcases hb _ k2 with h2 | h2
 ·have:=k3.2 0 h2;omega
 omega
def Qlm {n:Qn}(m:L_ QBg)(h:Xd n)(j:Bd n):(GB n m).length<=4194304:=by
 unfold GB
 refine Jn (TU (c:=262144) λk _=>Qi2 m _ h j) ?_
 have:=h.tl
 rw[Vj];omega
def Qmm (n:Qn)(k:Int)(t:QL)(b:Int)(h:Xd n)(ht:idx n.Tasks k=some t)(htm:t∈n.Tasks)(hb:WJ n k=some b)(hle:b<=1024):(0:Int)∈XE n t\/UQ (XE n t)<=1024:=by
 have hv:=(h.tk t htm).1
 have hsz:(XE n t).length=t.Vars.length:=by simp[XE]
 have ha:Jl n.Tasks k=some true:=by
  unfold Jl
  unfold idx at ht
  split at ht
  ·have:=(Xe.1 ht).1
   rw[QB (by omega),QB (by omega)];rfl
  cases ht
 have key:Qg (WJ n k) λb=>b<=1024->(0:Int)∈XE n t\/UQ (XE n t)<=1024:=by
  unfold WJ
  rw[ha,Qd]
  simp only[DW,Qq]
  rw[ht,Qd]
  refine T0 (Qg.up t.Vars.length (λst=>st.2) (λst=>st.1=min ((UQ ((XE n t).take st.2.toNat):Nat):Int) 1025) (Q:=λq:Unit⊕Int=>(q=.inl ()->(0:Int)∈XE n t)/\∀o,q=.inr o->o=min ((UQ (XE n t):Nat):Int) 1025) rfl (by show(1:Int)=min ((1:Nat):Int) 1025;omega) (λi st hi hn D=>?_)) (λq hq=>?_)
  ·obtain⟨out,x⟩:=st
   replace hi:x=(i:Int):=hi
   subst hi
   replace D:out=min ((UQ ((XE n t).take (i:Int).toNat):Nat):Int) 1025:=D
   rw[XH]at D
   show Qg (Ux t n out i) _
   unfold Ux
   refine T1 (λhc=>?_) (λhc=>T2 (Qp ⟨λe=>(by cases e),λo e=>?_⟩))
   ·simp only[QC]at hc
    have i1:i<t.Vars.length:=by omega
    rw[QR,Qy i1,Qd]
    refine T0 (Wq _ _ h.k.1).self λz hz=>?_
    obtain⟨hze,hz⟩:=hz
    have hs:(XE n t)[i]? = some z:=by
     unfold XE
     rw[Ya,Qy i1,WU,hze];rfl
    refine T1 (λj=>T2 (Qp ⟨λ_=>?_,λo e=>by cases e⟩)) λj=>?_
    ·simp only[beq_iff_eq]at j
     subst j
     exact XF hs
    simp only[beq_eq_false_iff_ne]at j
    have hw:Qj ((i:Int)+1)=((i+1:Nat):Int):=Qr i1 (by unfold maxLen;omega:t.Vars.length<=maxLen)
    refine T2 (QG ⟨i1,hw,?_⟩)
    show min2 (Qj (out*z)) 1025=min ((UQ ((XE n t).take (Qj ((i:Int)+1)).toNat):Nat):Int) 1025
    rw[hw,XH,GZ,hs]
    show _=min ((UQ ((XE n t).take i++[z]):Nat):Int) 1025
    rw[Qns]
    have hp:=Qnt ((XE n t).take i)
    generalize UQ ((XE n t).take i)=P at D hp ⊢
    obtain⟨Z,rfl⟩:∃Z:Nat,z=(Z:Int):=⟨z.toNat,by omega⟩
    rw[show 1+((Z:Int)-1).toNat=Z by omega]
    have hZ:0<Z:=by omega
    have h1:(P:Int)*(Z:Int)=((P*Z:Nat):Int):=by simp
    by_cases c:P<=1025
    ·have:out=(P:Int):=by rw[D];omega
     rw[this,h1]
     have h2:P*Z<=1025*1024:=Nat.mul_le_mul c (by omega)
     rw[Xv (by omega)]
     unfold min2;split<;>omega
    have:out=1025:=by rw[D];omega
    have h2:P<=P*Z:=Nat.le_mul_of_pos_right P hZ
    rw[this,Xv (by omega)]
    unfold min2;split<;>omega
   cases e
   simp only[QV]at hc
   rw[D,KE (by omega)]
  rcases q with q | q
  ·exact T2 λ_=>.inl (hq.1 rfl)
  refine T2 λhl=>.inr ?_
  have:=hq.2 q rfl
  omega
 exact GA key hb hle
def Qmn (n1:Qn)(k2:Int)(h:Kg n1 k2=some 0):∃b,WJ n1 k2=some b/\b<=1024:=by
 unfold Kg at h
 obtain⟨x5,_,h⟩:=Qw h
 rcases Xr h with⟨_,h⟩|⟨_,h⟩
 ·cases h
 obtain⟨x7,_,h⟩:=Qw h
 rcases Xr h with⟨c,h⟩|⟨_,h⟩
 ·simp only[Option.some.injEq]at h;rw[h]at c;cases c
 obtain⟨e9,he9,h⟩:=Qw h
 obtain⟨e10,he10,h⟩:=Qw h
 obtain⟨_,_,h⟩:=Qw h
 obtain⟨_,_,h⟩:=Qw h
 obtain⟨_,_,h⟩:=Qw h
 obtain⟨_,_,h⟩:=Qw h
 obtain⟨x15,j,h⟩:=Qw h
 have bad:∀a b:Int,0<a->x15=(a,b)->False:=λa b ha e=>by
  subst e
  simp only at h
  rcases Xr h with⟨c,h⟩|⟨_,h⟩
  ·simp only[beq_iff_eq]at c;omega
  simp only[Option.some.injEq]at h;omega
 unfold Gl at j
 obtain⟨x20,_,j⟩:=Qw j
 rcases Xr j with⟨_,j⟩|⟨_,j⟩
 ·exact(bad _ _ (by decide) (Option.some.inj j).symm).elim
 obtain⟨x22,_,j⟩:=Qw j
 rcases Xr j with⟨_,j⟩|⟨_,j⟩
 ·exact(bad _ _ (by decide) (Option.some.inj j).symm).elim
 obtain⟨x24,h24,j⟩:=Qw j
 rcases Xr j with⟨_,j⟩|⟨c,j⟩
 ·exact(bad _ _ (by decide) (Option.some.inj j).symm).elim
 obtain⟨x26,D,j⟩:=Qw j
 rcases Xr j with⟨c2,j⟩|⟨_,j⟩
 ·have e:=(Option.some.inj j).symm
  subst e
  simp only at h
  rcases Xr h with⟨_,h⟩|⟨c3,_⟩
  ·simp only[Option.some.injEq]at h
   unfold AD at D
   obtain⟨y,_,D⟩:=Qw D
   simp only[Option.some.injEq]at D
   rw[<-D]at c2 h
   simp only at h
   subst h
   cases c2
  cases c3
 obtain⟨x28,h28,j⟩:=Qw j
 rcases Xr j with⟨_,j⟩|⟨c4,j⟩
 ·exact(bad _ _ (by decide) (Option.some.inj j).symm).elim
 unfold BR at h28
 obtain⟨b,hb,h28⟩:=Qw h28
 simp only[Option.some.injEq]at h28
 rw[<-h28]at c4
 exact⟨b,hb,by simpa using c4⟩
def QpI (n1:Qn)(h:Xd n1){p:Ec}(D:GH n1=some (0,p)):Bd n1:=by
 unfold GH at D
 obtain⟨x6,_,D⟩:=Qw D
 rcases Xr D with⟨c,D⟩|⟨_,D⟩
 ·simp only[Option.some.injEq,Prod.mk.injEq]at D;rw[D.1]at c;cases c
 obtain⟨x8,_,D⟩:=Qw D
 rcases Xr D with⟨c,D⟩|⟨_,D⟩
 ·simp only[Option.some.injEq,Prod.mk.injEq]at D;rw[D.1]at c;cases c
 obtain⟨x10,_,D⟩:=Qw D
 rcases Xr D with⟨c,D⟩|⟨_,D⟩
 ·simp only[Option.some.injEq,Prod.mk.injEq]at D;rw[D.1]at c;cases c
 obtain⟨x12,h12,D⟩:=Qw D
 rcases Xr D with⟨c,D⟩|⟨c,D⟩
 ·simp only[Option.some.injEq,Prod.mk.injEq]at D;rw[D.1]at c;cases c
 simp only[KI]at c
 obtain⟨r,hr,hr2⟩:=Qev n1.Tasks n1 h.k h.k.2.2.1
 rw[h12]at hr;cases hr
 intro t ht
 have htm:=ht
 obtain⟨j,hj,rfl⟩:=Nv.1 ht
 obtain⟨b,hb,hb2⟩:=Qmn n1 j (hr2 c j hj)
 exact Qmm n1 j _ b h (by rw[QR,Qy hj]) htm hb hb2
def Qo6 (n1:Qn)(m:L_ QBg)(h:Xd n1)(j:GS n1 m=some true):Bd n1:=by
 unfold GS at j
 obtain⟨x5,_,j⟩:=Qw j
 obtain⟨x6,_,j⟩:=Qw j
 rcases Xr j with⟨_,j⟩|⟨_,j⟩
 ·cases j
 obtain⟨x11,h11,j⟩:=Qw j
 obtain⟨x12,D,j⟩:=Qw j
 unfold Hk at j
 rcases Xr j with⟨_,j⟩|⟨c,_⟩
 ·cases j
 subst c
 unfold Hj at D
 rcases Xr D with⟨_,D⟩|⟨c,_⟩
 ·cases D
 simp only[KI]at c
 obtain⟨a,b⟩:=x11
 simp only at c
 subst c
 exact QpI n1 h h11
def Yr (n:Qn)(m:L_ Bag):Prop:=JP n 1024 m/\Hv n m
def Yr.len {n:Qn}{m:L_ Bag}(j:Yr n m)(h:Xd n):QO (QO λ_=>True) m:=j.1.len h (by omega)
def Qoo {n:Qn}{m:L_ Bag}{c:Nat}(h:Xd n)(hm:JP n c m)(hl:Hv n m):Yr n m:=by
 refine⟨⟨hm.1,λb hb=>?_⟩,hl⟩
 have hr:=(hm.2 b hb).1
 refine⟨hr,?_⟩
 obtain⟨j,hj,rfl⟩:=Nv.1 hb
 have hj2:j<n.Places.length:=by have:=hm.1;omega
 by_cases c0:(m[j]).length=0
 ·omega
 have D:(m[j]).length-1<(m[j]).length:=by omega
 have h1:=Qlf hr.1 (a:=0) (λp hp=>(hr.2 p hp).1) ((m[j]).length-1) D
 have h2:=Gz hr.1.nd (Xs D)
 have h3:=(hr.2 _ (Xs D)).2.1
 obtain⟨z,hz,hk⟩:=hl j _ _ (Qy hj) (Qy hj2) _ (by rw[h2];omega)
 have:=GA (Wq _ _ h.k.1) hz
 omega
def QiD {n:Qn}{m x:L_ Bag}{o:Qh}(h:Xd n)(hg:Yr n m)(ho:YQ n o)(hD:Wp n m o=some (x,0)):Yr n x:=by
 obtain⟨hm,hl⟩:=hg
 have hpl:=h.pl
 have hm1:=hm.1
 have hx:=GA (Qog n m o 1024 h hm (by omega) ho) hD rfl
 obtain⟨t,hT,hG⟩:=Qoh hD
 obtain⟨hCk,need,hN,hL⟩:=Ql8 hT
 obtain⟨hnd,hndl⟩:=GA (Qiz n o h ho) hN rfl
 have ht:=GA (Qkq n m o 1024 h hm (by omega) ho) hT rfl
 obtain⟨_,eL⟩:=(GA (Qk3 n m need 1024 20 h hm hnd (by omega)) hL).1 rfl
 have htl:Hv n t:=λj b p hb hp k hk=>by
  have hj:=(Xe.1 hp).1
  obtain⟨a,ha,ha1,ha2⟩:=QjE hm hj
  obtain⟨u,hu,hu1,hu2⟩:=QjE hnd hj
  obtain⟨p',D,hp2⟩:=eL j a u ha hu
  have D:t[j]? = some p':=D
  rw[hb]at D;cases D
  have q:=QoX (by omega) hp2
  have:=hu1.cnt k
  have:=q.2.2.2.2 k
  exact hl j a p ha hp k (by omega)
 exact Qoo h hx (GA (Qoi n t o (1024+20) h ht htl (by omega) ho) hG rfl)
def XI : Nat->Int->L_ Int
 | 0,_=>[]
 | k+1,x=>IntKind.u8.wrap (YW .i64 x (Qj (8*(k:Int))))::XI k x
def Kb (k:Nat)(x:Int):(XI k x).length=k:=by
 induction k with
 | zero=>rfl
 | succ k h=>simp[XI,h]
def QiE {α β:Type}{f:α->L_ β}{c:Nat}:∀{l:L_ α},(∀x∈l,(f x).length=c)->(l.flatMap f).length=l.length*c:=by
 intro l
 induction l with
 | nil=>intro _;simp
 | cons x l D=>
  intro h
  have h1:=D λy j=>h y (Yf _ j)
  have h2:=h x XQ
  rw[GY,Ju,DX,Nat.succ_mul]
  omega
def Qop (e:Int)(h:Nat)(j:L_ Int)(hs:h<=8)(hl:j.length+h<=4294967296):Qs (λst=>Uq e st.1 st.2) ((Qj ((h:Int)-1)),j)=some (j++XI h e):=by
 obtain⟨r,h1,h2⟩:=(Qg.up (body:=λst:Int×L_ Int=>Uq e st.1 st.2) h (λst=>(h:Int)-1-st.1) (λst=>-1<=st.1/\st.2.length+(st.1+1).toNat=j.length+h/\st.2++XI (st.1+1).toNat e=j++XI h e) (Q:=λq:L_ Int=>q=j++XI h e) (s0:=((Qj ((h:Int)-1)),j))
  (by show(h:Int)-1-Qj ((h:Int)-1)=0;rw[Xv (by omega)];omega) (by
   show -1<=Qj ((h:Int)-1)/\j.length+(Qj ((h:Int)-1)+1).toNat=_/\j++XI (Qj ((h:Int)-1)+1).toNat e=_
   rw[Xv (by omega),show((h:Int)-1+1).toNat=h by omega]
   exact⟨by omega,rfl,rfl⟩) (λi st hi hn hJ=>by
   obtain⟨k,l⟩:=st
   replace hi:(h:Int)-1-k=(i:Int):=hi
   obtain⟨j0,j1,j2⟩:-1<=k/\l.length+(k+1).toNat=j.length+h/\l++XI (k+1).toNat e=j++XI h e:=hJ
   show Qg (Uq e k l) _
   unfold Uq
   refine T1 (λhc=>?_) (λhc=>T2 (Qp ?_))
   ·simp only[QC]at hc
    have hw:Qj (8*k)=8*k:=Xv (by omega)
    have D:Qj (k-1)=k-1:=Xv (by omega)
    have e1:(k+1).toNat=k.toNat+1:=by omega
    refine T0 (T5 (by rw[hw];simp only[QC];omega)) λ_ _=>?_
    refine T0 (T5 (by simp;omega)) λ_ _=>?_
    refine T2 (QG ⟨by omega,by show(h:Int)-1-Qj (k-1)=_;rw[D];omega,?_⟩)
    show -1<=Qj (k-1)/\(l++[_]).length+(Qj (k-1)+1).toNat=_/\(l++[_])++XI (Qj (k-1)+1).toNat e=_
    rw[D,show(k-1+1).toNat=k.toNat by omega]
    rw[e1,XI,show((k.toNat:Nat):Int)=k by omega]at j2
    refine⟨by omega,by simp;omega,?_⟩
    rw[WD];exact j2
   simp only[QV]at hc
   rw[show(k+1).toNat=0 by omega,XI,Qal]at j2
   exact j2))
 rw[h1,h2]
def QkE (j:L_ Int)(h:Nat)(l:L_ Int)(hs:h<=8)(hl:j.length+8*l.length<=4294967296):Af j h l=some (j++l.flatMap (XI h)):=by
 unfold Af
 obtain⟨r,h1,h2⟩:=(Qg.up (body:=λst:Int×L_ Int=>Cn l h st.1 st.2) l.length (λst=>st.1) (λst=>st.2=j++(l.take st.1.toNat).flatMap (XI h)) (Q:=λq:L_ Int=>q=j++l.flatMap (XI h)) (s0:=((0:Int),j)) rfl (by simp) (λi st hi hn D=>by
  obtain⟨x,a⟩:=st
  replace hi:x=(i:Int):=hi
  subst hi
  replace D:a=j++(l.take (i:Int).toNat).flatMap (XI h):=D
  rw[XH]at D
  show Qg (Cn l h i a) _
  unfold Cn
  refine T1 (λhc=>?_) (λhc=>T2 (Qp ?_))
  ·simp only[QC]at hc
   have i1:i<l.length:=by omega
   have hlen:a.length=j.length+i*h:=by
    rw[D,Ju,QiE (c:=h) λx _=>Kb h x,Wm,LG (by omega)]
   have hm:i*h<=i*8:=Nat.mul_le_mul_left i hs
   rw[QR,Qy i1,Qd,Qop _ h a hs (by omega),Qd]
   unfold SL
   have hw:Qj ((i:Int)+1)=((i+1:Nat):Int):=Qr i1 (by unfold maxLen;omega:l.length<=maxLen)
   refine T2 (QG ⟨i1,hw,?_⟩)
   show a++XI h l[i]=j++(l.take (Qj ((i:Int)+1)).toNat).flatMap (XI h)
   rw[hw,XH,GZ,Qy i1,D,Qc7,WD]
   simp
  simp only[QV]at hc
  rw[D,KE (by omega)]))
 rw[h1,h2];rfl
def Qo7 (h:Nat)(l:L_ Int):PX h l=Af [] h l:=rfl
def OF (b:Bag):L_ Int:=XI 2 b.length++b.flatMap λp=>XI 4 p.1++XI 4 p.2
def Qdp (m:L_ Bag):L_ Int:=XI 1 m.length++m.flatMap OF
def Qf4 (b:Bag):(OF b).length=2+8*b.length:=by
 unfold OF
 rw[Ju,Kb,QiE (c:=8) λx _=>by simp[Kb]]
 omega
def Qnv {n:Qn}{m:L_ Bag}(h:Xd n)(hg:Yr n m)(hml:m.length<=64):CY m=some (Qdp m,0):=by
 unfold CY
 rw[QF (by omega),Qq,show(1:Int)=((1:Nat):Int)from rfl,Qo7,QkE [] 1 _ (by omega) (by simp),Qd]
 have hb:∀b∈m,Rt b/\b.length<=1024:=hg.1.2
 have hmem:∀b∈m,∀p∈b,p.1<=1024:=λb hb' p hp=>by
  obtain⟨j,hj,rfl⟩:=Nv.1 hb'
  have hj2:j<n.Places.length:=by have:=hg.1.1;omega
  have hr:=(hb _ hb').1
  have h2:=Gz hr.1.nd hp
  have h3:=(hr.2 _ hp).2.1
  obtain⟨z,hz,hk⟩:=hg.2 j _ _ (Qy hj) (Qy hj2) p.1 (by rw[h2];omega)
  have:=GA (Wq _ _ h.k.1) hz
  omega
 have lens:∀i,i<=m.length->((m.take i).flatMap OF).length<=i*8194:=λi hi=>by
  have:=TU (f:=OF) (c:=8194) (l:=m.take i) λb hb'=>by
   have:=(hb b (UI hb')).2
   rw[Qf4];omega
  rw[Wm,LG hi]at this
  exact this
 obtain⟨r,h1,h2⟩:=(Qg.up (body:=λst:Int×L_ Int=>Cp m st.1 st.2) m.length (λst=>st.1) (λst=>st.2=XI 1 m.length++(m.take st.1.toNat).flatMap OF) (Q:=λq:Unit⊕L_ Int=>q=.inr (Qdp m)) (s0:=((0:Int),[]++[(m.length:Int)].flatMap (XI 1))) rfl (by simp) (λi st hi hn hJ=>by
  obtain⟨x,a⟩:=st
  replace hi:x=(i:Int):=hi
  subst hi
  replace hJ:a=XI 1 m.length++(m.take (i:Int).toNat).flatMap OF:=hJ
  rw[XH]at hJ
  show Qg (Cp m i a) _
  unfold Cp
  refine T1 (λhc=>?_) (λhc=>T2 (Qp ?_))
  ·simp only[QC]at hc
   have i1:i<m.length:=by omega
   have hbm:=Xs i1
   have hr:=(hb _ hbm).1
   have hrl:=(hb _ hbm).2
   have hal:a.length<=1+i*8194:=by
    have:=lens i (by omega)
    rw[hJ,Ju,Kb];omega
   rw[QR,Qy i1,Qd]
   have g1:MB m[i]=some false:=by
    unfold MB
    rw[TP _ (by unfold maxLen;omega),Qd,YF.2 hr]
    simp only[DW,Qq]
    rw[QF (by omega),Qq]
    by_cases c0:(m[i]).length=0
    ·rw[QF (by omega)];rfl
    have D:(m[i]).length-1<(m[i]).length:=by omega
    rw[QB (by omega),Qx,Xv (by omega),show((m[i]).length:Int)-1=(((m[i]).length-1:Nat):Int) by omega,QR,Qy D,Qd]
    have:=hmem _ hbm _ (Xs D)
    rw[QF (by omega)]
   rw[g1,Qd]
   unfold SO
   rw[Qq,show(2:Int)=((2:Nat):Int)from rfl,QkE a 2 _ (by omega) (by simp;omega),Qd]
   have inner:Qg (Qs (λst=>Co m[i] st.1 st.2) ((0:Int),a++[((m[i]).length:Int)].flatMap (XI 2))) λq:L_ Int=>q=a++OF m[i]:=by
    refine Qg.up (m[i]).length (λst=>st.1) (λst=>st.2=a++(XI 2 (m[i]).length++((m[i]).take st.1.toNat).flatMap λp=>XI 4 p.1++XI 4 p.2)) rfl (by simp) (λk st hk hn2 hK=>?_)
    obtain⟨x,c⟩:=st
    replace hk:x=(k:Int):=hk
    subst hk
    replace hK:c=a++(XI 2 (m[i]).length++((m[i]).take (k:Int).toNat).flatMap λp=>XI 4 p.1++XI 4 p.2):=hK
    rw[XH]at hK
    show Qg (Co m[i] k c) _
    unfold Co
    refine T1 (λhc2=>?_) (λhc2=>T2 (Qp ?_))
    ·simp only[QC]at hc2
     have k1:k<(m[i]).length:=by omega
     have hcl:c.length=a.length+2+k*8:=by
      rw[hK,Ju,Ju,Kb,QiE (c:=8) λx _=>by simp[Kb],Wm,LG (by omega)];omega
     rw[QR,Qy k1,Qd,show(4:Int)=((4:Nat):Int)from rfl,QkE c 4 _ (by omega) (by simp;omega),Qd]
     have hw:Qj ((k:Int)+1)=((k+1:Nat):Int):=Qr k1 (by unfold maxLen;omega:(m[i]).length<=maxLen)
     refine T2 (QG ⟨k1,hw,?_⟩)
     show c++[(m[i])[k].1,(m[i])[k].2].flatMap (XI 4)=a++(XI 2 (m[i]).length++((m[i]).take (Qj ((k:Int)+1)).toNat).flatMap λp=>XI 4 p.1++XI 4 p.2)
     rw[hw,XH,GZ,Qy k1,hK,Qc7]
     simp
    simp only[QV]at hc2
    rw[hK,KE (by omega)];rfl
   obtain⟨q,hq1,rfl⟩:=inner
   rw[hq1,Qd]
   unfold SN
   have hw:Qj ((i:Int)+1)=((i+1:Nat):Int):=Qr i1 (by unfold maxLen;omega:m.length<=maxLen)
   refine T2 (QG ⟨i1,hw,?_⟩)
   show a++OF m[i]=XI 1 m.length++(m.take (Qj ((i:Int)+1)).toNat).flatMap OF
   rw[hw,XH,GZ,Qy i1,hJ,Qc7,WD]
   simp
  simp only[QV]at hc
  rw[hJ,KE (by omega)];rfl))
 rw[h1,h2];rfl
def XR (m:L_ Bag):ByteArray:=Mg (if m.length<=64 then Qdp m else [])
def QkF {n:Qn}{m:L_ Bag}(h:Xd n)(j:Yr n m):BI m=some (XR m):=by
 unfold BI XR
 by_cases c:m.length<=64
 ·rw[Qnv h j c,if_pos c];rfl
 rw[if_neg c]
 unfold CY
 rw[QB (by omega)];rfl
def Kw (n:Qn)(w:Int)(x:L_ Bag)(o:Qh):O_ (L_ Bag):=if o.Task=w then none else match Wp n x o with
 | some (y,c)=>if c=0 then some y else none
 | none=>none
def AQ (n:Qn)(w:Int)(x:L_ Bag):L_ (L_ Bag):=(GB n x).filterMap (Kw n w x)
def Qnw {n:Qn}{w:Int}{x y:L_ Bag}{o:Qh}(h:Kw n w x o=some y):o.Task≠w/\Wp n x o=some (y,0):=by
 unfold Kw at h
 split at h
 ·cases h
 rename_i c
 refine⟨c,?_⟩
 cases e:Wp n x o with
 | none=>rw[e]at h;cases h
 | some r=>
  obtain⟨a,b⟩:=r
  rw[e]at h
  simp only at h
  split at h
  ·rename_i j;cases h;rw[j]
  cases h
def Qnx {n:Qn}{w:Int}{x:L_ Bag}(h:Xd n)(j:Yr n x):∀y∈AQ n w x,Yr n y:=λy hy=>by
 obtain⟨o,ho,D⟩:=List.mem_filterMap.1 hy
 exact QiD h j (Qhu h (j.len h) ho) (Qnw D).2
def FM (mm:L_ (ByteArray×Bool))(l:L_ (L_ Bag)):Prop:=∀k,(QW mm k).getD false=l.any λy=>decide (XR y=k)
def FM.add {mm:L_ (ByteArray×Bool)}{l:L_ (L_ Bag)}(h:FM mm l)(x:L_ Bag):FM (Ja Rm mm (XR x) true) (l++[x]):=λk=>by
 rw[AM,List.any_append]
 by_cases c:k=XR x
 ·subst c
  rw[if_pos rfl]
  simp
 rw[if_neg c,h k]
 have:decide (XR x=k)=false:=QF λe=>c e.symm
 simp[this]
def QS (budget:Int):Nat:=(min2 (max2 0 budget) 4096).toNat
def Sm (budget:Int):(QS budget:Int)=min2 (max2 0 budget) 4096/\QS budget<=4096:=by
 unfold QS min2 max2
 split<;>split<;>omega
def UH (n:Qn)(w budget:Int)(m:L_ Bag):L_ (L_ Bag)×Bool:=if QS budget=0 then([],false)else Gf XR (AQ n w) (QS budget) (QS budget+1) [m] 0
def QhB {n:Qn}{m:L_ Bag}(w budget:Int)(h:Xd n)(hb:Bd n)(hg:Yr n m):Ui n m w budget=some (UH n w budget m):=by
 have hm:=Sm budget
 have hpl:=h.pl
 unfold Ui UH
 by_cases c0:QS budget=0
 ·rw[if_pos c0,show(min2 (max2 0 budget) 4096==0)=true by rw[<-hm.1,c0];rfl];rfl
 rw[if_neg c0,show(min2 (max2 0 budget) 4096==0)=false by simp;omega]
 simp only[Qq]
 have hm1:=hg.1.1
 rw[QkF h hg,Qd,OE m (by omega) (λb hb=>by have:=(hg.1.2 b hb).2;omega),Qd]
 generalize hR:Gf XR (AQ n w) (QS budget) (QS budget+1) [m] 0=R
 have main:Qg (Qs (λst=>Br n w budget st.1 st.2.1 st.2.2) ((0:Int),(Ja Rm ([]:QSB) (XR m) true),[m])) λq:L_ (L_ Bag)⊕L_ (L_ Bag)=>(∀l,q=.inl l->R=(l,false))/\∀l,q=.inr l->R=(l,true):=by
  refine Qg.up (QS budget) (λst=>st.1) (λst=>FM st.2.1 st.2.2/\(∀x∈st.2.2,Yr n x)/\st.2.2.length<=QS budget/\Gf XR (AQ n w) (QS budget) (QS budget+1-st.1.toNat) st.2.2 st.1.toNat=R) rfl ⟨?_,?_,?_,hR⟩ (λi st hi hn hJ=>?_)
  ·exact FM.add (mm:=[]) (l:=[]) (λk=>rfl) m
  ·intro x hx;simp at hx;subst hx;exact hg
  ·show 1<=_;omega
  obtain⟨a,mm,l⟩:=st
  replace hi:a=(i:Int):=hi
  subst hi
  obtain⟨j1,j2,j3,j4⟩:FM mm l/\(∀x∈l,Yr n x)/\l.length<=QS budget/\Gf XR (AQ n w) (QS budget) (QS budget+1-(i:Int).toNat) l (i:Int).toNat=R:=hJ
  rw[XH,show QS budget+1-i=(QS budget-i)+1 by omega,Gf]at j4
  show Qg (Br n w budget i mm l) _
  unfold Br
  refine T1 (λhc=>?_) (λhc=>T2 (Qp ⟨λl' e=>(by cases e),λl' e=>?_⟩))
  ·simp only[QC]at hc
   have i1:i<l.length:=by omega
   have hx:=Qy i1
   have hgx:=j2 _ (Xs i1)
   rw[QR,hx,Qd]
   rw[hx]at j4
   simp only at j4
   generalize l[i]=x at hx hgx j4 ⊢
   have hal:=Qlm x h hb
   rw[Qbc n x 9223372036854775807 h (hgx.len h) (by omega) (by omega) (.inr (by omega)),Qd]
   have hxl:=hgx.len h
   have e0:(GB n x).take (9223372036854775807:Int).toNat=GB n x:=KE (by omega)
   rw[e0]
   have hok:=λo=>Qhu (o:=o) h hxl
   have inner:Qg (Qs (λst=>Bq (GB n x) w i n budget st.1 st.2.1 st.2.2) ((0:Int),mm,l)) λq:L_ (L_ Bag)⊕(L_ (ByteArray×Bool)×L_ (L_ Bag))=>
     (∀o,q=.inl o->Yq XR (QS budget) l (AQ n w x)=.inl o)/\∀j o,q=.inr (j,o)->Yq XR (QS budget) l (AQ n w x)=.inr o/\FM j o/\(∀x∈o,Yr n x)/\o.length<=QS budget:=by
    generalize hT:Yq XR (QS budget) l (AQ n w x)=T
    have hT:Yq XR (QS budget) l ((GB n x).filterMap (Kw n w x))=T:=hT
    generalize GB n x=X at hT hal hok ⊢
    refine Qg.up X.length (λst=>st.1) (λst=>FM st.2.1 st.2.2/\(∀x∈st.2.2,Yr n x)/\st.2.2.length<=QS budget/\st.2.2[i]? = some x/\Yq XR (QS budget) st.2.2 ((X.drop st.1.toNat).filterMap (Kw n w x))=T) rfl ⟨j1,j2,j3,hx,hT⟩ (λk st hk hn2 hK=>?_)
    obtain⟨a,mm,l⟩:=st
    replace hk:a=(k:Int):=hk
    subst hk
    obtain⟨k1,k2,k3,k4,D⟩:FM mm l/\(∀x∈l,Yr n x)/\l.length<=QS budget/\l[i]? = some x/\Yq XR (QS budget) l ((X.drop (k:Int).toNat).filterMap (Kw n w x))=T:=hK
    rw[XH]at D
    show Qg (Bq X w i n budget k mm l) _
    unfold Bq
    refine T1 (λhc2=>?_) (λhc2=>T2 (Qp ⟨λo e=>(by cases e),λj o e=>?_⟩))
    ·simp only[QC]at hc2
     have i2:k<X.length:=by omega
     have hw:Qj ((k:Int)+1)=((k+1:Nat):Int):=Qr i2 (by unfold maxLen;omega:X.length<=maxLen)
     have next:∀j l',FM j l'->(∀x∈l',Yr n x)->l'.length<=QS budget->l'[i]? = some x->Yq XR (QS budget) l' ((X.drop (k+1)).filterMap (Kw n w x))=T->
       Qg (DI k j l') λo=>(∀s',o=.inl s'->k<X.length/\s'.1=((k+1:Nat):Int)/\FM s'.2.1 s'.2.2/\(∀x∈s'.2.2,Yr n x)/\s'.2.2.length<=QS budget/\s'.2.2[i]? = some x/\Yq XR (QS budget) s'.2.2 ((X.drop s'.1.toNat).filterMap (Kw n w x))=T)/\
        ∀r:L_ (L_ Bag)⊕(L_ (ByteArray×Bool)×L_ (L_ Bag)),o=.inr r->(∀o,r=.inl o->T=.inl o)/\∀j o,r=.inr (j,o)->T=.inr o/\FM j o/\(∀x∈o,Yr n x)/\o.length<=QS budget:=λj l' f1 f2 f3 f4 f5=>by
      unfold DI
      refine T2 (QG (ix:=λst:Int×L_ (ByteArray×Bool)×L_ (L_ Bag)=>st.1) (J:=λst:Int×L_ (ByteArray×Bool)×L_ (L_ Bag)=>FM st.2.1 st.2.2/\(∀x∈st.2.2,Yr n x)/\st.2.2.length<=QS budget/\st.2.2[i]? = some x/\Yq XR (QS budget) st.2.2 ((X.drop st.1.toNat).filterMap (Kw n w x))=T) ⟨i2,hw,f1,f2,f3,f4,?_⟩)
      show Yq XR (QS budget) l' ((X.drop (Qj ((k:Int)+1)).toNat).filterMap (Kw n w x))=T
      rw[hw,XH];exact f5
     rw[QR,Qy i2,Qd]
     rw[Nt i2,List.filterMap_cons]at D
     have hox:=hok _ (Xs i2)
     generalize X[k]=o at D hox ⊢
     refine T1 (λhc3=>?_) λhc3=>?_
     ·have:Kw n w x o=none:=by unfold Kw;rw[if_pos (by simpa using hc3)]
      rw[this]at D
      exact next mm l k1 k2 k3 k4 D
     simp only[beq_eq_false_iff_ne]at hc3
     rw[QR,k4,Qd]
     obtain⟨⟨y,c⟩,hD,_⟩:=Qog n x o 1024 h hgx.1 (by omega) hox
     rw[hD,Qd]
     by_cases cc:c=0
     ·subst cc
      have hgy:=QiD h hgx hox hD
      have:Kw n w x o=some y:=by unfold Kw;rw[if_neg hc3,hD];rfl
      rw[this]at D
      simp only at D
      rw[Yq]at D
      unfold Ln
      simp only[show((0:Int) != 0)=false from rfl,Qq]
      rw[QkF h hgy,Qd,k1 (XR y),Qd]
      unfold Lp
      refine T1 (λhh=>?_) λhh=>?_
      ·rw[if_pos (show QfM XR l y=true from hh)]at D
       exact next mm l k1 k2 k3 k4 D
      rw[if_neg (by rw[show QfM XR l y=false from hh];decide)]at D
      refine T1 (λhf=>?_) λhf=>?_
      ·simp only[beq_iff_eq]at hf
       rw[if_pos (by omega)]at D
       exact T2 (Qp ⟨λo e=>(by cases e;exact D.symm),λj o e=>by cases e⟩)
      simp only[beq_eq_false_iff_ne]at hf
      rw[if_neg (by omega)]at D
      simp only
      rw[QkF h hgy,Qd]
      refine T0 (T5 (by simp;omega)) λ_ _=>?_
      refine next _ _ (k1.add y) (λz hz=>?_) (by simp;omega) (by rw[YY ((Xe.1 k4).1)];exact k4) D
      rcases YM.1 hz with hz | hz
      ·exact k2 z hz
      simp at hz;subst hz;exact hgy
     have:Kw n w x o=none:=by unfold Kw;rw[if_neg hc3,hD];simp only;rw[if_neg cc]
     rw[this]at D
     unfold Ln
     simp only[show(c != 0)=true by simpa using cc,Qx,Qd]
     unfold Lp
     exact next mm l k1 k2 k3 k4 D
    cases e
    simp only[QV]at hc2
    rw[Qf8 (by omega),List.filterMap_nil,Yq]at D
    exact⟨D.symm,k1,k2,k3⟩
   obtain⟨q,hq1,hq2,hq3⟩:=inner
   rw[hq1,Qd]
   rcases q with q | ⟨j,o⟩
   ·have:=hq2 q rfl
    rw[this]at j4
    show Qg (Lq q) _
    unfold Lq
    exact T2 (Qp ⟨λl' e=>(by cases e;exact j4.symm),λl' e=>by cases e⟩)
   obtain⟨f1,f2,f3,f4⟩:=hq3 j o rfl
   rw[f1]at j4
   simp only at j4
   show Qg (Lr i j o) _
   unfold Lr
   have hw:Qj ((i:Int)+1)=((i+1:Nat):Int):=Qr (by omega:i<QS budget) (by unfold maxLen;omega)
   refine T2 (QG ⟨by omega,hw,f2,f3,f4,?_⟩)
   show Gf XR (AQ n w) (QS budget) (QS budget+1-(Qj ((i:Int)+1)).toNat) o (Qj ((i:Int)+1)).toNat=R
   rw[hw,XH,show QS budget+1-(i+1)=QS budget-i by omega]
   exact j4
  cases e
  simp only[QV]at hc
  rw[Vi (by omega)]at j4
  exact j4.symm
 obtain⟨q,hq1,hq2,hq3⟩:=main
 rw[hq1,Qd]
 rcases q with q | q
 ·rw[hq2 q rfl];rfl
 rw[hq3 q rfl];rfl
def Lb {l:L_ Int}{j:Nat}(h:j<l.length):l.toArray[j]! = l[j]:=by
 rw[getElem!_pos l.toArray j (by simpa using h)];simp
def Qi3 {l:L_ Int}{x:Int}(h:x∈Dv l):x∈l:=by
 unfold Dv Lib.compact Lib.compactUpTo at h
 obtain⟨j,D,rfl⟩:=YN.1 h
 have:=Au.1 (Mc.1 D).1
 rw[Lb this];exact Xs this
def Qi4 {l:L_ Int}(h:l.Pairwise (·<=·)):(Dv l).Pairwise (·<·):=by
 have hp:=Qgb.1 h
 unfold Dv Lib.compact Lib.compactUpTo
 rw[RU,List.pairwise_filter,Qgb]
 intro i j hi hj hij _ D
 rw[Vj]at hi hj
 rw[RP]at D
 rw[RP,RP,Lb hi,Lb hj]
 unfold Lib.keeps at D
 have D:=Xn D
 rcases D with D | D
 ·omega
 have hj1:j-1<l.length:=by omega
 rw[Lb hj,Lb hj1]at D
 have h1:=hp (j-1) j hj1 hj (by omega)
 by_cases c:i=j-1
 ·subst c;omega
 have h2:=hp i (j-1) hi hj1 (by omega)
 omega
def QkG (l:L_ Int):(Df l).Pairwise (·<=·):=Qer l
def Qi5 {l:L_ Int}{x:Int}:x∈Df l↔x∈l:=by
 exact(QaL l).mem_iff
def Ie (m:L_ Bag)(k:Int):Prop:=0<=k/\k<m.length/\m[k.toNat]? = some []
def Qmo (n:Qn)(m:L_ Bag)(task:Int)(h:Xd n):Qg (JD n m task) λe=>(∀k∈e,Ie m k)/\e.Pairwise (·<·):=by
 unfold JD
 refine T1 (λ_=>T2 ⟨λk h=>(by cases h),List.Pairwise.nil⟩) λhc=>?_
 simp only[Kn,QV]at hc
 refine T0 (T4 (by omega) (by omega)) λe he=>?_
 have hil:=(h.tk e he).2.1
 refine T0 (Qg.up e.Ins.length (λst=>st.1) (λst=>(st.2.length:Int)<=st.1/\∀k∈st.2,Ie m k) (Q:=λq:L_ Int=>q.length<=16/\∀k∈q,Ie m k) rfl ⟨by simp,λk h=>by cases h⟩ (λi st hi hn hJ=>?_)) (λq hq=>?_)
 ·obtain⟨x,l⟩:=st
  replace hi:x=(i:Int):=hi
  subst hi
  obtain⟨j1,j2⟩:(l.length:Int)<=(i:Int)/\∀k∈l,Ie m k:=hJ
  show Qg (EH e m i l) _
  unfold EH
  refine T1 (λhc2=>?_) (λhc2=>T2 (Qp ⟨by omega,j2⟩))
  simp only[QC]at hc2
  have i1:i<e.Ins.length:=by omega
  have hw:Qj ((i:Int)+1)=((i+1:Nat):Int):=Qr i1 (by unfold maxLen;omega:e.Ins.length<=maxLen)
  rw[QR,Qy i1,Qd]
  refine T0 (P:=λy=>y=true->Ie m (e.Ins[i]).Place) ?_ λy hy=>?_
  ·unfold Lt
   refine T1 (λD=>?_) λ_=>T2 λh=>by cases h
   refine T1 (λc2=>?_) λ_=>T2 λh=>by cases h
   simp only[QC]at D c2
   have j:(e.Ins[i]).Place.toNat<m.length:=by omega
   rw[Wu D,Qy j,Qd]
   refine T2 λhz=>⟨D,c2,?_⟩
   simp only[beq_iff_eq]at hz
   rw[Qy j,FO.1 (show(m[(e.Ins[i]).Place.toNat]).length=0 by omega)]
  unfold Lu EG
  refine T1 (λD=>?_) λ_=>?_
  ·refine T0 (T5 (by simp;omega)) λ_ _=>?_
   refine T2 (QG ⟨i1,hw,by show((l++[_]).length:Int)<=Qj _;rw[hw];simp;omega,λk j=>?_⟩)
   rcases YM.1 j with j | j
   ·exact j2 k j
   simp at j;subst j;exact hy D
  exact T2 (QG ⟨i1,hw,by show(l.length:Int)<=Qj _;rw[hw];omega,j2⟩)
 obtain⟨q1,q2⟩:=hq
 show Qg (EI q) _
 unfold EI
 rw[Qba _ (by omega),Qd]
 refine T0 (T5 (by simp[DP])) λ_ _=>?_
 unfold DB
 rw[GJ (by rw[DP];omega),Qd,Qd]
 exact T2 ⟨λk j=>q2 k (Qi5.1 (Qi3 j)),Qi4 (QkG q)⟩
def AR (n:Qn)(m:L_ Bag)(h:Int):L_ Int:=(JD n m h).getD []
def Qf5 (n:Qn)(m:L_ Bag)(j:Int)(h:Xd n):JD n m j=some (AR n m j)/\(∀k∈AR n m j,Ie m k)/\(AR n m j).Pairwise (·<·):=by
 obtain⟨e,D,h2⟩:=Qmo n m j h
 unfold AR
 rw[D];exact⟨rfl,h2⟩
def UY (e:L_ Int)(x:L_ Bag):Bool:=e.any λk=>decide (0<(((x[k.toNat]?).getD []).length:Int))
def QpJ (e:L_ Int)(x:L_ Bag)(he:e.length<=maxLen)(hk:∀k∈e,0<=k/\k<x.length):JX e x=some (UY e x):=by
 unfold JX DV
 obtain⟨q,h1,h2⟩:=(Qg.up (body:=λst=>JW e x st) e.length (λst=>st) (λst=>UY (e.take st.toNat) x=false) (Q:=λq:Int⊕Unit=>(∀j,q=.inl j->0<=j/\UY e x=true)/\(q=.inr ()->UY e x=false)) (s0:=(0:Int)) rfl rfl (λi st hi hn hJ=>by
  replace hi:st=(i:Int):=hi
  subst hi
  replace hJ:UY (e.take (i:Int).toNat) x=false:=hJ
  rw[XH]at hJ
  show Qg (JW e x i) _
  unfold JW MR
  refine T1 (λhc=>?_) (λhc=>T2 (Qp ⟨λj e=>(by cases e),λ_=>?_⟩))
  ·simp only[QC]at hc
   have i1:i<e.length:=by omega
   have h:=Xs i1
   obtain⟨k1,k2⟩:=hk _ h
   have hkk:(e[i]).toNat<x.length:=by omega
   rw[QR,Qy i1,Qd,Wu k1,Qy hkk]
   simp only[Qd]
   have D:decide (0<(((x[(e[i]).toNat]?).getD []).length:Int))=decide (0<((x[(e[i]).toNat]).length:Int)):=by rw[Qy hkk];rfl
   refine T1 (λhc2=>T2 (Qp ⟨λj e'=>(by cases e';exact⟨by omega,GX.2 ⟨_,h,by rw[D];exact hc2⟩⟩),λe=>by cases e⟩)) λhc2=>?_
   have hw:Qj ((i:Int)+1)=((i+1:Nat):Int):=Qr i1 he
   refine T2 (QG ⟨i1,hw,?_⟩)
   show UY (e.take (Qj ((i:Int)+1)).toNat) x=false
   rw[hw,XH,GZ,Qy i1]
   unfold UY at hJ ⊢
   rw[List.any_append,hJ]
   simp only[Option.toList_some,List.any_cons,List.any_nil,Vh,RM]
   rw[D];exact hc2
  simp only[QV]at hc
  rwa[KE (by omega)]at hJ))
 rw[h1]
 rcases q with q | q
 ·have:=h2.1 q rfl
  rw[this.2]
  simp only[Qd,Sum.elim_inl]
  unfold Uu
  rw[Qd,QB this.1]
 rw[h2.2 rfl];rfl
def Qbh {n:Qn}{m:L_ Bag}(w budget:Int)(h:Xd n)(hg:Yr n m):(∀x∈(UH n w budget m).1,Yr n x)/\(UH n w budget m).1.length<=QS budget/\Sh XR (UH n w budget m).1/\(0<QS budget->∃r,(UH n w budget m).1=m::r):=by
 unfold UH
 by_cases D:QS budget=0
 ·rw[if_pos D]
  exact⟨λx h=>(by cases h),by simp,List.Pairwise.nil,λh=>by omega⟩
 rw[if_neg D]
 obtain⟨⟨r,hr⟩,h2,h3,h4⟩:=Qm3 (key:=XR) (succ:=AQ n w) (P:=Yr n) (λx j=>Qnx h j) (most:=QS budget) (QS budget+1) (out:=[m]) (a:=0) (by simp;omega) (Qgc _ _) λx j=>by simp at j;subst j;exact hg
 exact⟨h4,h2,h3,λ_=>⟨r,hr⟩⟩
def QhC (n:Qn)(m:L_ Bag)(h budget:Int):Int:=if (UH n h budget m).1.any (UY (AR n m h))then 0 else if (UH n h budget m).2 then 1 else 2
def Qoq {n:Qn}{m:L_ Bag}(j budget:Int)(h:Xd n)(hb:Bd n)(hg:Yr n m):IA n m j budget=some (QhC n m j budget):=by
 have hpl:=h.pl
 obtain⟨e1,e2,e3⟩:=Qf5 n m j h
 obtain⟨r1,r2,_,_⟩:=Qbh j budget h hg
 have hmost:=(Sm budget).2
 have hm1:=hg.1.1
 unfold IA QhC
 rw[e1,Qd,QhB j budget h hb hg,Qd]
 have hel:(AR n m j).length<=maxLen:=by
  unfold JD at e1
  have:∀(l:L_ Int) (a b:Int),l.Pairwise (·<·)->(∀k∈l,a<=k/\k<b)->(l.length:Int)<=max 0 (b-a):=by
   intro l
   induction l with
   | nil=>intro a b _ _;simp;omega
   | cons x l ih=>
    intro a b hp hk
    obtain⟨p1,p2⟩:=RT.1 hp
    have h1:=hk x XQ
    have:=ih (x+1) b p2 λk hk2=>⟨by have:=p1 k hk2;omega,(hk k (Yf _ hk2)).2⟩
    simp only[DX];omega
  have:=this _ 0 (m.length:Int) e3 λk hk=>⟨(e2 k hk).1,(e2 k hk).2.1⟩
  unfold maxLen;omega
 have hbk:∀x∈(UH n j budget m).1,∀k∈AR n m j,0<=k/\k<x.length:=λx hx k hk=>by
  have h1:=e2 k hk
  have h2:=(r1 x hx).1.1
  exact⟨h1.1,by have:=h1.2.1;omega⟩
 generalize UH n j budget m=R at r1 r2 hbk ⊢
 generalize AR n m j=E at hel hbk ⊢
 obtain⟨q,h1,h2⟩:=(Qg.up (body:=λst:L_ Int×Int=>Bs R st.1 st.2) R.1.length (λst=>st.2) (λst=>st.1=E/\(R.1.take st.2.toNat).any (UY E)=false) (Q:=λq:Unit⊕Unit=>(q=.inl ()->R.1.any (UY E)=true)/\(q=.inr ()->R.1.any (UY E)=false)) (s0:=(E,(0:Int))) rfl ⟨rfl,rfl⟩ (λi st hi hn hJ=>by
  obtain⟨a,x⟩:=st
  replace hi:x=(i:Int):=hi
  subst hi
  obtain⟨j1,j2⟩:a=E/\(R.1.take (i:Int).toNat).any (UY E)=false:=hJ
  subst j1
  rw[XH]at j2
  show Qg (Bs R a i) _
  unfold Bs
  refine T1 (λhc=>?_) (λhc=>T2 (Qp ⟨λe=>(by cases e),λ_=>?_⟩))
  ·simp only[QC]at hc
   have i1:i<R.1.length:=by omega
   have D:=Xs i1
   rw[QR,Qy i1,Qd,QpJ a _ hel (hbk _ D),Qd]
   refine T1 (λhc2=>T2 (Qp ⟨λ_=>GX.2 ⟨_,D,hc2⟩,λe=>by cases e⟩)) λhc2=>?_
   have hw:Qj ((i:Int)+1)=((i+1:Nat):Int):=Qr i1 (by unfold maxLen;omega:R.1.length<=maxLen)
   refine T2 (QG ⟨i1,hw,rfl,?_⟩)
   show(R.1.take (Qj ((i:Int)+1)).toNat).any (UY a)=false
   rw[hw,XH,GZ,Qy i1,List.any_append,j2]
   simpa using hc2
  simp only[QV]at hc
  rwa[KE (by omega)]at j2))
 rw[h1,Qd]
 rcases q with q | q
 ·rw[h2.1 rfl];rfl
 rw[h2.2 rfl]
 show Lw R=_
 unfold Lw
 cases R.2<;>rfl
def OG (n:Qn)(m:L_ Bag)(o:Qh)(budget:Int):Int:=if Ye n m o=some 0 then(match idx n.Tasks o.Task with
 | some e=>if e.Join=3 then QhC n m o.Task budget else 1
 | none=>0)else 0
def QhD {n:Qn}{m:L_ Bag}{o:Qh}(h:Xd n)(hm:QO (QO λ_=>True) m)(ho:YQ n o)(hc:Ye n m o=some 0):∃e,idx n.Tasks o.Task=some e/\e∈n.Tasks:=by
 obtain⟨_,e,j,_,_,_,b,hb,_⟩:=Ci.1 ((Ze h hm ho).1 hc)
 obtain⟨D,k2,_⟩:=La h hb
 rw[j]at D;cases D
 exact⟨_,j,k2⟩
def QkH {n:Qn}{m:L_ Bag}(o:Qh)(budget:Int)(h:Xd n)(hb:Bd n)(hg:Yr n m)(ho:YQ n o):Db n m o budget=some (OG n m o budget):=by
 unfold Db OG
 obtain⟨c,hc,_⟩:=Qah n m o h (hg.len h) ho
 rw[hc,Qd]
 by_cases D:c=0
 ·subst D
  obtain⟨e,he,_⟩:=QhD h (hg.len h) ho hc
  rw[if_pos rfl,he]
  simp only[show((0:Int) != 0)=false from rfl,Qq,Qd]
  by_cases j:e.Join=3
  ·rw[if_pos j,show(e.Join != 3)=false by simpa using j,Qq,Qoq o.Task budget h hb hg];rfl
  rw[if_neg j,show(e.Join != 3)=true by simpa using j];rfl
 rw[if_neg (λe=>D (Option.some.inj e)),show(c != 0)=true by simpa using D];rfl
set_option maxRecDepth 100000 in
def Qmp : Re=some true:=by kernel_rfl
def Qor (n:Qn)(m:L_ Bag)(budget:Int)(hn:Xl n)(hm:QO (QO λ_=>True) m):Qg (HR n m budget) λr=>r=true->Xd n/\Bd n/\Yr n m/\budget<=12:=by
 unfold HR
 refine T0 (Qpy n m hn hm).self λf j=>?_
 obtain⟨D,j⟩:=j
 refine T0 (P:=λr=>r=true->Xd n/\Bd n/\Yr n m/\budget<=12) ?_ λr hr=>?_
 ·unfold On
  refine T1 (λc1=>?_) λ_=>T2 λh=>by cases h
  refine T1 (λc2=>?_) λ_=>T2 λh=>by cases h
  refine T1 (λc3=>?_) λ_=>T2 λh=>by cases h
  obtain⟨h,g1,g2⟩:=j c1
  subst c1
  rw[Qju h g1 (by omega),Qd]
  exact T2 λ_=>⟨h,Qo6 n m h D,⟨g1,g2⟩,by simpa using c2⟩
 unfold Oo
 exact T2 hr
def Qny {n:Qn}{m:L_ Bag}(h:Xd n)(j:Yr n m):∃k:Nat,Mp n m=some (k:Int):=by
 unfold Mp
 rw[Qbc n m 60 h (j.len h) (by omega) (by omega) (.inl (by omega)),Qd]
 exact⟨_,rfl⟩
def QoE (x:Int):IntKind.u8.wrap x=x % 256:=rfl
def Sn (k:Nat)(x:Int)(h:k<8):IntKind.u8.wrap (YW .i64 x (Qj (8*(k:Int))))=(x / (2 ^ (8*k):Nat)) % 256:=by
 rw[QoE,Xv (by omega)]
 unfold YW
 rw[show(8*(k:Int)).toNat=8*k by omega,show min (8*k) (IntKind.bits .i64)=8*k from LG (by show 8*k<=64;omega),Int.fdiv_eq_ediv_of_nonneg _ (Int.pow_nonneg (by omega))]
 simp
def QkI (x:Int):XI 2 x=[x / 256 % 256,x % 256]:=by
 simp only[XI,Sn 0 x (by omega),Sn 1 x (by omega)];simp
def QkJ (x:Int):XI 4 x=[x / 16777216 % 256,x / 65536 % 256,x / 256 % 256,x % 256]:=by
 simp only[XI,Sn 0 x (by omega),Sn 1 x (by omega),Sn 2 x (by omega),Sn 3 x (by omega)];simp
def Qp9 {x y:Int}(j:0<=x/\x<65536)(D:0<=y/\y<65536)(h:XI 2 x=XI 2 y):x=y:=by
 rw[QkI,QkI]at h
 simp only[List.cons.injEq,and_true]at h
 omega
def QoF {x y:Int}(j:0<=x/\x<4294967296)(D:0<=y/\y<4294967296)(h:XI 4 x=XI 4 y):x=y:=by
 rw[QkJ,QkJ]at h
 simp only[List.cons.injEq,and_true]at h
 omega
def Qbi {k:Nat}{x:Int}(D:k<=8):∀b∈XI k x,0<=b/\b<256:=by
 induction k with
 | zero=>intro b h;cases h
 | succ k j=>
  intro b h
  rcases Yt.1 h with rfl | h
  ·rw[QoE];omega
  exact j (by omega) b h
def Qmq (p:Int×Int):L_ Int:=XI 4 p.1++XI 4 p.2
def QkK (p:Int×Int):(Qmq p).length=8:=by simp[Qmq,Kb]
def InP (p:Int×Int):Prop:=(0<=p.1/\p.1<4294967296)/\0<=p.2/\p.2<4294967296
def Qos : ∀(a b:Bag),a.length=b.length->(∀p∈a,InP p)->(∀p∈b,InP p)->a.flatMap Qmq=b.flatMap Qmq->a=b:=by
 intro a
 induction a with
 | nil=>intro b h _ _ _;exact(FO.1 (by simpa using h.symm)).symm
 | cons p a ih=>
  intro b h D hb e
  cases b with
  | nil=>simp at h
  | cons q b=>
   rw[GY,GY]at e
   obtain⟨e1,e2⟩:=List.append_inj e (by rw[QkK,QkK])
   obtain⟨e3,e4⟩:=List.append_inj e1 (by rw[Kb,Kb])
   have hp:=D p XQ
   have hq:=hb q XQ
   have f1:=QoF hp.1 hq.1 e3
   have f2:=QoF hp.2 hq.2 e4
   rw[Prod.ext f1 f2,ih b (by simpa using h) (λr j=>D r (Yf _ j)) (λr j=>hb r (Yf _ j)) e2]
def InB (b:Bag):Prop:=b.length<65536/\∀p∈b,InP p
def Qot : ∀(a b:L_ Bag),a.length=b.length->(∀x∈a,InB x)->(∀x∈b,InB x)->a.flatMap OF=b.flatMap OF->a=b:=by
 intro a
 induction a with
 | nil=>intro b h _ _ _;exact(FO.1 (by simpa using h.symm)).symm
 | cons x a ih=>
  intro b h ha hb e
  cases b with
  | nil=>simp at h
  | cons y b=>
   have hx:=ha x XQ
   have hy:=hb y XQ
   rw[GY,GY]at e
   have e':=e
   unfold OF at e'
   rw[WD,WD]at e'
   have e1:=(List.append_inj e' (by rw[Kb,Kb])).1
   have j:=Qp9 (x:=(x.length:Int)) (y:=(y.length:Int)) ⟨by omega,by have:=hx.1;omega⟩ ⟨by omega,by have:=hy.1;omega⟩ e1
   have j:x.length=y.length:=by omega
   obtain⟨f1,f2⟩:=List.append_inj e (by rw[Qf4,Qf4,j])
   have f3:=(List.append_inj f1 (by rw[Kb,Kb])).2
   rw[Qos x y j hx.2 hy.2 f3,ih b (by simpa using h) (λr D=>ha r (Yf _ D)) (λr D=>hb r (Yf _ D)) f2]
def QhE (l:L_ Int):(Mg l).data.toList=l.map λx=>UInt8.ofNat x.toNat:=by
 unfold Mg
 have:∀(l:L_ Int) (r:ByteArray),(l.foldl (λr n=>r.push (UInt8.ofNat n.toNat)) r).data.toList=r.data.toList++l.map λx=>UInt8.ofNat x.toNat:=by
  intro l
  induction l with
  | nil=>intro r;simp
  | cons x l h=>intro r;rw[List.foldl_cons,h];simp[ByteArray.push]
 rw[this];rfl
def Qnz {a b:L_ Int}(D:∀x∈a,0<=x/\x<256)(hb:∀x∈b,0<=x/\x<256)(h:Mg a=Mg b):a=b:=by
 have e:(a.map λx=>UInt8.ofNat x.toNat)=b.map λx=>UInt8.ofNat x.toNat:=by rw[<-QhE,<-QhE,h]
 clear h
 induction a generalizing b with
 | nil=>cases b with
  | nil=>rfl
  | cons y b=>simp at e
 | cons x a ih=>cases b with
  | nil=>simp at e
  | cons y b=>
   simp only[EJ,List.cons.injEq]at e
   have h1:=D x XQ
   have h2:=hb y XQ
   have e1:=congrArg UInt8.toNat e.1
   rw[UInt8.toNat_ofNat',UInt8.toNat_ofNat']at e1
   have:x=y:=by omega
   rw[this,ih (λz j=>D z (Yf _ j)) (λz j=>hb z (Yf _ j)) e.2]
def QkL (m:L_ Bag):∀x∈Qdp m,0<=x/\x<256:=by
 intro x h
 unfold Qdp at h
 rcases YM.1 h with h | h
 ·exact Qbi (by omega) x h
 obtain⟨b,_,h⟩:=List.mem_flatMap.1 h
 unfold OF at h
 rcases YM.1 h with h | h
 ·exact Qbi (by omega) x h
 obtain⟨p,_,h⟩:=List.mem_flatMap.1 h
 rcases YM.1 h with h | h
 ·exact Qbi (by omega) x h
 exact Qbi (by omega) x h
def Qln {n:Qn}{m:L_ Bag}(h:Xd n)(D:Yr n m):∀b∈m,InB b:=λb hb=>by
 obtain⟨hr,hl⟩:=D.1.2 b hb
 refine⟨by omega,λp hp=>?_⟩
 have h1:=hr.2 p hp
 obtain⟨j,hj,rfl⟩:=Nv.1 hb
 have hj2:j<n.Places.length:=by have:=D.1.1;omega
 have h2:=Gz hr.1.nd hp
 obtain⟨z,hz,hk⟩:=D.2 j _ _ (Qy hj) (Qy hj2) p.1 (by rw[h2];omega)
 have:=GA (Wq _ _ h.k.1) hz
 exact⟨⟨h1.1,by omega⟩,by omega,by omega⟩
def Qo8 {n:Qn}{a b:L_ Bag}(h:Xd n)(hp:n.Places.length<=64)(j:Yr n a)(D:Yr n b)(e:XR a=XR b):a=b:=by
 have ha1:=j.1.1
 have hb1:=D.1.1
 unfold XR at e
 rw[if_pos (by omega),if_pos (by omega)]at e
 have e:=Qnz (QkL a) (QkL b) e
 unfold Qdp at e
 exact Qot a b (by omega) (Qln h j) (Qln h D) (List.append_inj e (by rw[Kb,Kb])).2
def Qla (n1:Qn)(m:L_ QBg)(h:GS n1 m=some true):n1.Places.length<=64:=by
 unfold GS at h
 obtain⟨x5,_,h⟩:=Qw h
 obtain⟨x6,_,h⟩:=Qw h
 rcases Xr h with⟨_,h⟩|⟨_,h⟩
 ·cases h
 obtain⟨x11,j,h⟩:=Qw h
 obtain⟨x12,D,h⟩:=Qw h
 unfold Hk at h
 rcases Xr h with⟨_,h⟩|⟨c,_⟩
 ·cases h
 subst c
 unfold Hj at D
 rcases Xr D with⟨_,D⟩|⟨c,_⟩
 ·cases D
 simp only[KI]at c
 unfold GH at j
 obtain⟨y,hy,j⟩:=Qw j
 rcases Xr j with⟨c2,j⟩|⟨c2,_⟩
 ·simp only[Option.some.injEq]at j
  rw[<-j]at c
  simp only at c
  rw[c]at c2;cases c2
 simp only[KI]at c2
 subst c2
 unfold Fe Fd at hy
 rw[Qd]at hy
 rcases Xr hy with⟨_,hy⟩|⟨c3,_⟩
 ·cases hy
 simp only[Bj,QH,QC]at c3
 omega
def So (p:Int×Int)(l:Bag)(k:Int):QE (p::l) k=if p.1=k then p.2 else QE l k:=by
 unfold QE
 rw[QW]
 split<;>rfl
def QiF {l:Bag}{k:Int}(h:∀p∈l,p.1≠k):QE l k=0:=by
 unfold QE
 rw[IY.2 h];rfl
def Qlo {p:Int×Int}{l:Bag}(h:Rt (p::l)):Rt l:=⟨(WT.1 h.1).2,λq j=>h.2 q (Yf _ j)⟩
def QnA {p:Int×Int}{l:Bag}(h:Rt (p::l)){k:Int}(D:k<p.1):QE (p::l) k=0:=QiF λq j=>by
 rcases Yt.1 j with rfl | j
 ·omega
 have:=(WT.1 h.1).1 q j;omega
def rt_ext : ∀{a b:Bag},Rt a->Rt b->(∀k,QE a k=QE b k)->a=b:=by
 intro a
 induction a with
 | nil=>
  intro b _ j e
  cases b with
  | nil=>rfl
  | cons q s=>
   have:=e q.1
   rw[So q s,if_pos rfl]at this
   have h2:=(j.2 q XQ).2.1
   have h3:QE ([]:Bag) q.1=0:=rfl
   omega
 | cons p r ih=>
  intro b ha j e
  have hp:=(ha.2 p XQ).2.1
  have D:=e p.1
  rw[So p r,if_pos rfl]at D
  cases b with
  | nil=>
   have h3:QE ([]:Bag) p.1=0:=rfl
   omega
  | cons q s=>
   have hq:=(j.2 q XQ).2.1
   have eq:=e q.1
   rw[So q s,if_pos rfl]at eq
   have h1:p.1=q.1:=by
    rcases Int.lt_trichotomy p.1 q.1 with h | h | h
    ·rw[QnA j h]at D;omega
    ·exact h
    rw[QnA ha h]at eq;omega
   rw[So q s,if_pos h1.symm]at D
   have h2:p=q:=Prod.ext h1 D
   subst h2
   refine congrArg (p::·) (ih (Qlo ha) (Qlo j) λk=>?_)
   have:=e k
   rw[So,So]at this
   by_cases hk:p.1=k
   ·subst hk
    rw[QiF λx hx=>by have:=(WT.1 ha.1).1 x hx;omega,QiF λx hx=>by have:=(WT.1 j.1).1 x hx;omega]
   rwa[if_neg hk,if_neg hk]at this
def Qou {a b:Bag}(h:Rt a)(hb:Rt b)(j:a.length<=maxLen)(D:b.length<=maxLen):Oz a b=some (decide (a=b)):=by
 obtain⟨r1,e1,h1⟩:=AP a b j D
 obtain⟨r2,e2,h2⟩:=AP b a D j
 unfold Oz VV VW
 rw[PC j D,PC D j,e1,e2]
 cases r1 with
 | false=>
  have:a≠b:=λe=>by
   subst e
   have:=h1.2 ⟨h,h,λ_=>Int.le_refl _⟩
   cases this
  rw[QF this];rfl
 | true=>cases r2 with
  | false=>
   have:a≠b:=λe=>by
    subst e
    have:=h2.2 ⟨h,h,λ_=>Int.le_refl _⟩
    cases this
   rw[QF this];rfl
  | true=>
   have:a=b:=rt_ext h hb λk=>Int.le_antisymm ((h1.1 rfl).2.2 k) ((h2.1 rfl).2.2 k)
   rw[QB this];rfl
def Qi6 {a b:L_ Bag}(hl:a.length=b.length)(la:a.length<=maxLen)(ha:∀x∈a,Rt x/\x.length<=maxLen)(hb:∀x∈b,Rt x/\x.length<=maxLen):GU a b=some (decide (a=b)):=by
 unfold GU
 rw[show((a.length:Int) != (b.length:Int))=false by rw[hl];simp,Qq]
 have D:Qg (Qs (λst=>Ht a b st) 0) λq=>(q=.inl ()->a≠b)/\(q=.inr ()->a=b):=by
  refine Qg.up a.length (λst=>st) (λst=>∀(j:Nat),(j:Int)<st->a[j]? = b[j]?) rfl (λj hj=>by omega) (λi st hi hn hJ=>?_)
  replace hi:st=(i:Int):=hi
  subst hi
  show Qg (Ht a b i) _
  unfold Ht
  refine T1 (λhc=>?_) (λhc=>T2 (Qp ⟨λe=>(by cases e),λ_=>?_⟩))
  ·simp only[QC]at hc
   have h:i<a.length:=by omega
   have i2:i<b.length:=by omega
   rw[QR,QR,Qy h,Qy i2,Qd,Qd]
   have hx:=ha _ (Xs h)
   have hy:=hb _ (Xs i2)
   rw[Qou hx.1 hy.1 hx.2 hy.2,Qd]
   by_cases c:a[i]=b[i]
   ·rw[QB c]
    refine T2 (QG ⟨h,Qr h la,λj hj=>?_⟩)
    rw[Qr h la]at hj
    by_cases cj:j=i
    ·subst cj;rw[Qy h,Qy i2,c]
    exact hJ j (by omega)
   rw[QF c]
   refine T2 (Qp ⟨λ_ e=>c ?_,λe=>by cases e⟩)
   subst e;rfl
  simp only[QV]at hc
  refine List.ext_getElem? λj=>?_
  by_cases cj:j<i
  ·exact hJ j (by omega)
  rw[Vi (by omega),Vi (by omega)]
 obtain⟨q,q1,q2,q3⟩:=D
 rw[q1,Qd]
 rcases q with q | q
 ·rw[QF (q2 rfl)];rfl
 rw[QB (q3 rfl)];rfl
def Yr.rt {n:Qn}{m:L_ Bag}(j:Yr n m):∀x∈m,Rt x/\x.length<=maxLen:=λx D=>by
 have mx:(1024:Nat)<=maxLen:=by decide
 obtain⟨h,h2⟩:=j.1.2 x D
 exact⟨h,by omega⟩
def Qmr {n:Qn}(h:Xd n){a b:L_ Bag}(j:Yr n a)(D:Yr n b):GU a b=some (decide (a=b)):=by
 have hpl:=h.pl
 have mx:(70:Nat)<=maxLen:=by decide
 exact Qi6 (by rw[j.1.1,D.1.1]) (by rw[j.1.1];omega) j.rt D.rt
def Qi7 {l:L_ (L_ Bag)}{m:L_ Bag}(hl:l.length<=maxLen)(hS:∀y∈l,GU y m=some (decide (y=m))):Aq l m=some (l.any λy=>decide (y=m)):=by
 unfold Aq
 have D:Qg (Qs (λst=>CJ l m st) 0) λq=>(q=.inl ()->∃y∈l,y=m)/\(q=.inr ()->∀y∈l,y≠m):=by
  refine Qg.up l.length (λst=>st) (λst=>∀y∈l.take st.toNat,y≠m) rfl (λy h=>by cases h) (λi st hi hn hJ=>?_)
  replace hi:st=(i:Int):=hi
  subst hi
  rw[XH]at hJ
  show Qg (CJ l m i) _
  unfold CJ
  refine T1 (λhc=>?_) (λhc=>T2 (Qp ⟨λe=>(by cases e),λ_=>?_⟩))
  ·simp only[QC]at hc
   have j:i<l.length:=by omega
   rw[QR,Qy j,Qd,hS _ (Xs j),Qd]
   by_cases c:l[i]=m
   ·rw[QB c]
    exact T2 (Qp ⟨λ_=>⟨_,Xs j,c⟩,λe=>by cases e⟩)
   rw[QF c]
   refine T2 (QG ⟨j,Qr j hl,λy h=>?_⟩)
   rw[Qr j hl,XH,Wr j]at h
   rcases YM.1 h with h | h
   ·exact hJ y h
   simp at h;subst h;exact c
  simp only[QV]at hc
  rw[KE (by omega)]at hJ
  exact hJ
 obtain⟨q,q1,q2,q3⟩:=D
 rw[q1,Qd]
 rcases q with q | q
 ·obtain⟨y,h,e⟩:=q2 rfl
  rw[show(l.any λy=>decide (y=m))=true from GX.2 ⟨y,h,QB e⟩];rfl
 rw[show(l.any λy=>decide (y=m))=false from List.any_eq_false.2 λy h=>by simpa using q3 rfl y h];rfl
def QnB {n:Qn}(h:Xd n){l:L_ (L_ Bag)}{m:L_ Bag}(D:l.length<=maxLen)(j:∀x∈l,Yr n x)(hm:Yr n m):Aq l m=some (l.any λy=>decide (y=m)):=Qi7 D λy hy=>Qmr h (j y hy) hm
def QpK {n:Qn}{m:L_ Bag}{o:Qh}{y:L_ Bag}{c:Int}(h:Wp n m o=some (y,c))(hc:c≠0):y=[]:=by
 have bad:∀{a:Int} {v:L_ Bag},(a != 0)=false->some (v,a)=some (y,c)->y=[]:=λh0 e=>by
  simp only[Option.some.injEq,Prod.mk.injEq]at e
  obtain⟨_,rfl⟩:=e
  exact absurd (by simpa using h0) hc
 have nil:∀{a:Int},some (([]:L_ Bag),a)=some (y,c)->y=[]:=λe=>by
  simp only[Option.some.injEq,Prod.mk.injEq]at e
  exact e.1.symm
 unfold Wp at h
 obtain⟨x,_,h⟩:=Qw h
 rcases Xr h with⟨_,h⟩|⟨_,h⟩
 ·exact nil h
 obtain⟨z,j,h⟩:=Qw h
 simp only[Option.some.injEq,Prod.mk.injEq]at h
 obtain⟨rfl,rfl⟩:=h
 unfold Dp at j
 obtain⟨x8,_,j⟩:=Qw j
 rcases Xr j with⟨_,j⟩|⟨_,j⟩
 ·rw[<-Option.some.inj j]
 obtain⟨_,_,j⟩:=Qw j
 obtain⟨_,_,j⟩:=Qw j
 obtain⟨q,_,j⟩:=Qw j
 unfold Gk at j
 obtain⟨w,D,j⟩:=Qw j
 rw[<-Option.some.inj j]at hc ⊢
 simp only at hc ⊢
 unfold JV at D
 obtain⟨_,_,D⟩:=Qw D
 obtain⟨u,_,D⟩:=Qw D
 rcases u with u | u
 ·replace D:FE u=some w:=D
  unfold FE at D
  rw[<-Option.some.inj D]
 replace D:FF u=some w:=D
 unfold FF at D
 rw[<-Option.some.inj D]at hc
 exact absurd rfl hc
def QnC {n:Qn}(h:Xd n){a:L_ Bag}(D:Yr n a):GU a []=some (decide (a=[])):=by
 cases a with
 | nil=>exact Qi6 rfl (LH _) (λx j=>by cases j) λx j=>by cases j
 | cons x r=>
  unfold GU
  rw[show(((x::r).length:Int) != (([]:L_ Bag).length:Int))=true by simp;omega,QF (by simp)];rfl
def Qms {n:Qn}(h:Xd n){l:L_ (L_ Bag)}(D:l.length<=maxLen)(j:∀x∈l,Yr n x):Aq l []=some (l.any λy=>decide (y=[])):=Qi7 D λy hy=>QnC h (j y hy)
def QoG (budget:Int):min2 (max2 budget 0) 4096=(QS budget:Int):=by
 rw[(Sm budget).1]
 unfold max2 min2
 repeat' split
 all_goals omega
def Qo9 {n:Qn}(h:Xd n)(hp:n.Places.length<=64){l:L_ (L_ Bag)}{y:L_ Bag}(D:∀x∈l,Yr n x)(hy:Yr n y):(l.any λz=>decide (z=y))=QfM XR l y:=by
 have e:QfM XR l y=l.any λz=>decide (XR z=XR y):=rfl
 rw[e]
 refine Vf.2 ?_
 rw[GX,GX]
 constructor
 ·rintro ⟨z,j,e⟩
  exact⟨z,j,QB (congrArg XR (Xn e))⟩
 rintro ⟨z,j,e⟩
 exact⟨z,j,QB (Qo8 h hp (D z j) hy (Xn e))⟩
def Qex {n:Qn}{m:L_ Bag}(w budget:Int)(h:Xd n)(hr:RN n)(hb:Bd n)(hp:n.Places.length<=64)(hg:Yr n m):Fj n m w budget=some (UH n w budget m):=by
 have hm:=Sm budget
 have hpl:=h.pl
 have mx:(4194304:Nat)<=maxLen:=by decide
 unfold Fj UH
 rw[QoG]
 by_cases c0:QS budget=0
 ·rw[if_pos c0,c0];rfl
 rw[if_neg c0,show((QS budget:Int)==0)=false by simp;omega]
 simp only[Qq]
 generalize hR:Gf XR (AQ n w) (QS budget) (QS budget+1) [m] 0=R
 have main:Qg (Qs (λst=>CL n w budget st.1 st.2) ((0:Int),[m])) λq:L_ (L_ Bag)⊕L_ (L_ Bag)=>(∀l,q=.inl l->R=(l,false))/\∀l,q=.inr l->R=(l,true):=by
  refine Qg.up (QS budget) (λst=>st.1) (λst=>(∀x∈st.2,Yr n x)/\st.2.length<=QS budget/\Gf XR (AQ n w) (QS budget) (QS budget+1-st.1.toNat) st.2 st.1.toNat=R) rfl ⟨?_,?_,hR⟩ (λi st hi hn hJ=>?_)
  ·intro x hx;simp at hx;subst hx;exact hg
  ·show 1<=_;omega
  obtain⟨a,l⟩:=st
  replace hi:a=(i:Int):=hi
  subst hi
  obtain⟨j2,j3,j4⟩:(∀x∈l,Yr n x)/\l.length<=QS budget/\Gf XR (AQ n w) (QS budget) (QS budget+1-(i:Int).toNat) l (i:Int).toNat=R:=hJ
  rw[XH,show QS budget+1-i=(QS budget-i)+1 by omega,Gf]at j4
  show Qg (CL n w budget i l) _
  unfold CL
  refine T1 (λhc=>?_) (λhc=>T2 (Qp ⟨λl' e=>(by cases e),λl' e=>?_⟩))
  ·simp only[QC]at hc
   have i1:i<l.length:=by omega
   have hx:=Qy i1
   have D:=j2 _ (Xs i1)
   rw[QR,hx,Qd]
   rw[hx]at j4
   simp only at j4
   generalize l[i]=x at hx D j4 ⊢
   have hal:=Qlm x h hb
   rw[QkC h hr (D.len h) (by unfold Xy;omega) (.inr λk=>by have:=Qi2 x (k:Int) h hb;omega),Qbc n x 9223372036854775807 h (D.len h) (by omega) (by omega) (.inr (by omega)),Qd]
   have hxl:=D.len h
   have e0:(GB n x).take (9223372036854775807:Int).toNat=GB n x:=KE (by omega)
   rw[e0]
   have hok:=λo=>Qhu (o:=o) h hxl
   have inner:Qg (Qs (λst=>CK (GB n x) w i n budget st.1 st.2) ((0:Int),l)) λq:L_ (L_ Bag)⊕L_ (L_ Bag)=>
     (∀o,q=.inl o->Yq XR (QS budget) l (AQ n w x)=.inl o)/\∀o,q=.inr o->Yq XR (QS budget) l (AQ n w x)=.inr o/\(∀x∈o,Yr n x)/\o.length<=QS budget:=by
    generalize hT:Yq XR (QS budget) l (AQ n w x)=T
    have hT:Yq XR (QS budget) l ((GB n x).filterMap (Kw n w x))=T:=hT
    generalize GB n x=X at hT hal hok ⊢
    refine Qg.up X.length (λst=>st.1) (λst=>(∀x∈st.2,Yr n x)/\st.2.length<=QS budget/\st.2[i]? = some x/\Yq XR (QS budget) st.2 ((X.drop st.1.toNat).filterMap (Kw n w x))=T) rfl ⟨j2,j3,hx,hT⟩ (λk st hk hn2 hK=>?_)
    obtain⟨a,l⟩:=st
    replace hk:a=(k:Int):=hk
    subst hk
    obtain⟨k2,k3,k4,j⟩:(∀x∈l,Yr n x)/\l.length<=QS budget/\l[i]? = some x/\Yq XR (QS budget) l ((X.drop (k:Int).toNat).filterMap (Kw n w x))=T:=hK
    rw[XH]at j
    show Qg (CK X w i n budget k l) _
    unfold CK
    refine T1 (λhc2=>?_) (λhc2=>T2 (Qp ⟨λo e=>(by cases e),λo e=>?_⟩))
    ·simp only[QC]at hc2
     have i2:k<X.length:=by omega
     have hw:Qj ((k:Int)+1)=((k+1:Nat):Int):=Qr i2 (by unfold maxLen;omega:X.length<=maxLen)
     have next:∀l',(∀x∈l',Yr n x)->l'.length<=QS budget->l'[i]? = some x->Yq XR (QS budget) l' ((X.drop (k+1)).filterMap (Kw n w x))=T->
       Qg (Gx k l') λo=>(∀s',o=.inl s'->k<X.length/\s'.1=((k+1:Nat):Int)/\(∀x∈s'.2,Yr n x)/\s'.2.length<=QS budget/\s'.2[i]? = some x/\Yq XR (QS budget) s'.2 ((X.drop s'.1.toNat).filterMap (Kw n w x))=T)/\
        ∀r:L_ (L_ Bag)⊕L_ (L_ Bag),o=.inr r->(∀o,r=.inl o->T=.inl o)/\∀o,r=.inr o->T=.inr o/\(∀x∈o,Yr n x)/\o.length<=QS budget:=λl' f2 f3 f4 f5=>by
      unfold Gx
      refine T2 (QG (ix:=λst:Int×L_ (L_ Bag)=>st.1) (J:=λst:Int×L_ (L_ Bag)=>(∀x∈st.2,Yr n x)/\st.2.length<=QS budget/\st.2[i]? = some x/\Yq XR (QS budget) st.2 ((X.drop st.1.toNat).filterMap (Kw n w x))=T) ⟨i2,hw,f2,f3,f4,?_⟩)
      show Yq XR (QS budget) l' ((X.drop (Qj ((k:Int)+1)).toNat).filterMap (Kw n w x))=T
      rw[hw,XH];exact f5
     rw[QR,Qy i2,Qd]
     rw[Nt i2,List.filterMap_cons]at j
     have hox:=hok _ (Xs i2)
     generalize X[k]=o at j hox ⊢
     refine T1 (λhc3=>?_) λhc3=>?_
     ·have:Kw n w x o=none:=by unfold Kw;rw[if_pos (by simpa using hc3)]
      rw[this]at j
      exact next l k2 k3 k4 j
     simp only[beq_eq_false_iff_ne]at hc3
     rw[QR,k4,Qd,Qd]
     obtain⟨⟨y,c⟩,hD,_⟩:=Qog n x o 1024 h D.1 (by omega) hox
     rw[Qo4 h hr (by omega) D.1 hox,hD,Qd]
     by_cases cc:c=0
     ·subst cc
      have hgy:=QiD h D hox hD
      have:Kw n w x o=some y:=by unfold Kw;rw[if_neg hc3,hD];rfl
      rw[this]at j
      simp only at j
      rw[Yq]at j
      simp only
      rw[QnB h (by omega) k2 hgy,Qd,Qo9 h hp k2 hgy,show((0:Int) != 0)=false from rfl,RM]
      refine T1 (λhh=>?_) λhh=>?_
      ·rw[if_pos hh]at j
       exact next l k2 k3 k4 j
      rw[if_neg (by rw[hh];decide)]at j
      rw[QoG]
      refine T1 (λhf=>?_) λhf=>?_
      ·simp only[QC]at hf
       rw[if_pos (by omega)]at j
       exact T2 (Qp ⟨λo e=>(by cases e;exact j.symm),λo e=>by cases e⟩)
      simp only[QV]at hf
      rw[if_neg (by omega)]at j
      refine T0 (T5 (by simp;omega)) λ_ _=>?_
      refine next _ (λz hz=>?_) (by simp;omega) (by rw[YY ((Xe.1 k4).1)];exact k4) j
      rcases YM.1 hz with hz | hz
      ·exact k2 z hz
      simp at hz;subst hz;exact hgy
     have:Kw n w x o=none:=by unfold Kw;rw[if_neg hc3,hD];simp only;rw[if_neg cc]
     rw[this]at j
     obtain rfl:=QpK hD cc
     simp only
     rw[Qms h (by omega) k2,Qd,show(c != 0)=true by simpa using cc,Bool.true_or,Qx]
     exact next l k2 k3 k4 j
    cases e
    simp only[QV]at hc2
    rw[Qf8 (by omega),List.filterMap_nil,Yq]at j
    exact⟨j.symm,k2,k3⟩
   obtain⟨q,hq1,hq2,hq3⟩:=inner
   rw[hq1,Qd]
   rcases q with q | o
   ·have:=hq2 q rfl
    rw[this]at j4
    show Qg (Nb q) _
    unfold Nb
    exact T2 (Qp ⟨λl' e=>(by cases e;exact j4.symm),λl' e=>by cases e⟩)
   obtain⟨f1,f3,f4⟩:=hq3 o rfl
   rw[f1]at j4
   simp only at j4
   show Qg (Nc i o) _
   unfold Nc
   have hw:Qj ((i:Int)+1)=((i+1:Nat):Int):=Qr (by omega:i<QS budget) (by unfold maxLen;omega)
   refine T2 (QG ⟨by omega,hw,f3,f4,?_⟩)
   show Gf XR (AQ n w) (QS budget) (QS budget+1-(Qj ((i:Int)+1)).toNat) o (Qj ((i:Int)+1)).toNat=R
   rw[hw,XH,show QS budget+1-(i+1)=QS budget-i by omega]
   exact j4
  cases e
  simp only[QV]at hc
  rw[Vi (by omega)]at j4
  exact j4.symm
 obtain⟨q,hq1,hq2,hq3⟩:=main
 rw[hq1,Qd]
 rcases q with q | q
 ·rw[hq2 q rfl];rfl
 rw[hq3 q rfl];rfl
def asc_ext : ∀{a b:L_ Int},a.Pairwise (·<·)->b.Pairwise (·<·)->(∀k,k∈a↔k∈b)->a=b:=by
 intro a
 induction a with
 | nil=>
  intro b _ _ e
  cases b with
  | nil=>rfl
  | cons y s=>have:=(e y).2 XQ;cases this
 | cons x r ih=>
  intro b ha hb e
  cases b with
  | nil=>have:=(e x).1 XQ;cases this
  | cons y s=>
   obtain⟨a1,a2⟩:=RT.1 ha
   obtain⟨b1,b2⟩:=RT.1 hb
   have h1:x=y:=by
    rcases Yt.1 ((e x).1 XQ)with h | h
    ·exact h
    rcases Yt.1 ((e y).2 XQ)with D | D
    ·exact D.symm
    have:=b1 x h;have:=a1 y D;omega
   subst h1
   refine congrArg (x::·) (ih a2 b2 λk=>?_)
   constructor
   ·intro j
    rcases Yt.1 ((e k).1 (Yf _ j))with h | h
    ·subst h;have:=a1 k j;omega
    exact h
   intro j
   rcases Yt.1 ((e k).2 (Yf _ j))with h | h
   ·subst h;have:=b1 k j;omega
   exact h
def Qmt {l:L_ Int}:∀(j:Nat) (h:j<l.length),l[j]∈Dv l:=by
 intro j
 induction j with
 | zero=>
  intro h
  unfold Dv Lib.compact Lib.compactUpTo
  refine YN.2 ⟨0,Mc.2 ⟨Au.2 h,?_⟩,Lb h⟩
  unfold Lib.keeps
  simp
 | succ j ih=>
  intro h
  have D:j<l.length:=by omega
  by_cases e:l[j+1]=l[j]
  ·rw[e];exact ih D
  unfold Dv Lib.compact Lib.compactUpTo
  refine YN.2 ⟨j+1,Mc.2 ⟨Au.2 h,?_⟩,Lb h⟩
  unfold Lib.keeps
  rw[show j+1-1=j from rfl,Lb h,Lb D]
  exact QB (.inr e)
def Qjx {l:L_ Int}{x:Int}:x∈Dv l↔x∈l:=⟨Qi3,λh=>by
 obtain⟨j,D,rfl⟩:=Nv.1 h
 exact Qmt j D⟩
def EmP (n:Qn)(m:L_ Bag)(h:Int)(r:L_ Int):Prop:=∀k,k∈r↔Ie m k/\∃e,idx n.Tasks h=some e/\∃a∈e.Ins,a.Place=k
def Qlb (n:Qn)(m:L_ Bag)(task:Int)(h:Xd n):Qg (JD n m task) λr=>EmP n m task r/\r.Pairwise (·<·):=by
 unfold JD
 refine T1 (λhc=>T2 ⟨λk=>⟨λh=>(by cases h),λ⟨_,e,he,_⟩=>?_⟩,List.Pairwise.nil⟩) λhc=>?_
 ·obtain⟨h0,j⟩:=Ys he
  have:=(Xe.1 j).1
  simp only[Kh,QC]at hc
  omega
 simp only[Kn,QV]at hc
 refine T0 (T4 (by omega) (by omega)).self λe he=>?_
 have hil:=(h.tk e he.2).2.1
 refine T0 (Qg.up e.Ins.length (λst=>st.1) (λst=>(st.2.length:Int)<=st.1/\∀k,k∈st.2↔Ie m k/\∃a∈e.Ins.take st.1.toNat,a.Place=k) (Q:=λq:L_ Int=>q.length<=16/\∀k,k∈q↔Ie m k/\∃a∈e.Ins,a.Place=k) rfl ⟨by simp,λk=>⟨λh=>(by cases h),λ⟨_,a,ha,_⟩=>(by cases ha)⟩⟩ (λi st hi hn hJ=>?_)) (λq hq=>?_)
 ·obtain⟨x,l⟩:=st
  replace hi:x=(i:Int):=hi
  subst hi
  obtain⟨j1,j2⟩:(l.length:Int)<=(i:Int)/\∀k,k∈l↔Ie m k/\∃a∈e.Ins.take (i:Int).toNat,a.Place=k:=hJ
  rw[XH]at j2
  show Qg (EH e m i l) _
  unfold EH
  refine T1 (λhc2=>?_) (λhc2=>T2 (Qp ⟨by omega,?_⟩))
  rotate_left
  ·simp only[QV]at hc2
   rw[KE (by omega)]at j2;exact j2
  simp only[QC]at hc2
  have i1:i<e.Ins.length:=by omega
  have hw:Qj ((i:Int)+1)=((i+1:Nat):Int):=Qr i1 (by unfold maxLen;omega:e.Ins.length<=maxLen)
  rw[QR,Qy i1,Qd]
  refine T0 (P:=λy=>y=true↔Ie m (e.Ins[i]).Place) ?_ λy hy=>?_
  ·unfold Lt
   refine T1 (λc1=>?_) λc1=>T2 ⟨λh=>(by cases h),λh=>absurd h.1 (by simpa using c1)⟩
   refine T1 (λc2=>?_) λc2=>T2 ⟨λh=>(by cases h),λh=>absurd h.2.1 (by simpa using c2)⟩
   simp only[QC]at c1 c2
   have hk:(e.Ins[i]).Place.toNat<m.length:=by omega
   rw[Wu c1,Qy hk,Qd]
   refine T2 ⟨λhz=>⟨c1,c2,?_⟩,λhz=>?_⟩
   ·simp only[beq_iff_eq]at hz
    rw[Qy hk,FO.1 (show(m[(e.Ins[i]).Place.toNat]).length=0 by omega)]
   have:=hz.2.2
   rw[Qy hk]at this
   rw[Option.some.inj this];rfl
  unfold Lu EG
  have put:∀k,(∃a∈e.Ins.take (i+1),a.Place=k)↔(∃a∈e.Ins.take i,a.Place=k)\/(e.Ins[i]).Place=k:=λk=>by
   rw[Wr i1]
   constructor
   ·rintro ⟨a,ha,rfl⟩
    rcases YM.1 ha with ha | ha
    ·exact .inl ⟨a,ha,rfl⟩
    simp at ha;subst ha;exact .inr rfl
   rintro (⟨a,ha,rfl⟩|rfl)
   ·exact⟨a,Qdb _ ha,rfl⟩
   exact⟨_,Qf9 _ (by simp),rfl⟩
  refine T1 (λc1=>?_) λc1=>?_
  ·refine T0 (T5 (by simp;omega)) λ_ _=>?_
   refine T2 (QG ⟨i1,hw,by show((l++[_]).length:Int)<=Qj _;rw[hw];simp;omega,λk=>?_⟩)
   show k∈l++[_]↔Ie m k/\∃a∈e.Ins.take (Qj ((i:Int)+1)).toNat,a.Place=k
   rw[hw,XH,put k,YM,j2 k]
   constructor
   ·rintro (⟨j,D⟩|hk)
    ·exact⟨j,.inl D⟩
    simp at hk;subst hk;exact⟨hy.1 c1,.inr rfl⟩
   rintro ⟨j,D | rfl⟩
   ·exact .inl ⟨j,D⟩
   exact .inr (by simp)
  refine T2 (QG ⟨i1,hw,by show(l.length:Int)<=Qj _;rw[hw];omega,λk=>?_⟩)
  show k∈l↔Ie m k/\∃a∈e.Ins.take (Qj ((i:Int)+1)).toNat,a.Place=k
  rw[hw,XH,put k,j2 k]
  constructor
  ·rintro ⟨j,D⟩
   exact⟨j,.inl D⟩
  rintro ⟨j,D | rfl⟩
  ·exact⟨j,D⟩
  have:=hy.2 j;rw[c1]at this;cases this
 obtain⟨q1,q2⟩:=hq
 show Qg (EI q) _
 unfold EI
 rw[Qba _ (by omega),Qd]
 refine T0 (T5 (by simp[DP])) λ_ _=>?_
 unfold DB
 rw[GJ (by rw[DP];omega),Qd,Qd]
 refine T2 ⟨λk=>?_,Qi4 (QkG q)⟩
 rw[Qjx,Qi5,q2 k]
 constructor
 ·rintro ⟨j,D⟩
  exact⟨j,e,he.1,D⟩
 rintro ⟨j,e',he',D⟩
 rw[he.1]at he';cases he'
 exact⟨j,D⟩
def QkM (n:Qn)(m:L_ Bag)(D:Int)(h:Xd n)(hl:m.length<=70):Qg (Ar n m D) λr=>EmP n m D r/\r.Pairwise (·<·):=by
 have mx:(70:Nat)<=maxLen:=by decide
 unfold Ar
 by_cases hc:0<=D/\D<n.Tasks.length
 ·obtain⟨e,he,hmem⟩:=T4 hc.1 hc.2
  have hil:=(h.tk e hmem).2.1
  refine T0 (Qg.up m.length (λst=>st.1) (λst=>((st.2.length:Int)<=st.1/\st.2.Pairwise (·<·))/\∀k,k∈st.2↔k<st.1/\Ie m k/\∃a∈e.Ins,a.Place=k) (Q:=λq:L_ Int=>(∀k,k∈q↔Ie m k/\∃a∈e.Ins,a.Place=k)/\q.Pairwise (·<·)) rfl ⟨⟨by simp,List.Pairwise.nil⟩,λk=>⟨λh=>(by cases h),λ⟨h1,h2,_⟩=>absurd h2.1 (by show ¬0<=k;have:k<(0:Int):=h1;omega)⟩⟩ (λi st hi hn hJ=>?_)) (λq hq=>?_)
  ·obtain⟨x,l⟩:=st
   replace hi:x=(i:Int):=hi
   subst hi
   obtain⟨⟨j1,j3⟩,j2⟩:((l.length:Int)<=(i:Int)/\l.Pairwise (·<·))/\∀k,k∈l↔k<(i:Int)/\Ie m k/\∃a∈e.Ins,a.Place=k:=hJ
   show Qg (UE m D n i l) _
   unfold UE
   rw[QB hc.1,QB hc.2,Bool.and_true,Bool.and_true]
   refine T1 (λhc2=>?_) (λhc2=>T2 (Qp ⟨λk=>?_,j3⟩))
   rotate_left
   ·simp only[QV]at hc2
    rw[j2 k]
    exact⟨λh=>h.2,λh=>⟨by have:=h.1.2.1;omega,h⟩⟩
   simp only[QC]at hc2
   have i1:i<m.length:=by omega
   have hw:Qj ((i:Int)+1)=((i+1:Nat):Int):=Qr i1 (by omega:m.length<=maxLen)
   refine T0 (P:=λb=>b=true↔∃a∈e.Ins,a.Place=(i:Int)) (Qg.up e.Ins.length (λst=>st.2) (λst=>st.1=true↔∃a∈e.Ins.take st.2.toNat,a.Place=(i:Int)) rfl ⟨λh=>(by cases h),λ⟨a,ha,_⟩=>(by cases ha)⟩ (λj st hj hn2 hK=>?_)) λb hb=>?_
   ·obtain⟨b,x⟩:=st
    replace hj:x=(j:Int):=hj
    subst hj
    replace hK:b=true↔∃a∈e.Ins.take (j:Int).toNat,a.Place=(i:Int):=hK
    rw[XH]at hK
    show Qg (Nd n D i b j) _
    unfold Nd
    rw[he,Qd]
    refine T1 (λhc3=>?_) (λhc3=>T2 (Qp ?_))
    rotate_left
    ·simp only[QV]at hc3
     rw[KE (by omega)]at hK;exact hK
    simp only[QC]at hc3
    have k1:j<e.Ins.length:=by omega
    have hw2:Qj ((j:Int)+1)=((j+1:Nat):Int):=Qr k1 (by unfold maxLen;omega:e.Ins.length<=maxLen)
    refine T0 (P:=λy=>y=true↔(b=true\/(e.Ins[j]).Place=(i:Int))) ?_ λy hy=>?_
    ·unfold TE
     refine T1 (λc=>T2 ⟨λ_=>.inl c,λ_=>rfl⟩) λc=>?_
     rw[he,Qd,QR,Qy k1,Qd]
     refine T2 ⟨λh=>.inr (by simpa using h),λh=>?_⟩
     rcases h with h | h
     ·rw[c]at h;cases h
     simpa using h
    unfold TF
    refine T2 (QG ⟨k1,hw2,?_⟩)
    show y=true↔∃a∈e.Ins.take (Qj ((j:Int)+1)).toNat,a.Place=(i:Int)
    rw[hw2,XH,Wr k1,hy,hK]
    constructor
    ·rintro (⟨a,ha,e1⟩|e1)
     ·exact⟨a,Qdb _ ha,e1⟩
     exact⟨_,Qf9 _ (by simp),e1⟩
    rintro ⟨a,ha,e1⟩
    rcases YM.1 ha with ha | ha
    ·exact .inl ⟨a,ha,e1⟩
    simp at ha;subst ha;exact .inr e1
   show Qg (Nf m i l b) _
   unfold Nf
   have hmi:=Qy i1
   refine T0 (P:=λy=>y=true↔Ie m i/\∃a∈e.Ins,a.Place=(i:Int)) ?_ λy hy=>?_
   ·unfold TG
    refine T1 (λc=>?_) λc=>T2 ⟨λh=>(by cases h),λh=>by have:=hb.2 h.2;rw[c]at this;cases this⟩
    rw[QR,hmi,Qd]
    refine T2 ⟨λhz=>⟨⟨by omega,by omega,?_⟩,hb.1 c⟩,λhz=>?_⟩
    ·simp only[beq_iff_eq]at hz
     rw[XH,hmi,FO.1 (show(m[i]).length=0 by omega)]
    have:=hz.1.2.2
    rw[XH,hmi]at this
    rw[Option.some.inj this];rfl
   unfold TH CN
   refine T1 (λc1=>?_) λc1=>?_
   ·refine T0 (T5 (by simp;omega)) λ_ _=>?_
    refine T2 (QG ⟨i1,hw,⟨by show((l++[_]).length:Int)<=Qj _;rw[hw];simp;omega,?_⟩,λk=>?_⟩)
    ·refine Qga.2 ⟨j3,by simp,λa ha c hc'=>?_⟩
     simp at hc';subst hc';exact((j2 a).1 ha).1
    show k∈l++[(i:Int)]↔k<Qj ((i:Int)+1)/\_
    rw[hw,YM,j2 k]
    constructor
    ·rintro (h1 | hk)
     ·exact⟨by omega,h1.2⟩
     simp at hk;subst hk;exact⟨by omega,hy.1 c1⟩
    rintro ⟨h1,h2⟩
    by_cases ck:k=(i:Int)
    ·exact .inr (by simp[ck])
    exact .inl ⟨by omega,h2⟩
   refine T2 (QG ⟨i1,hw,⟨by show(l.length:Int)<=Qj _;rw[hw];omega,j3⟩,λk=>?_⟩)
   show k∈l↔k<Qj ((i:Int)+1)/\_
   rw[hw,j2 k]
   constructor
   ·rintro ⟨h1,h2⟩
    exact⟨by omega,h2⟩
   rintro ⟨h1,h2⟩
   refine⟨?_,h2⟩
   by_cases ck:k=(i:Int)
   ·subst ck;have:=hy.2 h2;rw[c1]at this;cases this
   omega
  show Qg (UF q) _
  unfold UF
  refine T2 ⟨λk=>?_,hq.2⟩
  rw[hq.1 k]
  exact⟨λ⟨a,b⟩=>⟨a,e,he,b⟩,λ⟨a,e',h1,b⟩=>by rw[he]at h1;cases h1;exact⟨a,b⟩⟩
 refine T0 (P:=λq:L_ Int=>q=[]) (Qg.up 0 (λst=>st.1) (λst=>st.2=[]) rfl rfl (λi st hi hn hJ=>?_)) λq hq=>?_
 ·obtain⟨x,l⟩:=st
  replace hJ:l=[]:=hJ
  subst hJ
  show Qg (UE m D n x []) _
  unfold UE
  have:(decide (0<=D)&&decide (D<(n.Tasks.length:Int)))=false:=by
   rw[Bool.and_eq_false_iff,QV,QV]
   omega
  rw[this,Bool.and_false]
  exact T2 (Qp rfl)
 subst hq
 show Qg (UF []) _
 unfold UF
 refine T2 ⟨λk=>⟨λh=>(by cases h),λ⟨_,e,he,_⟩=>?_⟩,List.Pairwise.nil⟩
 obtain⟨h0,h1⟩:=Ys he
 have:=(Xe.1 h1).1
 omega
def Qi8 {n:Qn}{m:L_ Bag}(j:Int)(h:Xd n)(D:m.length<=70):Ar n m j=some (AR n m j):=by
 obtain⟨r,r1,r2,r3⟩:=QkM n m j h D
 obtain⟨s,s1,s2,s3⟩:=Qlb n m j h
 unfold AR
 rw[r1,s1,asc_ext r3 s3 λk=>(r2 k).trans (s2 k).symm];rfl
def Qlp : ∀{l:L_ Int} {a N:Nat},l.Pairwise (·<·)->(∀k∈l,(a:Int)<=k/\k<N)->a<=N->l.length+a<=N:=by
 intro l
 induction l with
 | nil=>intro a N _ _ h;simpa using h
 | cons x r ih=>
  intro a N h D ha
  obtain⟨h1,h2⟩:=RT.1 h
  have hx:=D x XQ
  have:=ih (a:=x.toNat+1) (N:=N) h2 (λk j=>by have:=h1 k j;have:=D k (Yf _ j);omega) (by omega)
  rw[DX];omega
def QqA {l:L_ (L_ Bag)}{fl:Bool}{e:L_ Int}(i:Nat)(hi:i<l.length)(he:e.length<=maxLen)(hk:∀k∈e,0<=k/\k<(l[i]).length):Qg (Qs (λst=>CO e (l,fl) i st) 0) λq=>(q=.inl ()->UY e l[i]=true)/\(q=.inr ()->UY e l[i]=false):=by
 have hx:=Qy hi
 generalize l[i]=x at hk hx ⊢
 refine Qg.up e.length (λst=>st) (λst=>UY (e.take st.toNat) x=false) rfl rfl (λj st hj hn hJ=>?_)
 replace hj:st=(j:Int):=hj
 subst hj
 rw[XH]at hJ
 show Qg (CO e (l,fl) i j) _
 unfold CO
 refine T1 (λhc=>?_) (λhc=>T2 (Qp ⟨λh=>(by cases h),λ_=>?_⟩))
 ·simp only[QC]at hc
  have D:j<e.length:=by omega
  obtain⟨k0,k1⟩:=hk _ (Xs D)
  have k2:(e[j]).toNat<x.length:=by omega
  simp only
  rw[QR,hx,Qd,QR,Qy D,Qd,Wu k0,Qy k2,Qd]
  have hd:((x[(e[j]).toNat]?).getD [])=x[(e[j]).toNat]:=by rw[Qy k2];rfl
  refine T1 (λc=>T2 (Qp ⟨λ_=>?_,λh=>by cases h⟩)) λc=>T2 (QG ⟨D,Qr D he,?_⟩)
  ·exact GX.2 ⟨e[j],Xs D,by rw[hd];exact c⟩
  rw[Qr D he,XH,Wr D]
  unfold UY at hJ ⊢
  rw[List.any_append,hJ,RM,List.any_cons,List.any_nil,Vh,hd]
  exact c
 simp only[QV]at hc
 rw[KE (by omega)]at hJ
 exact hJ
def Qi9 {n:Qn}{m:L_ Bag}(o:Qh)(budget:Int)(h:Xd n)(hr:RN n)(hb:Bd n)(hp:n.Places.length<=64)(hg:Yr n m)(ho:YQ n o):Fk n m o budget=some (OG n m o budget):=by
 have D:=hg.len h
 have hpl:=h.pl
 have mx:(4096:Nat)<=maxLen:=by decide
 unfold Fk
 rw[Qbd h hr D ho]
 obtain⟨x,hx,_⟩:=Qah n m o h D ho
 rw[hx,Qd]
 by_cases c:x=0
 rotate_left
 ·rw[show(x != 0)=true by simpa using c]
  unfold OG
  rw[if_neg (by rw[hx];simpa using c)];rfl
 subst c
 obtain⟨e,he,hmem⟩:=QhD h D ho hx
 rw[show((0:Int) != 0)=false from rfl,Qq,he,Qd]
 unfold OG
 rw[if_pos hx,he]
 simp only
 by_cases c3:e.Join=3
 rotate_left
 ·rw[show(e.Join != 3)=true by simpa using c3,if_neg c3];rfl
 rw[show(e.Join != 3)=false by simpa using c3,Qq,if_pos c3,Qex o.Task budget h hr hb hp hg,Qd,Qi8 o.Task h (by rw[hg.1.1];omega),Qd]
 obtain⟨_,e1,e2⟩:=Qf5 n m o.Task h
 obtain⟨g1,g2,_,_⟩:=Qbh (w:=o.Task) (budget:=budget) h hg
 have hmo:=Sm budget
 have hel:(AR n m o.Task).length<=maxLen:=by
  have hs:(AR n m o.Task).length<=m.length:=by have:=Qlp (a:=0) (N:=m.length) e2 (λk hk=>⟨(e1 k hk).1,(e1 k hk).2.1⟩) (LH _);omega
  rw[hg.1.1]at hs;omega
 unfold QhC
 generalize UH n o.Task budget m=R at g1 g2
 obtain⟨l,fl⟩:=R
 replace g1:∀x∈l,Yr n x:=g1
 replace g2:l.length<=QS budget:=g2
 generalize AR n m o.Task=E at e1 hel ⊢
 have main:Qg (Qs (λst=>CP (l,fl) E st) 0) λq=>(q=.inl ()->l.any (UY E)=true)/\(q=.inr ()->l.any (UY E)=false):=by
  refine Qg.up l.length (λst=>st) (λst=>(l.take st.toNat).any (UY E)=false) rfl rfl (λi st hi hn hJ=>?_)
  replace hi:st=(i:Int):=hi
  subst hi
  rw[XH]at hJ
  show Qg (CP (l,fl) E i) _
  unfold CP
  refine T1 (λj=>?_) (λj=>T2 (Qp ⟨λh=>(by cases h),λ_=>?_⟩))
  ·replace j:decide ((i:Int)<(l.length:Int))=true:=j
   simp only[QC]at j
   have i1:i<l.length:=by omega
   obtain⟨q,q1,q2,q3⟩:=QqA (fl:=fl) i i1 hel λk hk=>by
    have h1:=e1 k hk
    have h2:=(g1 _ (Xs i1)).1.1
    have h3:=hg.1.1
    exact⟨h1.1,by have:=h1.2.1;omega⟩
   rw[q1,Qd]
   rcases q with q | q
   ·exact T2 (Qp ⟨λ_=>GX.2 ⟨_,Xs i1,q2 rfl⟩,λh=>by cases h⟩)
   refine T2 (QG ⟨i1,Qr i1 (by omega),?_⟩)
   rw[Qr i1 (by omega),XH,Wr i1,List.any_append,hJ,RM,List.any_cons,List.any_nil,Vh]
   exact q3 rfl
  replace j:decide ((i:Int)<(l.length:Int))=false:=j
  simp only[QV]at j
  rw[KE (by omega)]at hJ
  exact hJ
 obtain⟨q,q1,q2,q3⟩:=main
 rw[q1,Qd]
 rcases q with q | q
 ·show TJ=some (if l.any (UY E)=true then 0 else if fl=true then 1 else 2)
  rw[if_pos (q2 rfl)];rfl
 show Ng (l,fl)=some (if l.any (UY E)=true then 0 else if fl=true then 1 else 2)
 rw[if_neg (by rw[q3 rfl];decide)]
 unfold Ng
 cases fl<;>rfl
def Cb (n:Qn)(m:L_ Bag)(budget t:Int):Int:=match idx n.Tasks t with
 | some e=>if e.Join=3 then QhC n m t budget else 1
 | none=>0
def Qov {n:Qn}{m:L_ Bag}{o:Qh}(budget:Int)(h:Ye n m o=some 0):OG n m o budget=Cb n m budget o.Task:=by
 unfold OG Cb
 cases idx n.Tasks o.Task<;>exact if_pos h
def QnD {n:Qn}{m:L_ Bag}(budget:Int)(h:Xd n)(hr:RN n)(hb:Bd n)(hp:n.Places.length<=64)(hg:Yr n m):∃r,Fc n m budget 20=some r/\OB n m budget 20=some r/\r.1.length<=20/\∀o∈r.1,YQ n o:=by
 have hml:=hg.len h
 have mx:(20:Nat)<=maxLen:=by decide
 unfold Fc OB
 rw[QkC h hr hml (by unfold Xy;omega) (.inl (by omega)),Qbc n m 20 h hml (by omega) (by omega) (.inl (by omega)),Qd,Qd]
 have hmem:∀o∈(GB n m).take (20:Int).toNat,o∈GB n m:=λo D=>UI D
 have hlen:((GB n m).take (20:Int).toNat).length<=20:=by rw[Wm];omega
 have hok:=λo=>Qhu (o:=o) h hml
 have hck:∀o∈GB n m,Ye n m o=some 0:=λo D=>(Ze h hml (hok o D)).2 (Qli.1 D)
 generalize (GB n m).take (20:Int).toNat=X at hmem hlen ⊢
 have main:∃r q,Qs (λst:Bool×Int×L_ Qh×L_ (Int×Int)=>WO X n m budget st.1 st.2.1 st.2.2.1 st.2.2.2) (true,0,[],[])=some r/\Qs (λst:Bool×Int×L_ Qh=>Er X n m budget st.1 st.2.1 st.2.2) (true,0,[])=some q/\(r=q/\r.2.length<=20/\∀o∈r.2,YQ n o):=by
  refine TS (b1:=λst:Bool×Int×L_ Qh×L_ (Int×Int)=>WO X n m budget st.1 st.2.1 st.2.2.1 st.2.2.2) (b2:=λst:Bool×Int×L_ Qh=>Er X n m budget st.1 st.2.1 st.2.2) X.length
   (λi s t=>s.1=t.1/\s.2.1=(i:Int)/\t.2.1=(i:Int)/\s.2.2.1=t.2.2/\s.2.2.1.length<=i/\(∀o∈s.2.2.1,YQ n o)/\∀k v,QW s.2.2.2 k=some v->v=Cb n m budget k) (λr q=>r=q/\r.2.length<=20/\∀o∈r.2,YQ n o) (λi s t hn hI=>?_) (true,0,[],[]) (true,0,[]) ⟨rfl,rfl,rfl,rfl,JE _,λo D=>(by cases D),λk v hv=>(by cases hv)⟩
  obtain⟨kn,x,l,mm⟩:=s
  obtain⟨kn',x',l'⟩:=t
  obtain⟨a1,a2,a3,a4,a5,a6,a7⟩:=hI
  replace a1:kn=kn':=a1
  replace a2:x=(i:Int):=a2
  replace a3:x'=(i:Int):=a3
  replace a4:l=l':=a4
  subst a1 a2 a3 a4
  replace a5:l.length<=i:=a5
  replace a6:∀o∈l,YQ n o:=a6
  replace a7:∀k v,QW mm k=some v->v=Cb n m budget k:=a7
  show(_/\∃s' t',WO X n m budget kn i l mm=_/\Er X n m budget kn i l=_/\_)\/∃r q,WO X n m budget kn i l mm=_/\Er X n m budget kn i l=_/\_
  unfold WO Er
  by_cases hc:i<X.length
  ·left
   refine⟨hc,?_⟩
   have hw:Qj ((i:Int)+1)=((i+1:Nat):Int):=Qr hc (by omega:X.length<=maxLen)
   have D:=hmem _ (Xs hc)
   rw[QB (by omega:(i:Int)<(X.length:Int)),Qx,Qx,QR,Qy hc,Qd,Qd]
   generalize X[i]=o at D ⊢
   have hoo:=hok o D
   rw[Qi9 o budget h hr hb hp hg hoo,QkH o budget h hb hg hoo,Qov budget (hck o D),Qd,Qd,Qd]
   have fin:∀mm':L_ (Int×Int),QW mm' o.Task=some (Cb n m budget o.Task)->(∀k v,QW mm' k=some v->v=Cb n m budget k)->
     ∃s' t',Uw o l i kn mm'=some (.inl s')/\(bif (Cb n m budget o.Task==1)then(chk (decide (l.length+([o]:L_ Qh).length<=4294967296))).bind λ_=>Ep (Cb n m budget o.Task) i kn (l++([o]:L_ Qh))else Ep (Cb n m budget o.Task) i kn l)=some (.inl t')/\
      (s'.1=t'.1/\s'.2.1=((i+1:Nat):Int)/\t'.2.1=((i+1:Nat):Int)/\s'.2.2.1=t'.2.2/\s'.2.2.1.length<=i+1/\(∀o∈s'.2.2.1,YQ n o)/\∀k v,QW s'.2.2.2 k=some v->v=Cb n m budget k):=λmm' f1 f2=>by
    unfold Uw Ep Uv Hu
    rw[f1]
    simp only[Sq]
    by_cases c1:Cb n m budget o.Task=1
    ·rw[c1]
     rw[show((1:Int)==1)=true from rfl,show((1:Int)==2)=false from rfl,Qx,Qx,Qq,GJ (by simp;omega),Qd,Qd]
     exact⟨_,_,rfl,rfl,rfl,hw,hw,rfl,by simp;omega,λo' j=>by
      rcases YM.1 j with j | j
      ·exact a6 o' j
      simp at j;subst j;exact hoo,f2⟩
    rw[show(Cb n m budget o.Task==1)=false by simpa using c1,Qq,Qq]
    cases (Cb n m budget o.Task==2)with
    | true=>exact⟨_,_,rfl,rfl,rfl,hw,hw,rfl,by show l.length<=i+1;omega,a6,f2⟩
    | false=>exact⟨_,_,rfl,rfl,rfl,hw,hw,rfl,by show l.length<=i+1;omega,a6,f2⟩
   cases hv:QW mm o.Task with
   | some v=>
    rw[show(!(some v).isSome)=false from rfl,Qq]
    have:=a7 _ _ hv
    subst this
    exact fin mm hv a7
   | none=>
    rw[show(!(none:O_ Int).isSome)=true from rfl,Qx]
    refine fin _ (by rw[AM,if_pos rfl]) λk v hkv=>?_
    rw[AM]at hkv
    split at hkv
    ·rename_i e
     subst e
     exact(Option.some.inj hkv).symm
    exact a7 k v hkv
  right
  rw[QF (by omega:¬(i:Int)<(X.length:Int)),Qq,Qq]
  exact⟨_,_,rfl,rfl,rfl,by show l.length<=20;omega,a6⟩
 obtain⟨r,q,h1,h2,h3,h4,h5⟩:=main
 rw[h1,h2,Qd,Qd]
 subst h3
 exact⟨_,rfl,rfl,h4,h5⟩
end Go.Proofs
