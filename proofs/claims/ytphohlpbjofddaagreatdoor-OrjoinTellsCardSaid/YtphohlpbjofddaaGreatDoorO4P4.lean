/- A part of the proof; what it holds is told at each theorem. -/
import Derived.Test.YtphohlpbjofddaaGreatDoorO4P3
set_option linter.all false
noncomputable section
namespace Go.Proofs
open Go Go.RowKit Go.Vm
def Qmu (a:L_ Int)(h:a.length<=maxLen):WB a a=some true:=by
 unfold WB
 rw[show((a.length:Int) != (a.length:Int))=false by simp,Qq]
 have j:Qg (Qs (λst=>FX a a st) 0) λq=>q=.inr ():=by
  refine Qg.up a.length (λst=>st) (λ_=>True) rfl trivial (λi st D hn _=>?_)
  replace D:st=(i:Int):=D
  subst D
  show Qg (FX a a i) _
  unfold FX
  refine T1 (λhc=>?_) (λ_=>T2 (Qp rfl))
  simp only[QC]at hc
  have i1:i<a.length:=by omega
  rw[QR,Qy i1,Qd,Qd,show(a[i] != a[i])=false by simp,Qq]
  exact T2 (QG ⟨i1,Qr i1 h,trivial⟩)
 obtain⟨q,q1,rfl⟩:=j
 rw[q1,Qd];rfl
def Qmv {n:Qn}{m:L_ Bag}{o:Qh}{w budget:Int}(hn:Xl n)(hr:RN n)(hm0:QO (QO λ_=>True) m):Gd n m o w budget=some true:=by
 unfold Gd
 rw[Qmp,Qd]
 obtain⟨x9,h9,hfine⟩:=Qor n m budget hn hm0
 rw[h9,Qd]
 cases hcc:((!x9)||((decide (20<(o.Vars.length:Int)))||((decide (20<(o.Ins.length:Int)))||(decide (20<(o.Outs.length:Int))))))with
 | true=>rfl
 | false=>
  simp only[Kn,Bj,QV]at hcc
  obtain⟨c1,c2,c3,c4⟩:=hcc
  subst c1
  obtain⟨h,hb,j,_⟩:=hfine rfl
  have hp:n.Places.length<=64:=by
   unfold HR at h9
   obtain⟨g,hg1,h9⟩:=Qw h9
   obtain⟨g2,D,h9⟩:=Qw h9
   unfold Oo at h9
   cases h9
   unfold On at D
   rcases Xr D with⟨c,_⟩|⟨_,D⟩
   ·subst c;exact Qla n m hg1
   cases D
  have ho:YQ n o:=⟨by omega,by omega,by omega⟩
  have hml:=j.len h
  have hpl:=h.pl
  have mx:(4096:Nat)<=maxLen:=by decide
  rw[Qq]
  obtain⟨k,hk⟩:=Qny h j
  rw[hk,Qd]
  cases decide ((40:Int)<=(k:Int))with
  | true=>rfl
  | false=>
   rw[Qq,QhB w budget h hb j,Qd,Qex w budget h hr hb hp j,Qd]
   obtain⟨g1,g2,_,_⟩:=Qbh (w:=w) (budget:=budget) h j
   have hmo:=Sm budget
   generalize UH n w budget m=R at g1 g2 ⊢
   rw[show(((R.1.length:Int) != (R.1.length:Int))||(R.2 != R.2))=false by simp,Qq]
   have main:Qg (Qs (λst=>GI R R st) 0) λq:Unit⊕Unit=>q=.inr ():=by
    refine Qg.up R.1.length (λst=>st) (λ_=>True) rfl trivial (λi st hi hn _=>?_)
    replace hi:st=(i:Int):=hi
    subst hi
    show Qg (GI R R i) _
    unfold GI
    refine T1 (λhc=>?_) (λ_=>T2 (Qp rfl))
    simp only[QC]at hc
    have i1:i<R.1.length:=by omega
    rw[QR,Qy i1,Qd,Qd,Qjw ((g1 _ (Xs i1)).len h),Qd]
    exact T2 (QG ⟨i1,Qr i1 (by omega),trivial⟩)
   obtain⟨q,q1,rfl⟩:=main
   rw[q1,Qd]
   show Bf n m budget true o w=some true
   unfold Bf LW LX
   obtain⟨r,r1,r2,r3,r4⟩:=QnD budget h hr hb hp j
   obtain⟨e1,e2,e3⟩:=Qf5 n m w h
   have hel:(AR n m w).length<=maxLen:=by
    have:=Qlp (a:=0) (N:=m.length) e3 (λk hk=>⟨(e2 k hk).1,(e2 k hk).2.1⟩) (LH _)
    have:=j.1.1
    omega
   rw[r1,Qd,r2,Qd,Qx,Qmj (n:=n) (by omega) r4,Qd,Qx,show(r.2==r.2)=true by simp,Qx,QkH o budget h hb j ho,Qd,Qi9 o budget h hr hb hp j ho,Qd,
    show(OG n m o budget==OG n m o budget)=true by simp,Qx,e1,Qd,Qi8 w h (by rw[j.1.1];omega),Qd,Qmu _ hel]
   rfl
end Go.Proofs
