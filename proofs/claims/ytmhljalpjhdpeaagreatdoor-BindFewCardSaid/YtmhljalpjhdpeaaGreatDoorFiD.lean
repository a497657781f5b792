/- A part of the proof; what it holds is told at each theorem. -/
import Derived.Test.YtmhljalpjhdpeaaGreatDoorFiC
import Derived.KernelRfl
set_option linter.unusedVariables false
set_option linter.unusedSimpArgs false
set_option linter.unusedSectionVars false
set_option linter.deprecated false
noncomputable section
namespace Go.Proofs
open Go Go.RowKit Go.Vm
structure BOk (n:TNet) (m:List (List (Int×Int))) (b:Qx):Prop where
 net:b.net=n
 mm:b.m=m
 task:b.task∈n.Tasks
theorem QtR (n:TNet)(m:List (List (Int×Int)))(task:Int)(vars:List Int)(h:Qfo n):TotP (QbX n m task vars) fun r=>r.1=0→BOk n m r.2:=by
 unfold QbX
 refine TotP.bind (QuB n task vars h) fun x hx=>?_
 refine TotP.bif (fun hc=>TotP.ok fun h=>absurd h (by simpa using hc)) fun hc=>?_
 have:=hx (by simpa using hc)
 exact TotP.bind (TotP.idx this.1 this.2) fun e he=>TotP.ok fun _=>⟨rfl,rfl,he⟩
theorem QsR (n:TNet)(m:List (List (Int×Int)))(b:Qx)(h:Qfo n)(hb:BOk n m b):TotP (QU b) fun _=>True:=by
 unfold QU
 refine TotP.bind (QsQ _ _ (h.k.2.2.1.2 _ hb.task).2.2.1) fun x _=>?_
 exact TotP.bif (fun _=>TotP.okT) fun _=>TotP.bif (fun _=>TotP.okT) fun _=>TotP.okT
theorem QrB (n:TNet)(m:List (List (Int×Int)))(b:Qx)(outs:List Int)(h:Qfo n)(hb:BOk n m b)(ho:outs.length≤1000):TotP (QaF b outs) fun _=>True:=by
 unfold QaF
 rw [hb.net]
 exact TotP.bind (Qo4 n _ outs _ h (h.k.2.2.1.2 _ hb.task).2.2.2.2.2.2.1 ho) fun x _=>TotP.okT
theorem Qse (l:List Int)(x:Int)(h:l.length≤maxLen):TotP (Qay l x) fun _=>True:=Qgi l x ⟨h,fun _ _=>trivial⟩
theorem Qj0 (l:List Int)(h:l.length≤4294967296):Qaj l=some l:=by
 unfold Qaj
 rw [Qr7 (by simpa using h)];rfl
theorem Qts (l:List Int)(h:l.length≤4294967296):QaZ l=some (QbT l):=by
 unfold QaZ
 rw [Qr7 (by omega)];rfl
theorem QtS (n:TNet)(m:List (List (Int×Int)))(b:Qx)(ins:List Int)(h:Qfo n)(hb:BOk n m b)(hm:lenL (lenL fun _=>True) m)(hi:ins.length≤100):TotP (QV b ins) fun _=>True:=by
 have ki:=(h.k.2.2.1.2 _ hb.task).2.2.2.2.2.1
 have kl:=(h.tk _ hb.task).2.1
 unfold QV
 rw [hb.net,hb.mm]
 refine TotP.bind (Qo4 n _ ins _ h ki (by omega)) fun x hx=>?_
 refine TotP.bif (fun _=>TotP.okT) fun hc=>?_
 have hx:=hx (by simpa using hc)
 refine TotP.bind (Qra _ _ (hx.1.len h (by omega)) hm) fun y _=>?_
 refine TotP.bif (fun _=>TotP.okT) fun _=>TotP.bif (fun _=>TotP.okT) fun _=>?_
 refine TotP.bind (TotP.up b.task.Ins.length (fun st=>st) (fun _=>True) (Q:=fun _=>True) rfl trivial (fun i st hi hn _=>?_)) (fun q _=>?_)
 ·show TotP (Qbm b ins st) _
  unfold Qbm
  refine TotP.bif (fun hc=>?_) (fun _=>TotP.ok (Qp trivial))
  simp only [decide_eq_true_eq]at hc
  have step:TotP (QbZ st) fun o=>(∀s',o=.inl s'→i<b.task.Ins.length∧s'=((i+1:Nat):Int)∧True)∧∀r:Unit⊕Unit,o=.inr r→True:=
   TotP.ok (QD (ix:=fun st=>st) (J:=fun _=>True) (Q:=fun _=>True) ⟨by omega,by rw [hi];exact Qz (by omega) ki.1,trivial⟩)
  refine TotP.bind (Qse ins st (by unfold maxLen;omega)) fun z _=>?_
  refine TotP.bif (fun _=>step) fun _=>?_
  rw [Qj0 ins (by omega),Option.bind_some]
  refine TotP.bind (TotP.chk (by simp;omega)) fun _ _=>?_
  rw [Qts _ (by simp;omega),Option.bind_some]
  refine TotP.bind (TotP.chk (by simp [QiI])) fun _ _=>?_
  rw [hb.net]
  refine TotP.bind (Qo4 n _ _ _ h ki (by rw [QiI];simp;omega)) fun u hu=>?_
  refine TotP.bind (P:=fun _=>True) ?_ fun v _=>?_
  ·unfold Qfu
   rw [hb.mm]
   refine TotP.bif (fun hc2=>?_) fun _=>TotP.okT
   have hu:=hu (by simpa using hc2)
   refine TotP.bind (Qra _ _ (hu.1.len h (by rw [QiI];simp;omega)) hm) fun _ _=>TotP.okT
  ·unfold Qb0
   exact TotP.bif (fun _=>TotP.ok (Qp trivial)) fun _=>step
 ·rcases q with q | q
  ·exact TotP.okT
  ·exact TotP.okT
def Qjr (r:List (List Int)):Prop:=r.length≤16∧∀row∈r,row.length≤16
def chB (o:Option (List (List Int))):Bool:=match o with
 | some r=>decide (r.length≤16)&&r.all fun row=>decide (row.length≤16)
 | none=>false
theorem Qrb {o:Option (List (List Int))}(h:chB o=true):TotP o Qjr:=by
 cases o with
 | none=>cases h
 | some r=>
  simp only [chB,Bool.and_eq_true,decide_eq_true_eq,List.all_eq_true]at h
  exact TotP.ok h
theorem near {arcs:Int}(h0:¬arcs<0)(h1:¬16<arcs):arcs=0∨arcs=1∨arcs=2∨arcs=3∨arcs=4∨arcs=5∨arcs=6∨arcs=7∨arcs=8∨arcs=9∨arcs=10∨arcs=11∨arcs=12∨arcs=13∨arcs=14∨arcs=15∨arcs=16:=by omega
set_option maxRecDepth 100000 in
theorem QnM (kind arcs:Int):TotP (QaY kind arcs) Qjr:=by
 by_cases hg:((decide (arcs<0))||((decide (16<arcs))||((kind==3)&&(decide (4<arcs)))))=true
 ·unfold QaY
  rw [hg]
  exact TotP.ok ⟨by simp,fun r h=>by cases h⟩
 ·simp only [Bool.or_eq_true,Bool.and_eq_true,decide_eq_true_eq,beq_iff_eq,not_or,not_and]at hg
  obtain⟨h0,h1,h2⟩:=hg
  by_cases e1:kind=1
  ·subst e1
   rcases near h0 h1 with rfl | rfl | rfl | rfl | rfl | rfl | rfl | rfl | rfl | rfl | rfl | rfl | rfl | rfl | rfl | rfl | rfl<;>exact Qrb (by kernel_rfl)
  ·by_cases e2:kind=2
   ·subst e2
    rcases near h0 h1 with rfl | rfl | rfl | rfl | rfl | rfl | rfl | rfl | rfl | rfl | rfl | rfl | rfl | rfl | rfl | rfl | rfl<;>exact Qrb (by kernel_rfl)
   ·by_cases e3:kind=3
    ·subst e3
     have h3:=h2 rfl
     have:arcs=0∨arcs=1∨arcs=2∨arcs=3∨arcs=4:=by omega
     rcases this with rfl | rfl | rfl | rfl | rfl<;>exact Qrb (by kernel_rfl)
    ·have f1:(kind==1)=false:=by simpa using e1
     have f2:(kind==2)=false:=by simpa using e2
     have f3:(kind==3)=false:=by simpa using e3
     unfold QaY Qcy
     rw [f1,f2,f3]
     exact TotP.bif (fun _=>TotP.ok ⟨by simp,fun r h=>by cases h⟩) fun _=>TotP.ok ⟨by simp,fun r h=>by cases h⟩
def QnN (n:TNet)(o:Ql):Prop:=o.Vars.length≤20∧o.Ins.length≤20∧o.Outs.length≤20
end Go.Proofs
