/- A part of the proof; what it holds is told at each theorem. -/
import Derived.Test.YtmhljalpjhdpeaaGreatDoorFiC
import Derived.KernelRfl
set_option linter.unusedVariables false
set_option linter.unusedSimpArgs false
set_option linter.unusedSectionVars false
set_option linter.deprecated false
noncomputable section
namespace Go.Proofs
open Go Go.RowKit Go.Vm
structure BOk (n:TNet) (m:List (List (Int×Int))) (b:Qw):Prop where
 net:b.net=n
 mm:b.m=m
 task:b.task∈n.Tasks
theorem QtT (n:TNet)(m:List (List (Int×Int)))(task:Int)(vars:List Int)(h:QcN n):TotP (QaD n m task vars) fun r=>r.1=0→BOk n m r.2:=by
 unfold QaD
 refine TotP.bind (QuD n task vars h) fun x hx=>?_
 refine TotP.bif (fun hc=>TotP.ok fun h=>absurd h (by simpa using hc)) fun hc=>?_
 have:=hx (by simpa using hc)
 exact TotP.bind (TotP.idx this.1 this.2) fun e he=>TotP.ok fun _=>⟨rfl,rfl,he⟩
theorem QsS (n:TNet)(m:List (List (Int×Int)))(b:Qw)(h:QcN n)(hb:BOk n m b):TotP (QM b) fun _=>True:=by
 unfold QM
 refine TotP.bind (QsR _ _ (h.k.2.2.1.2 _ hb.task).2.2.1) fun x _=>?_
 exact TotP.bif (fun _=>TotP.okT) fun _=>TotP.bif (fun _=>TotP.okT) fun _=>TotP.okT
theorem Qrv (n:TNet)(m:List (List (Int×Int)))(b:Qw)(outs:List Int)(h:QcN n)(hb:BOk n m b)(ho:outs.length≤1000):TotP (QR b outs) fun _=>True:=by
 unfold QR
 rw [hb.net]
 exact TotP.bind (Qk3 n _ outs _ h (h.k.2.2.1.2 _ hb.task).2.2.2.2.2.2.1 ho) fun x _=>TotP.okT
theorem QpJ (l:List Int)(x:Int)(h:l.length≤maxLen):TotP (Qaz l x) fun _=>True:=Qgm l x ⟨h,fun _ _=>trivial⟩
theorem QiK (l:List Int)(h:l.length≤4294967296):Qak l=some l:=by
 unfold Qak
 rw [Qr2 (by simpa using h)];rfl
theorem Qq6 (l:List Int)(h:l.length≤4294967296):Qa2 l=some (Qb1 l):=by
 unfold Qa2
 rw [Qr2 (by omega)];rfl
theorem QtU (n:TNet)(m:List (List (Int×Int)))(b:Qw)(ins:List Int)(h:QcN n)(hb:BOk n m b)(hm:lenL (lenL fun _=>True) m)(hi:ins.length≤100):TotP (QF b ins) fun _=>True:=by
 have ki:=(h.k.2.2.1.2 _ hb.task).2.2.2.2.2.1
 have kl:=(h.tk _ hb.task).2.1
 unfold QF
 rw [hb.net,hb.mm]
 refine TotP.bind (Qk3 n _ ins _ h ki (by omega)) fun x hx=>?_
 refine TotP.bif (fun _=>TotP.okT) fun hc=>?_
 have hx:=hx (by simpa using hc)
 refine TotP.bind (Qo4 _ _ (hx.1.len h (by omega)) hm) fun y _=>?_
 refine TotP.bif (fun _=>TotP.okT) fun _=>TotP.bif (fun _=>TotP.okT) fun _=>?_
 refine TotP.bind (TotP.up b.task.Ins.length (fun st=>st) (fun _=>True) (Q:=fun _=>True) rfl trivial (fun i st hi hn _=>?_)) (fun q _=>?_)
 ·show TotP (QaB b ins st) _
  unfold QaB
  refine TotP.bif (fun hc=>?_) (fun _=>TotP.ok (Qn trivial))
  simp only [decide_eq_true_eq]at hc
  have step:TotP (Qbq st) fun o=>(∀s',o=.inl s'→i<b.task.Ins.length∧s'=((i+1:Nat):Int)∧True)∧∀r:Unit⊕Unit,o=.inr r→True:=
   TotP.ok (QC (ix:=fun st=>st) (J:=fun _=>True) (Q:=fun _=>True) ⟨by omega,by rw [hi];exact Qz (by omega) ki.1,trivial⟩)
  refine TotP.bind (QpJ ins st (by unfold maxLen;omega)) fun z _=>?_
  refine TotP.bif (fun _=>step) fun _=>?_
  rw [QiK ins (by omega),Option.bind_some]
  refine TotP.bind (TotP.chk (by simp;omega)) fun _ _=>?_
  rw [Qq6 _ (by simp;omega),Option.bind_some]
  refine TotP.bind (TotP.chk (by simp [Qe5])) fun _ _=>?_
  rw [hb.net]
  refine TotP.bind (Qk3 n _ _ _ h ki (by rw [Qe5];simp;omega)) fun u hu=>?_
  refine TotP.bind (P:=fun _=>True) ?_ fun v _=>?_
  ·unfold Qde
   rw [hb.mm]
   refine TotP.bif (fun hc2=>?_) fun _=>TotP.okT
   have hu:=hu (by simpa using hc2)
   refine TotP.bind (Qo4 _ _ (hu.1.len h (by rw [Qe5];simp;omega)) hm) fun _ _=>TotP.okT
  ·unfold Qbr
   exact TotP.bif (fun _=>TotP.ok (Qn trivial)) fun _=>step
 ·rcases q with q | q
  ·exact TotP.okT
  ·exact TotP.okT
def Qjq (r:List (List Int)):Prop:=r.length≤16∧∀row∈r,row.length≤16
def chB (o:Option (List (List Int))):Bool:=match o with
 | some r=>decide (r.length≤16)&&r.all fun row=>decide (row.length≤16)
 | none=>false
theorem Qq7 {o:Option (List (List Int))}(h:chB o=true):TotP o Qjq:=by
 cases o with
 | none=>cases h
 | some r=>
  simp only [chB,Bool.and_eq_true,decide_eq_true_eq,List.all_eq_true]at h
  exact TotP.ok h
theorem near {arcs:Int}(h0:¬arcs<0)(h1:¬16<arcs):arcs=0∨arcs=1∨arcs=2∨arcs=3∨arcs=4∨arcs=5∨arcs=6∨arcs=7∨arcs=8∨arcs=9∨arcs=10∨arcs=11∨arcs=12∨arcs=13∨arcs=14∨arcs=15∨arcs=16:=by omega
set_option maxRecDepth 100000 in
theorem QnM (kind arcs:Int):TotP (Qa1 kind arcs) Qjq:=by
 by_cases hg:((decide (arcs<0))||((decide (16<arcs))||((kind==3)&&(decide (4<arcs)))))=true
 ·unfold Qa1
  rw [hg]
  exact TotP.ok ⟨by simp,fun r h=>by cases h⟩
 ·simp only [Bool.or_eq_true,Bool.and_eq_true,decide_eq_true_eq,beq_iff_eq,not_or,not_and]at hg
  obtain⟨h0,h1,h2⟩:=hg
  by_cases e1:kind=1
  ·subst e1
   rcases near h0 h1 with rfl | rfl | rfl | rfl | rfl | rfl | rfl | rfl | rfl | rfl | rfl | rfl | rfl | rfl | rfl | rfl | rfl<;>exact Qq7 (by kernel_rfl)
  ·by_cases e2:kind=2
   ·subst e2
    rcases near h0 h1 with rfl | rfl | rfl | rfl | rfl | rfl | rfl | rfl | rfl | rfl | rfl | rfl | rfl | rfl | rfl | rfl | rfl<;>exact Qq7 (by kernel_rfl)
   ·by_cases e3:kind=3
    ·subst e3
     have h3:=h2 rfl
     have:arcs=0∨arcs=1∨arcs=2∨arcs=3∨arcs=4:=by omega
     rcases this with rfl | rfl | rfl | rfl | rfl<;>exact Qq7 (by kernel_rfl)
    ·have f1:(kind==1)=false:=by simpa using e1
     have f2:(kind==2)=false:=by simpa using e2
     have f3:(kind==3)=false:=by simpa using e3
     unfold Qa1 QcF
     rw [f1,f2,f3]
     exact TotP.bif (fun _=>TotP.ok ⟨by simp,fun r h=>by cases h⟩) fun _=>TotP.ok ⟨by simp,fun r h=>by cases h⟩
def QpK (n:TNet)(o:Qm):Prop:=o.Vars.length≤20∧o.Ins.length≤20∧o.Outs.length≤20
end Go.Proofs
