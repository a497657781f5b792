/- A part of the proof; what it holds is told at each theorem. -/
import Derived.Test.YtpijolohkdchcaaGreatDoorFiC
import Derived.KernelRfl
set_option linter.unusedVariables false
set_option linter.unusedSimpArgs false
set_option linter.unusedSectionVars false
set_option linter.deprecated false
noncomputable section
namespace Go.Proofs
open Go Go.RowKit Go.Vm
structure BOk (n:TNet) (m:List (List (Int×Int))) (b:QB):Prop where
 net:b.net=n
 mm:b.m=m
 task:b.task∈n.Tasks
theorem QsN (n:TNet)(m:List (List (Int×Int)))(task:Int)(vars:List Int)(h:QaZ n):TotP (Qgn n m task vars) fun r=>r.1=0→BOk n m r.2:=by
 unfold Qgn
 refine TotP.bind (Qtq n task vars h) fun x hx=>?_
 refine TotP.bif (fun hc=>TotP.ok fun h=>absurd h (by simpa using hc)) fun hc=>?_
 have:=hx (by simpa using hc)
 exact TotP.bind (TotP.idx this.1 this.2) fun e he=>TotP.ok fun _=>⟨rfl,rfl,he⟩
theorem Qry (n:TNet)(m:List (List (Int×Int)))(b:QB)(h:QaZ n)(hb:BOk n m b):TotP (QbH b) fun _=>True:=by
 unfold QbH
 refine TotP.bind (Qt6 _ _ (h.k.2.2.1.2 _ hb.task).2.2.1) fun x _=>?_
 exact TotP.bif (fun _=>TotP.okT) fun _=>TotP.bif (fun _=>TotP.okT) fun _=>TotP.okT
theorem Qrj (n:TNet)(m:List (List (Int×Int)))(b:QB)(outs:List Int)(h:QaZ n)(hb:BOk n m b)(ho:outs.length≤1000):TotP (Qcc b outs) fun _=>True:=by
 unfold Qcc
 rw [hb.net]
 exact TotP.bind (Ql5 n _ outs _ h (h.k.2.2.1.2 _ hb.task).2.2.2.2.2.2.1 ho) fun x _=>TotP.okT
theorem Qtr (l:List Int)(x:Int)(h:l.length≤maxLen):TotP (QaA l x) fun _=>True:=QgR l x ⟨h,fun _ _=>trivial⟩
theorem QkV (l:List Int)(h:l.length≤4294967296):Qak l=some l:=by
 unfold Qak
 rw [QqB (by simpa using h)];rfl
theorem QuE (l:List Int)(h:l.length≤4294967296):Qa4 l=some (Qb7 l):=by
 unfold Qa4
 rw [QqB (by omega)];rfl
theorem QsO (n:TNet)(m:List (List (Int×Int)))(b:QB)(ins:List Int)(h:QaZ n)(hb:BOk n m b)(hm:lenL (lenL fun _=>True) m)(hi:ins.length≤100):TotP (Qcb b ins) fun _=>True:=by
 have ki:=(h.k.2.2.1.2 _ hb.task).2.2.2.2.2.1
 have kl:=(h.tk _ hb.task).2.1
 unfold Qcb
 rw [hb.net,hb.mm]
 refine TotP.bind (Ql5 n _ ins _ h ki (by omega)) fun x hx=>?_
 refine TotP.bif (fun _=>TotP.okT) fun hc=>?_
 have hx:=hx (by simpa using hc)
 refine TotP.bind (Qss _ _ (hx.1.len h (by omega)) hm) fun y _=>?_
 refine TotP.bif (fun _=>TotP.okT) fun _=>TotP.bif (fun _=>TotP.okT) fun _=>?_
 refine TotP.bind (TotP.up b.task.Ins.length (fun st=>st) (fun _=>True) (Q:=fun _=>True) rfl trivial (fun i st hi hn _=>?_)) (fun q _=>?_)
 ·show TotP (Qbs b ins st) _
  unfold Qbs
  refine TotP.bif (fun hc=>?_) (fun _=>TotP.ok (Qm trivial))
  simp only [decide_eq_true_eq]at hc
  have step:TotP (Qci st) fun o=>(∀s',o=.inl s'→i<b.task.Ins.length∧s'=((i+1:Nat):Int)∧True)∧∀r:Unit⊕Unit,o=.inr r→True:=
   TotP.ok (Qz (ix:=fun st=>st) (J:=fun _=>True) (Q:=fun _=>True) ⟨by omega,by rw [hi];exact Qv (by omega) ki.1,trivial⟩)
  refine TotP.bind (Qtr ins st (by unfold maxLen;omega)) fun z _=>?_
  refine TotP.bif (fun _=>step) fun _=>?_
  rw [QkV ins (by omega),Option.bind_some]
  refine TotP.bind (TotP.chk (by simp;omega)) fun _ _=>?_
  rw [QuE _ (by simp;omega),Option.bind_some]
  refine TotP.bind (TotP.chk (by simp [Qjs])) fun _ _=>?_
  rw [hb.net]
  refine TotP.bind (Ql5 n _ _ _ h ki (by rw [Qjs];simp;omega)) fun u hu=>?_
  refine TotP.bind (P:=fun _=>True) ?_ fun v _=>?_
  ·unfold Qf0
   rw [hb.mm]
   refine TotP.bif (fun hc2=>?_) fun _=>TotP.okT
   have hu:=hu (by simpa using hc2)
   refine TotP.bind (Qss _ _ (hu.1.len h (by rw [Qjs];simp;omega)) hm) fun _ _=>TotP.okT
  ·unfold Qcj
   exact TotP.bif (fun _=>TotP.ok (Qm trivial)) fun _=>step
 ·rcases q with q | q
  ·exact TotP.okT
  ·exact TotP.okT
def QiZ (r:List (List Int)):Prop:=r.length≤16∧∀row∈r,row.length≤16
def chB (o:Option (List (List Int))):Bool:=match o with
 | some r=>decide (r.length≤16)&&r.all fun row=>decide (row.length≤16)
 | none=>false
theorem Qst {o:Option (List (List Int))}(h:chB o=true):TotP o QiZ:=by
 cases o with
 | none=>cases h
 | some r=>
  simp only [chB,Bool.and_eq_true,decide_eq_true_eq,List.all_eq_true]at h
  exact TotP.ok h
theorem near {arcs:Int}(h0:¬arcs<0)(h1:¬16<arcs):arcs=0∨arcs=1∨arcs=2∨arcs=3∨arcs=4∨arcs=5∨arcs=6∨arcs=7∨arcs=8∨arcs=9∨arcs=10∨arcs=11∨arcs=12∨arcs=13∨arcs=14∨arcs=15∨arcs=16:=by omega
set_option maxRecDepth 100000 in
theorem QoR (kind arcs:Int):TotP (QcA kind arcs) QiZ:=by
 by_cases hg:((decide (arcs<0))||((decide (16<arcs))||((kind==3)&&(decide (4<arcs)))))=true
 ·unfold QcA
  rw [hg]
  exact TotP.ok ⟨by simp,fun r h=>by cases h⟩
 ·simp only [Bool.or_eq_true,Bool.and_eq_true,decide_eq_true_eq,beq_iff_eq,not_or,not_and]at hg
  obtain⟨h0,h1,h2⟩:=hg
  by_cases e1:kind=1
  ·subst e1
   rcases near h0 h1 with rfl | rfl | rfl | rfl | rfl | rfl | rfl | rfl | rfl | rfl | rfl | rfl | rfl | rfl | rfl | rfl | rfl<;>exact Qst (by kernel_rfl)
  ·by_cases e2:kind=2
   ·subst e2
    rcases near h0 h1 with rfl | rfl | rfl | rfl | rfl | rfl | rfl | rfl | rfl | rfl | rfl | rfl | rfl | rfl | rfl | rfl | rfl<;>exact Qst (by kernel_rfl)
   ·by_cases e3:kind=3
    ·subst e3
     have h3:=h2 rfl
     have:arcs=0∨arcs=1∨arcs=2∨arcs=3∨arcs=4:=by omega
     rcases this with rfl | rfl | rfl | rfl | rfl<;>exact Qst (by kernel_rfl)
    ·have f1:(kind==1)=false:=by simpa using e1
     have f2:(kind==2)=false:=by simpa using e2
     have f3:(kind==3)=false:=by simpa using e3
     unfold QcA Qc6
     rw [f1,f2,f3]
     exact TotP.bif (fun _=>TotP.ok ⟨by simp,fun r h=>by cases h⟩) fun _=>TotP.ok ⟨by simp,fun r h=>by cases h⟩
theorem Qu7 (a b:List Int)(ha:a.length≤maxLen):TotP (Qcf a b) fun _=>True:=by
 unfold Qcf
 refine TotP.bif (fun _=>TotP.okT) fun hc=>?_
 simp only [bne_eq_false_iff_eq]at hc
 refine TotP.bind (TotP.up a.length (fun st=>st) (fun _=>True) (Q:=fun _=>True) rfl trivial (fun i st hi hn hJ=>?_)) (fun q _=>?_)
 ·show TotP (QaQ a b st) _
  unfold QaQ
  refine TotP.bif (fun hc=>?_) (fun _=>TotP.ok (Qm trivial))
  simp only [decide_eq_true_eq]at hc
  refine TotP.bind (TotP.idx (by omega) (by omega)) fun x hx=>?_
  refine TotP.bind (TotP.idx (by omega) (by omega)) fun y hy=>?_
  exact TotP.bif (fun _=>TotP.ok (Qm trivial)) fun _=>TotP.ok (Qz ⟨by omega,by rw [hi];exact Qv (by omega) ha,trivial⟩)
 ·rcases q with q | q
  ·exact TotP.okT
  ·exact TotP.okT
theorem Qsu (kind arcs:Int)(row:List Int):TotP (Qfs kind arcs row) fun _=>True:=by
 unfold Qfs QbI Qcq
 refine TotP.bind (QoR kind arcs) fun x hx=>?_
 refine TotP.bind (P:=fun _=>True) ?_ fun _ _=>TotP.okT
 refine TotP.bind (P:=fun _=>True) ?_ fun _ _=>TotP.okT
 have hl:=hx.1
 refine TotP.bind (TotP.up x.length (fun st=>st) (fun _=>True) (Q:=fun _=>True) rfl trivial (fun i st hi hn hJ=>?_)) (fun q _=>?_)
 ·show TotP (Qaz x row st) _
  unfold Qaz QhJ
  refine TotP.bif (fun hc=>?_) (fun _=>TotP.ok (Qm trivial))
  simp only [decide_eq_true_eq]at hc
  refine TotP.bind (TotP.idx (by omega) (by omega)) fun e he=>?_
  have:=hx.2 e he
  refine TotP.bind (TotP.bind (Qu7 e row (by unfold maxLen;omega)) fun _ _=>TotP.okT) fun _ _=>?_
  exact TotP.bif (fun _=>TotP.ok (Qm trivial)) fun _=>TotP.ok (Qz ⟨by omega,by rw [hi];exact Qv (by omega) (by unfold maxLen;omega:x.length≤maxLen),trivial⟩)
 ·rcases q with q | q
  ·exact TotP.okT
  ·exact TotP.okT
def QbV (n:TNet)(o:Qk):Prop:=o.Vars.length≤20∧o.Ins.length≤20∧o.Outs.length≤20
theorem Qu8 (n:TNet)(m:List (List (Int×Int)))(o:Qk)(h:QaZ n)(hm:lenL (lenL fun _=>True) m)(ho:QbV n o):TotP (Qgu n m o) fun _=>True:=by
 unfold Qgu
 refine TotP.bind (QsN n m o.Task o.Vars h) fun x hx=>?_
 have k3:∀e,(e=0→x.1=0)→TotP (QdS x o e) fun _=>True:=fun e he=>by
  unfold QdS
  refine TotP.bif (fun _=>TotP.okT) fun hc=>?_
  have hb:=hx (he (by simpa using hc))
  refine TotP.bind (P:=fun _=>True) ?_ fun y _=>?_
  ·unfold QjT
   refine TotP.bind (Qsu _ _ _) fun z _=>?_
   exact TotP.bif (fun _=>TotP.okT) fun _=>TotP.bind (Qsu _ _ _) fun _ _=>TotP.okT
  ·unfold QfC
   refine TotP.bif (fun _=>TotP.okT) fun _=>?_
   refine TotP.bind (QsO n m x.2 o.Ins h hb hm (by have:=ho.2.1;omega)) fun z _=>?_
   refine TotP.bif (fun _=>TotP.okT) fun _=>?_
   exact TotP.bind (Qrj n m x.2 o.Outs h hb (by have:=ho.2.2;omega)) fun _ _=>TotP.okT
 refine TotP.bif (fun hc=>?_) fun hc=>k3 _ fun h=>h
 have hc:x.1=0:=by simpa using hc
 exact TotP.bind (Qry n m x.2 h (hx hc)) fun e _=>k3 e fun _=>hc
theorem QsP (n:TNet)(o:Qk)(h:QaZ n)(ho:QbV n o):TotP (QcT n o) fun r=>r.2=0→MOk n 20 r.1∧Low n r.1:=by
 unfold QcT
 refine TotP.bind (Qtq n o.Task o.Vars h) fun x hx=>?_
 refine TotP.bif (fun hc=>TotP.ok fun h=>absurd h (by simpa using hc)) fun hc=>?_
 have:=hx (by simpa using hc)
 refine TotP.bind (TotP.idx this.1 this.2) fun e he=>?_
 have hl:=ho.2.1
 exact TotP.bind (Ql5 n _ _ _ h (h.k.2.2.1.2 _ he).2.2.2.2.2.1 (by omega)) fun y hy=>TotP.ok fun h0=>⟨(hy h0).1.mono hl,(hy h0).2⟩
theorem QsQ (n:TNet)(o:Qk)(h:QaZ n)(ho:QbV n o):TotP (Qh7 n o) fun r=>r.2=0→(MOk n 20 r.1∧Low n r.1)∧0≤o.Task∧o.Task<n.Tasks.length:=by
 unfold Qh7
 refine TotP.bind (Qtq n o.Task o.Vars h) fun x hx=>?_
 refine TotP.bif (fun hc=>TotP.ok fun h=>absurd h (by simpa using hc)) fun hc=>?_
 have:=hx (by simpa using hc)
 refine TotP.bind (TotP.idx this.1 this.2) fun e he=>?_
 have hl:=ho.2.2
 exact TotP.bind (Ql5 n _ _ _ h (h.k.2.2.1.2 _ he).2.2.2.2.2.2.1 (by omega)) fun y hy=>TotP.ok fun h0=>⟨⟨(hy h0).1.mono hl,(hy h0).2⟩,this⟩
end Go.Proofs
