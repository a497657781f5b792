/- A part of the proof; what it holds is told at each theorem. -/
import Derived.Test.YtpijolohkdchcaaGreatDoorFiC
import Derived.KernelRfl
set_option linter.unusedVariables false
set_option linter.unusedSimpArgs false
set_option linter.unusedSectionVars false
set_option linter.deprecated false
noncomputable section
namespace Go.Proofs
open Go Go.RowKit Go.Vm
structure BOk (n:TNet) (m:List (List (Int×Int))) (b:QA):Prop where
 net:b.net=n
 mm:b.m=m
 task:b.task∈n.Tasks
theorem QuF (n:TNet)(m:List (List (Int×Int)))(task:Int)(vars:List Int)(h:QcY n):TotP (QeA n m task vars) fun r=>r.1=0→BOk n m r.2:=by
 unfold QeA
 refine TotP.bind (QrA n task vars h) fun x hx=>?_
 refine TotP.bif (fun hc=>TotP.ok fun h=>absurd h (by simpa using hc)) fun hc=>?_
 have:=hx (by simpa using hc)
 exact TotP.bind (TotP.idx this.1 this.2) fun e he=>TotP.ok fun _=>⟨rfl,rfl,he⟩
theorem QtM (n:TNet)(m:List (List (Int×Int)))(b:QA)(h:QcY n)(hb:BOk n m b):TotP (Qa0 b) fun _=>True:=by
 unfold Qa0
 refine TotP.bind (QtL _ _ (h.k.2.2.1.2 _ hb.task).2.2.1) fun x _=>?_
 exact TotP.bif (fun _=>TotP.okT) fun _=>TotP.bif (fun _=>TotP.okT) fun _=>TotP.okT
theorem QuG (n:TNet)(m:List (List (Int×Int)))(b:QA)(outs:List Int)(h:QcY n)(hb:BOk n m b)(ho:outs.length≤1000):TotP (Qb0 b outs) fun _=>True:=by
 unfold Qb0
 rw [hb.net]
 exact TotP.bind (QlM n _ outs _ h (h.k.2.2.1.2 _ hb.task).2.2.2.2.2.2.1 ho) fun x _=>TotP.okT
theorem Qs6 (l:List Int)(x:Int)(h:l.length≤maxLen):TotP (Qaz l x) fun _=>True:=QgA l x ⟨h,fun _ _=>trivial⟩
theorem QtN (l:List Int)(h:l.length≤4294967296):Qaj l=some l:=by
 unfold Qaj
 rw [Qqi (by simpa using h)];rfl
theorem Qui (l:List Int)(h:l.length≤4294967296):Qa1 l=some (QbW l):=by
 unfold Qa1
 rw [Qqi (by omega)];rfl
theorem QuH (n:TNet)(m:List (List (Int×Int)))(b:QA)(ins:List Int)(h:QcY n)(hb:BOk n m b)(hm:lenL (lenL fun _=>True) m)(hi:ins.length≤100):TotP (QaS b ins) fun _=>True:=by
 have ki:=(h.k.2.2.1.2 _ hb.task).2.2.2.2.2.1
 have kl:=(h.tk _ hb.task).2.1
 unfold QaS
 rw [hb.net,hb.mm]
 refine TotP.bind (QlM n _ ins _ h ki (by omega)) fun x hx=>?_
 refine TotP.bif (fun _=>TotP.okT) fun hc=>?_
 have hx:=hx (by simpa using hc)
 refine TotP.bind (Qr9 _ _ (hx.1.len h (by omega)) hm) fun y _=>?_
 refine TotP.bif (fun _=>TotP.okT) fun _=>TotP.bif (fun _=>TotP.okT) fun _=>?_
 refine TotP.bind (TotP.up b.task.Ins.length (fun st=>st) (fun _=>True) (Q:=fun _=>True) rfl trivial (fun i st hi hn _=>?_)) (fun q _=>?_)
 ·show TotP (Qbn b ins st) _
  unfold Qbn
  refine TotP.bif (fun hc=>?_) (fun _=>TotP.ok (Qn trivial))
  simp only [decide_eq_true_eq]at hc
  have step:TotP (Qb7 st) fun o=>(∀s',o=.inl s'→i<b.task.Ins.length∧s'=((i+1:Nat):Int)∧True)∧∀r:Unit⊕Unit,o=.inr r→True:=
   TotP.ok (QD (ix:=fun st=>st) (J:=fun _=>True) (Q:=fun _=>True) ⟨by omega,by rw [hi];exact Qy (by omega) ki.1,trivial⟩)
  refine TotP.bind (Qs6 ins st (by unfold maxLen;omega)) fun z _=>?_
  refine TotP.bif (fun _=>step) fun _=>?_
  rw [QtN ins (by omega),Option.bind_some]
  refine TotP.bind (TotP.chk (by simp;omega)) fun _ _=>?_
  rw [Qui _ (by simp;omega),Option.bind_some]
  refine TotP.bind (TotP.chk (by simp [Qjd])) fun _ _=>?_
  rw [hb.net]
  refine TotP.bind (QlM n _ _ _ h ki (by rw [Qjd];simp;omega)) fun u hu=>?_
  refine TotP.bind (P:=fun _=>True) ?_ fun v _=>?_
  ·unfold QfL
   rw [hb.mm]
   refine TotP.bif (fun hc2=>?_) fun _=>TotP.okT
   have hu:=hu (by simpa using hc2)
   refine TotP.bind (Qr9 _ _ (hu.1.len h (by rw [Qjd];simp;omega)) hm) fun _ _=>TotP.okT
  ·unfold Qb8
   exact TotP.bif (fun _=>TotP.ok (Qn trivial)) fun _=>step
 ·rcases q with q | q
  ·exact TotP.okT
  ·exact TotP.okT
def QtO (r:List (List Int)):Prop:=r.length≤16∧∀row∈r,row.length≤16
def chB (o:Option (List (List Int))):Bool:=match o with
 | some r=>decide (r.length≤16)&&r.all fun row=>decide (row.length≤16)
 | none=>false
theorem Qsa {o:Option (List (List Int))}(h:chB o=true):TotP o QtO:=by
 cases o with
 | none=>cases h
 | some r=>
  simp only [chB,Bool.and_eq_true,decide_eq_true_eq,List.all_eq_true]at h
  exact TotP.ok h
theorem near {arcs:Int}(h0:¬arcs<0)(h1:¬16<arcs):arcs=0∨arcs=1∨arcs=2∨arcs=3∨arcs=4∨arcs=5∨arcs=6∨arcs=7∨arcs=8∨arcs=9∨arcs=10∨arcs=11∨arcs=12∨arcs=13∨arcs=14∨arcs=15∨arcs=16:=by omega
set_option maxRecDepth 100000 in
theorem QtP (kind arcs:Int):TotP (Qcq kind arcs) QtO:=by
 by_cases hg:((decide (arcs<0))||((decide (16<arcs))||((kind==3)&&(decide (4<arcs)))))=true
 ·unfold Qcq
  rw [hg]
  exact TotP.ok ⟨by simp,fun r h=>by cases h⟩
 ·simp only [Bool.or_eq_true,Bool.and_eq_true,decide_eq_true_eq,beq_iff_eq,not_or,not_and]at hg
  obtain⟨h0,h1,h2⟩:=hg
  by_cases e1:kind=1
  ·subst e1
   rcases near h0 h1 with rfl | rfl | rfl | rfl | rfl | rfl | rfl | rfl | rfl | rfl | rfl | rfl | rfl | rfl | rfl | rfl | rfl<;>exact Qsa (by kernel_rfl)
  ·by_cases e2:kind=2
   ·subst e2
    rcases near h0 h1 with rfl | rfl | rfl | rfl | rfl | rfl | rfl | rfl | rfl | rfl | rfl | rfl | rfl | rfl | rfl | rfl | rfl<;>exact Qsa (by kernel_rfl)
   ·by_cases e3:kind=3
    ·subst e3
     have h3:=h2 rfl
     have:arcs=0∨arcs=1∨arcs=2∨arcs=3∨arcs=4:=by omega
     rcases this with rfl | rfl | rfl | rfl | rfl<;>exact Qsa (by kernel_rfl)
    ·have f1:(kind==1)=false:=by simpa using e1
     have f2:(kind==2)=false:=by simpa using e2
     have f3:(kind==3)=false:=by simpa using e3
     unfold Qcq QcT
     rw [f1,f2,f3]
     exact TotP.bif (fun _=>TotP.ok ⟨by simp,fun r h=>by cases h⟩) fun _=>TotP.ok ⟨by simp,fun r h=>by cases h⟩
theorem QuI (a b:List Int)(ha:a.length≤maxLen):TotP (Qb4 a b) fun _=>True:=by
 unfold Qb4
 refine TotP.bif (fun _=>TotP.okT) fun hc=>?_
 simp only [bne_eq_false_iff_eq]at hc
 refine TotP.bind (TotP.up a.length (fun st=>st) (fun _=>True) (Q:=fun _=>True) rfl trivial (fun i st hi hn hJ=>?_)) (fun q _=>?_)
 ·show TotP (QaO a b st) _
  unfold QaO
  refine TotP.bif (fun hc=>?_) (fun _=>TotP.ok (Qn trivial))
  simp only [decide_eq_true_eq]at hc
  refine TotP.bind (TotP.idx (by omega) (by omega)) fun x hx=>?_
  refine TotP.bind (TotP.idx (by omega) (by omega)) fun y hy=>?_
  exact TotP.bif (fun _=>TotP.ok (Qn trivial)) fun _=>TotP.ok (QD ⟨by omega,by rw [hi];exact Qy (by omega) ha,trivial⟩)
 ·rcases q with q | q
  ·exact TotP.okT
  ·exact TotP.okT
theorem Qsb (kind arcs:Int)(row:List Int):TotP (Qfg kind arcs row) fun _=>True:=by
 unfold Qfg QbC Qcf
 refine TotP.bind (QtP kind arcs) fun x hx=>?_
 refine TotP.bind (P:=fun _=>True) ?_ fun _ _=>TotP.okT
 refine TotP.bind (P:=fun _=>True) ?_ fun _ _=>TotP.okT
 have hl:=hx.1
 refine TotP.bind (TotP.up x.length (fun st=>st) (fun _=>True) (Q:=fun _=>True) rfl trivial (fun i st hi hn hJ=>?_)) (fun q _=>?_)
 ·show TotP (Qay x row st) _
  unfold Qay Qhv
  refine TotP.bif (fun hc=>?_) (fun _=>TotP.ok (Qn trivial))
  simp only [decide_eq_true_eq]at hc
  refine TotP.bind (TotP.idx (by omega) (by omega)) fun e he=>?_
  have:=hx.2 e he
  refine TotP.bind (TotP.bind (QuI e row (by unfold maxLen;omega)) fun _ _=>TotP.okT) fun _ _=>?_
  exact TotP.bif (fun _=>TotP.ok (Qn trivial)) fun _=>TotP.ok (QD ⟨by omega,by rw [hi];exact Qy (by omega) (by unfold maxLen;omega:x.length≤maxLen),trivial⟩)
 ·rcases q with q | q
  ·exact TotP.okT
  ·exact TotP.okT
def Qkz (n:TNet)(o:Qk):Prop:=o.Vars.length≤20∧o.Ins.length≤20∧o.Outs.length≤20
theorem QuJ (n:TNet)(m:List (List (Int×Int)))(o:Qk)(h:QcY n)(hm:lenL (lenL fun _=>True) m)(ho:Qkz n o):TotP (Qb9 n m o) fun _=>True:=by
 unfold Qb9
 refine TotP.bind (QuF n m o.Task o.Vars h) fun x hx=>?_
 have k3:∀e,(e=0→x.1=0)→TotP (QcH x o e) fun _=>True:=fun e he=>by
  unfold QcH
  refine TotP.bif (fun _=>TotP.okT) fun hc=>?_
  have hb:=hx (he (by simpa using hc))
  refine TotP.bind (P:=fun _=>True) ?_ fun y _=>?_
  ·unfold Qhx
   refine TotP.bind (Qsb _ _ _) fun z _=>?_
   exact TotP.bif (fun _=>TotP.okT) fun _=>TotP.bind (Qsb _ _ _) fun _ _=>TotP.okT
  ·unfold QdD
   refine TotP.bif (fun _=>TotP.okT) fun _=>?_
   refine TotP.bind (QuH n m x.2 o.Ins h hb hm (by have:=ho.2.1;omega)) fun z _=>?_
   refine TotP.bif (fun _=>TotP.okT) fun _=>?_
   exact TotP.bind (QuG n m x.2 o.Outs h hb (by have:=ho.2.2;omega)) fun _ _=>TotP.okT
 refine TotP.bif (fun hc=>?_) fun hc=>k3 _ fun h=>h
 have hc:x.1=0:=by simpa using hc
 exact TotP.bind (QtM n m x.2 h (hx hc)) fun e _=>k3 e fun _=>hc
theorem Qsv (n:TNet)(o:Qk)(h:QcY n)(ho:Qkz n o):TotP (QbF n o) fun r=>r.2=0→MOk n 20 r.1∧Low n r.1:=by
 unfold QbF
 refine TotP.bind (QrA n o.Task o.Vars h) fun x hx=>?_
 refine TotP.bif (fun hc=>TotP.ok fun h=>absurd h (by simpa using hc)) fun hc=>?_
 have:=hx (by simpa using hc)
 refine TotP.bind (TotP.idx this.1 this.2) fun e he=>?_
 have hl:=ho.2.1
 exact TotP.bind (QlM n _ _ _ h (h.k.2.2.1.2 _ he).2.2.2.2.2.1 (by omega)) fun y hy=>TotP.ok fun h0=>⟨(hy h0).1.mono hl,(hy h0).2⟩
theorem Qsw (n:TNet)(o:Qk)(h:QcY n)(ho:Qkz n o):TotP (QeE n o) fun r=>r.2=0→(MOk n 20 r.1∧Low n r.1)∧0≤o.Task∧o.Task<n.Tasks.length:=by
 unfold QeE
 refine TotP.bind (QrA n o.Task o.Vars h) fun x hx=>?_
 refine TotP.bif (fun hc=>TotP.ok fun h=>absurd h (by simpa using hc)) fun hc=>?_
 have:=hx (by simpa using hc)
 refine TotP.bind (TotP.idx this.1 this.2) fun e he=>?_
 have hl:=ho.2.2
 exact TotP.bind (QlM n _ _ _ h (h.k.2.2.1.2 _ he).2.2.2.2.2.2.1 (by omega)) fun y hy=>TotP.ok fun h0=>⟨⟨(hy h0).1.mono hl,(hy h0).2⟩,this⟩
end Go.Proofs
