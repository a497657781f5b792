/- A part of the proof; what it holds is told at each theorem. -/
import Derived.Test.YtpijolohkdchcaaGreatDoorFiC
import Derived.KernelRfl
set_option linter.unusedVariables false
set_option linter.unusedSimpArgs false
set_option linter.unusedSectionVars false
set_option linter.deprecated false
noncomputable section
namespace Go.Proofs
open Go Go.RowKit Go.Vm
structure BOk (n : TNet) (m : List (List (Int × Int))) (b : QA) : Prop where
 net : b.net = n
 mm : b.m = m
 task : b.task ∈ n.Tasks
theorem Qss (n : TNet) (m : List (List (Int × Int))) (task : Int) (vars : List Int) (h : QbK n) : TotP (Qf8 n m task vars) fun r => r.1 = 0 → BOk n m r.2 := by
 unfold Qf8
 refine TotP.bind (Qs3 n task vars h) fun x hx => ?_
 refine TotP.bif (fun hc => TotP.ok fun h => absurd h (by simpa using hc)) fun hc => ?_
 have := hx (by simpa using hc)
 exact TotP.bind (TotP.idx this.1 this.2) fun e he => TotP.ok fun _ => ⟨rfl, rfl, he⟩
theorem Qrb (n : TNet) (m : List (List (Int × Int))) (b : QA) (h : QbK n) (hb : BOk n m b) : TotP (Qby b) fun _ => True := by
 unfold Qby
 refine TotP.bind (QtG _ _ (h.k.2.2.1.2 _ hb.task).2.2.1) fun x _ => ?_
 exact TotP.bif (fun _ => TotP.okT) fun _ => TotP.bif (fun _ => TotP.okT) fun _ => TotP.okT
theorem QqY (n : TNet) (m : List (List (Int × Int))) (b : QA) (outs : List Int) (h : QbK n) (hb : BOk n m b) (ho : outs.length ≤ 1000) : TotP (QbX b outs) fun _ => True := by
 unfold QbX
 rw [hb.net]
 exact TotP.bind (QlO n _ outs _ h (h.k.2.2.1.2 _ hb.task).2.2.2.2.2.2.1 ho) fun x _ => TotP.okT
theorem Qs4 (l : List Int) (x : Int) (h : l.length ≤ maxLen) : TotP (QaA l x) fun _ => True := QgD l x ⟨h, fun _ _ => trivial⟩
theorem QkB (l : List Int) (h : l.length ≤ 4294967296) : Qak l = some l := by
 unfold Qak
 rw [Qqj (by simpa using h)]; rfl
theorem Qt8 (l : List Int) (h : l.length ≤ 4294967296) : QaZ l = some (QbS l) := by
 unfold QaZ
 rw [Qqj (by omega)]; rfl
theorem Qst (n : TNet) (m : List (List (Int × Int))) (b : QA) (ins : List Int) (h : QbK n) (hb : BOk n m b) (hm : lenL (lenL fun _ => True) m) (hi : ins.length ≤ 100) : TotP (QbW b ins) fun _ => True := by
 have ki := (h.k.2.2.1.2 _ hb.task).2.2.2.2.2.1
 have kl := (h.tk _ hb.task).2.1
 unfold QbW
 rw [hb.net, hb.mm]
 refine TotP.bind (QlO n _ ins _ h ki (by omega)) fun x hx => ?_
 refine TotP.bif (fun _ => TotP.okT) fun hc => ?_
 have hx := hx (by simpa using hc)
 refine TotP.bind (Qr6 _ _ (hx.len h (by omega)) hm) fun y _ => ?_
 refine TotP.bif (fun _ => TotP.okT) fun _ => TotP.bif (fun _ => TotP.okT) fun _ => ?_
 refine TotP.bind (TotP.up b.task.Ins.length (fun st => st) (fun _ => True) (Q := fun _ => True) rfl trivial (fun i st hi hn _ => ?_)) (fun q _ => ?_)
 ·show TotP (Qbl b ins st) _
  unfold Qbl
  refine TotP.bif (fun hc => ?_) (fun _ => TotP.ok (Qn trivial))
  simp only [decide_eq_true_eq] at hc
  have step : TotP (Qb4 st) fun o => (∀ s', o = .inl s' → i < b.task.Ins.length ∧ s' = ((i + 1 : Nat) : Int) ∧ True) ∧ ∀ r : Unit ⊕ Unit, o = .inr r → True :=
   TotP.ok (QC (ix := fun st => st) (J := fun _ => True) (Q := fun _ => True) ⟨by omega, by rw [hi]; exact Qx (by omega) ki.1, trivial⟩)
  refine TotP.bind (Qs4 ins st (by unfold maxLen; omega)) fun z _ => ?_
  refine TotP.bif (fun _ => step) fun _ => ?_
  rw [QkB ins (by omega), Option.bind_some]
  refine TotP.bind (TotP.chk (by simp; omega)) fun _ _ => ?_
  rw [Qt8 _ (by simp; omega), Option.bind_some]
  refine TotP.bind (TotP.chk (by simp [Qjg])) fun _ _ => ?_
  rw [hb.net]
  refine TotP.bind (QlO n _ _ _ h ki (by rw [Qjg]; simp; omega)) fun u hu => ?_
  refine TotP.bind (P := fun _ => True) ?_ fun v _ => ?_
  ·unfold QfL
   rw [hb.mm]
   refine TotP.bif (fun hc2 => ?_) fun _ => TotP.okT
   have hu := hu (by simpa using hc2)
   refine TotP.bind (Qr6 _ _ (hu.len h (by rw [Qjg]; simp; omega)) hm) fun _ _ => TotP.okT
  ·unfold Qb5
   exact TotP.bif (fun _ => TotP.ok (Qn trivial)) fun _ => step
 ·rcases q with q | q
  ·exact TotP.okT
  ·exact TotP.okT
def QiM (r : List (List Int)) : Prop := r.length ≤ 16 ∧ ∀ row ∈ r, row.length ≤ 16
def chB (o : Option (List (List Int))) : Bool := match o with
 | some r => decide (r.length ≤ 16) && r.all fun row => decide (row.length ≤ 16)
 | none => false
theorem Qr7 {o : Option (List (List Int))} (h : chB o = true) : TotP o QiM := by
 cases o with
 | none => cases h
 | some r =>
  simp only [chB, Bool.and_eq_true, decide_eq_true_eq, List.all_eq_true] at h
  exact TotP.ok h
theorem near {arcs : Int} (h0 : ¬ arcs < 0) (h1 : ¬ 16 < arcs) : arcs = 0 ∨ arcs = 1 ∨ arcs = 2 ∨ arcs = 3 ∨ arcs = 4 ∨ arcs = 5 ∨ arcs = 6 ∨ arcs = 7 ∨ arcs = 8 ∨ arcs = 9 ∨ arcs = 10 ∨ arcs = 11 ∨ arcs = 12 ∨ arcs = 13 ∨ arcs = 14 ∨ arcs = 15 ∨ arcs = 16 := by omega
set_option maxRecDepth 100000 in
theorem Qoy (kind arcs : Int) : TotP (Qcj kind arcs) QiM := by
 by_cases hg : ((decide (arcs < 0)) || ((decide (16 < arcs)) || ((kind == 3) && (decide (4 < arcs))))) = true
 ·unfold Qcj
  rw [hg]
  exact TotP.ok ⟨by simp, fun r h => by cases h⟩
 ·simp only [Bool.or_eq_true, Bool.and_eq_true, decide_eq_true_eq, beq_iff_eq, not_or, not_and] at hg
  obtain ⟨h0, h1, h2⟩ := hg
  by_cases e1 : kind = 1
  ·subst e1
   rcases near h0 h1 with rfl | rfl | rfl | rfl | rfl | rfl | rfl | rfl | rfl | rfl | rfl | rfl | rfl | rfl | rfl | rfl | rfl <;> exact Qr7 (by kernel_rfl)
  ·by_cases e2 : kind = 2
   ·subst e2
    rcases near h0 h1 with rfl | rfl | rfl | rfl | rfl | rfl | rfl | rfl | rfl | rfl | rfl | rfl | rfl | rfl | rfl | rfl | rfl <;> exact Qr7 (by kernel_rfl)
   ·by_cases e3 : kind = 3
    ·subst e3
     have h3 := h2 rfl
     have : arcs = 0 ∨ arcs = 1 ∨ arcs = 2 ∨ arcs = 3 ∨ arcs = 4 := by omega
     rcases this with rfl | rfl | rfl | rfl | rfl <;> exact Qr7 (by kernel_rfl)
    ·have f1 : (kind == 1) = false := by simpa using e1
     have f2 : (kind == 2) = false := by simpa using e2
     have f3 : (kind == 3) = false := by simpa using e3
     unfold Qcj QcL
     rw [f1, f2, f3]
     exact TotP.bif (fun _ => TotP.ok ⟨by simp, fun r h => by cases h⟩) fun _ => TotP.ok ⟨by simp, fun r h => by cases h⟩
theorem Quw (a b : List Int) (ha : a.length ≤ maxLen) : TotP (Qb1 a b) fun _ => True := by
 unfold Qb1
 refine TotP.bif (fun _ => TotP.okT) fun hc => ?_
 simp only [bne_eq_false_iff_eq] at hc
 refine TotP.bind (TotP.up a.length (fun st => st) (fun _ => True) (Q := fun _ => True) rfl trivial (fun i st hi hn hJ => ?_)) (fun q _ => ?_)
 ·show TotP (QaP a b st) _
  unfold QaP
  refine TotP.bif (fun hc => ?_) (fun _ => TotP.ok (Qn trivial))
  simp only [decide_eq_true_eq] at hc
  refine TotP.bind (TotP.idx (by omega) (by omega)) fun x hx => ?_
  refine TotP.bind (TotP.idx (by omega) (by omega)) fun y hy => ?_
  exact TotP.bif (fun _ => TotP.ok (Qn trivial)) fun _ => TotP.ok (QC ⟨by omega, by rw [hi]; exact Qx (by omega) ha, trivial⟩)
 ·rcases q with q | q
  ·exact TotP.okT
  ·exact TotP.okT
theorem Qr8 (kind arcs : Int) (row : List Int) : TotP (Qfa kind arcs row) fun _ => True := by
 unfold Qfa Qbz Qcb
 refine TotP.bind (Qoy kind arcs) fun x hx => ?_
 refine TotP.bind (P := fun _ => True) ?_ fun _ _ => TotP.okT
 refine TotP.bind (P := fun _ => True) ?_ fun _ _ => TotP.okT
 have hl := hx.1
 refine TotP.bind (TotP.up x.length (fun st => st) (fun _ => True) (Q := fun _ => True) rfl trivial (fun i st hi hn hJ => ?_)) (fun q _ => ?_)
 ·show TotP (Qaz x row st) _
  unfold Qaz Qhy
  refine TotP.bif (fun hc => ?_) (fun _ => TotP.ok (Qn trivial))
  simp only [decide_eq_true_eq] at hc
  refine TotP.bind (TotP.idx (by omega) (by omega)) fun e he => ?_
  have := hx.2 e he
  refine TotP.bind (TotP.bind (Quw e row (by unfold maxLen; omega)) fun _ _ => TotP.okT) fun _ _ => ?_
  exact TotP.bif (fun _ => TotP.ok (Qn trivial)) fun _ => TotP.ok (QC ⟨by omega, by rw [hi]; exact Qx (by omega) (by unfold maxLen; omega : x.length ≤ maxLen), trivial⟩)
 ·rcases q with q | q
  ·exact TotP.okT
  ·exact TotP.okT
def Qb8 (n : TNet) (o : Qk) : Prop := o.Vars.length ≤ 20 ∧ o.Ins.length ≤ 20 ∧ o.Outs.length ≤ 20
theorem Qux (n : TNet) (m : List (List (Int × Int))) (o : Qk) (h : QbK n) (hm : lenL (lenL fun _ => True) m) (ho : Qb8 n o) : TotP (QhV n m o) fun _ => True := by
 unfold QhV
 refine TotP.bind (Qss n m o.Task o.Vars h) fun x hx => ?_
 have k3 : ∀ e, (e = 0 → x.1 = 0) → TotP (Qdz x o e) fun _ => True := fun e he => by
  unfold Qdz
  refine TotP.bif (fun _ => TotP.okT) fun hc => ?_
  have hb := hx (he (by simpa using hc))
  refine TotP.bind (P := fun _ => True) ?_ fun y _ => ?_
  ·unfold QjG
   refine TotP.bind (Qr8 _ _ _) fun z _ => ?_
   exact TotP.bif (fun _ => TotP.okT) fun _ => TotP.bind (Qr8 _ _ _) fun _ _ => TotP.okT
  ·unfold Qfk
   refine TotP.bif (fun _ => TotP.okT) fun _ => ?_
   refine TotP.bind (Qst n m x.2 o.Ins h hb hm (by have := ho.2.1; omega)) fun z _ => ?_
   refine TotP.bif (fun _ => TotP.okT) fun _ => ?_
   exact TotP.bind (QqY n m x.2 o.Outs h hb (by have := ho.2.2; omega)) fun _ _ => TotP.okT
 refine TotP.bif (fun hc => ?_) fun hc => k3 _ fun h => h
 have hc : x.1 = 0 := by simpa using hc
 exact TotP.bind (Qrb n m x.2 h (hx hc)) fun e _ => k3 e fun _ => hc
theorem Quy (n : TNet) (o : Qk) (h : QbK n) (ho : Qb8 n o) : TotP (Qgf n o) fun r => r.2 = 0 → MOk n 20 r.1 := by
 unfold Qgf
 refine TotP.bind (Qs3 n o.Task o.Vars h) fun x hx => ?_
 refine TotP.bif (fun hc => TotP.ok fun h => absurd h (by simpa using hc)) fun hc => ?_
 have := hx (by simpa using hc)
 refine TotP.bind (TotP.idx this.1 this.2) fun e he => ?_
 have hl := ho.2.1
 exact TotP.bind (QlO n _ _ _ h (h.k.2.2.1.2 _ he).2.2.2.2.2.1 (by omega)) fun y hy => TotP.ok fun h0 => (hy h0).mono hl
theorem Quz (n : TNet) (o : Qk) (h : QbK n) (ho : Qb8 n o) : TotP (QhW n o) fun r => r.2 = 0 → MOk n 20 r.1 ∧ 0 ≤ o.Task ∧ o.Task < n.Tasks.length := by
 unfold QhW
 refine TotP.bind (Qs3 n o.Task o.Vars h) fun x hx => ?_
 refine TotP.bif (fun hc => TotP.ok fun h => absurd h (by simpa using hc)) fun hc => ?_
 have := hx (by simpa using hc)
 refine TotP.bind (TotP.idx this.1 this.2) fun e he => ?_
 have hl := ho.2.2
 exact TotP.bind (QlO n _ _ _ h (h.k.2.2.1.2 _ he).2.2.2.2.2.2.1 (by omega)) fun y hy => TotP.ok fun h0 => ⟨(hy h0).mono hl, this⟩
end Go.Proofs
