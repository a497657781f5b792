/- A part of the proof; what it holds is told at each theorem. -/
import Derived.Test.YtmhljalpjhdpeaaGreatT2
import Derived.KernelRfl
set_option linter.unusedVariables false
set_option linter.unusedSimpArgs false
set_option linter.unusedSectionVars false
set_option linter.deprecated false
noncomputable section
namespace Go.Proofs
open Go Go.RowKit Go.Vm

set_option maxRecDepth 100000 in
theorem small_true : F_law10_small = some true := by kernel_rfl

/-- What BindChoices does behind the small case. -/
def choicesLaw (kind arcs : Int) : Option Bool :=
  (F_bind_Choices kind arcs).bind fun x6 =>
  (F_ref10_Choices kind arcs).bind fun x7 =>
  bif ((x6.length : Int) != (x7.length : Int)) then
  some false
  else
  (loopM (fun st => F_law10_BindChoices_l1 x6 x7 st) 0).bind (Sum.elim (fun q => F_law10_BindChoices_c2) (fun q => F_law10_BindChoices_c3 true))
theorem law_is (kind arcs : Int) : F_law10_BindChoices kind arcs = choicesLaw kind arcs := by
  unfold F_law10_BindChoices; rw [small_true]; rfl
theorem far (kind arcs : Int) (h : ((decide (arcs < 0)) || ((decide (16 < arcs)) || ((kind == 3) && (decide (4 < arcs))))) = true) : choicesLaw kind arcs = some true := by
  unfold choicesLaw F_bind_Choices F_ref10_Choices
  rw [h]
  kernel_rfl
theorem near {arcs : Int} (h0 : ¬ arcs < 0) (h1 : ¬ 16 < arcs) : arcs = 0 ∨ arcs = 1 ∨ arcs = 2 ∨ arcs = 3 ∨ arcs = 4 ∨ arcs = 5 ∨ arcs = 6 ∨ arcs = 7 ∨ arcs = 8 ∨ arcs = 9 ∨ arcs = 10 ∨ arcs = 11 ∨ arcs = 12 ∨ arcs = 13 ∨ arcs = 14 ∨ arcs = 15 ∨ arcs = 16 := by omega
set_option maxRecDepth 100000 in
theorem choices_true (kind arcs : Int) : F_law10_BindChoices kind arcs = some true := by
  rw [law_is]
  by_cases hg : ((decide (arcs < 0)) || ((decide (16 < arcs)) || ((kind == 3) && (decide (4 < arcs))))) = true
  · exact far kind arcs hg
  · simp only [Bool.or_eq_true, Bool.and_eq_true, decide_eq_true_eq, beq_iff_eq, not_or, not_and] at hg
    obtain ⟨h0, h1, h2⟩ := hg
    by_cases e1 : kind = 1
    · subst e1
      rcases near h0 h1 with rfl | rfl | rfl | rfl | rfl | rfl | rfl | rfl | rfl | rfl | rfl | rfl | rfl | rfl | rfl | rfl | rfl <;> kernel_rfl
    · by_cases e2 : kind = 2
      · subst e2
        rcases near h0 h1 with rfl | rfl | rfl | rfl | rfl | rfl | rfl | rfl | rfl | rfl | rfl | rfl | rfl | rfl | rfl | rfl | rfl <;> kernel_rfl
      · by_cases e3 : kind = 3
        · subst e3
          have h3 := h2 rfl
          have : arcs = 0 ∨ arcs = 1 ∨ arcs = 2 ∨ arcs = 3 ∨ arcs = 4 := by omega
          rcases this with rfl | rfl | rfl | rfl | rfl <;> (show _ = some true; kernel_rfl)
        · have f1 : (kind == 1) = false := by simpa using e1
          have f2 : (kind == 2) = false := by simpa using e2
          have f3 : (kind == 3) = false := by simpa using e3
          unfold choicesLaw F_bind_Choices F_ref10_Choices F_ref10_Choices_c12
          simp only [f1, f2, f3]
          rcases near h0 h1 with rfl | rfl | rfl | rfl | rfl | rfl | rfl | rfl | rfl | rfl | rfl | rfl | rfl | rfl | rfl | rfl | rfl <;> (show _ = some true; kernel_rfl)
end Go.Proofs
