/- A part of the proof; what it holds is told at each theorem. -/
import Derived.Test.YtmmnafdkbobjcaaRkG
import Derived.KernelRfl
set_option linter.unusedVariables false
set_option linter.unusedSimpArgs false
set_option linter.unusedSectionVars false
set_option linter.deprecated false
noncomputable section
namespace Go.Proofs
open Go Go.RowKit Go.Vm Go.Rk

/-- IsFar, reckoned. -/
def isFarB (N : Nat) (es : List (Int × Int)) (gs : List Int) (out : List Int) : Bool :=
  (decide (out.length = N) && out.all (fun x => decide (-1 ≤ x)) && gs.all (fun g => !decide (inR N g) || decide (av out g = 0))) &&
  es.all (fun p => !(decide (inR N p.1) && decide (inR N p.2) && decide (0 ≤ av out p.2)) || (decide (0 ≤ av out p.1) && decide (av out p.1 ≤ av out p.2 + 1))) &&
  (List.range N).all (fun k => decide (av out (k : Int) < 0) || (decide (av out (k : Int) = 0) && gs.any (fun g => decide (g = (k : Int)))) || es.any (fun p => decide (p.1 = (k : Int)) && decide (inR N p.2) && decide (0 ≤ av out p.2) && decide (av out (k : Int) = av out p.2 + 1)))
theorem isFar_of {N : Nat} {es : List (Int × Int)} {gs out : List Int} (h : isFarB N es gs out = true) : IsFar N es gs out := by
  unfold isFarB at h
  simp only [Bool.and_eq_true, List.all_eq_true, decide_eq_true_eq, Bool.or_eq_true, Bool.not_eq_true', decide_eq_false_iff_not, List.any_eq_true, List.mem_range, Bool.and_eq_false_iff] at h
  obtain ⟨⟨⟨⟨h1, h2⟩, h3⟩, h4⟩, h5⟩ := h
  refine { len := h1, lo := fun k => ?_, goal := fun g a b => ?_, edge := fun u v a b c d => ?_, back := fun k hk => ?_ }
  · by_cases hr : inR out.length k
    · exact h2 _ (List.mem_of_getElem? (get_av hr))
    · rw [av_out hr]; omega
  · rcases h3 g a with h | h
    · exact absurd b h
    · exact h
  · rcases h4 (u, v) a with h | h
    · rcases h with (h | h) | h
      · exact absurd b h
      · exact absurd c h
      · exact absurd d h
    · exact h
  · have hr : inR out.length k := by
      apply Classical.byContradiction
      intro hn; rw [av_out hn] at hk; omega
    obtain ⟨m, rfl⟩ : ∃ m : Nat, k = (m : Int) := ⟨k.toNat, by have := hr.1; omega⟩
    rw [h1] at hr
    rcases h5 m (by have := hr.2; omega) with (h | ⟨h, g, h6, h7⟩) | ⟨p, h6, ⟨⟨h7, h8⟩, h9⟩, h10⟩
    · omega
    · subst h7; exact .inl ⟨h, h6⟩
    · refine .inr ⟨p.2, ?_, h8, h9, h10⟩
      rw [← h7]; exact h6

theorem ends_of {n : TNet} {s : TSpace} (h : FewS s) {gs : List Int} (hg : goalsL n s = gs) {f : List Int} (hf : isFarB s.States.length (es s) gs f = true) : Ends n s f := by
  obtain ⟨f', E⟩ := ends_is (n := n) h
  have := E.is.unique (by rw [hg]; exact isFar_of hf)
  rw [← this]; exact E

def net0 : TNet := TNet.mk ([] : (List TColour)) ([(TPlace.mk (⟨#[97]⟩ : ByteArray) 0 ([] : (List (Int × Int)))), (TPlace.mk (⟨#[98]⟩ : ByteArray) 0 ([] : (List (Int × Int)))), (TPlace.mk (⟨#[99]⟩ : ByteArray) 0 ([] : (List (Int × Int))))] : List TPlace) ([] : (List TTask)) 0 2
def ed0 (a b : Int) : TEdge := TEdge.mk a b (TMode.mk 0 [] [] [])
def sp0 : TSpace := TSpace.mk [[[(0, 1)], [], []], [[], [(0, 1)], []], [[], [], [(0, 1)]], [[], [], []]] [ed0 0 1, ed0 1 0, ed0 1 2, ed0 9 2] false
def sp1 : TSpace := TSpace.mk [] [] false
theorem few0 : FewS sp0 := ⟨⟨by unfold sp0 maxLen; simp, by unfold sp0 maxLen; simp, fun m hm => by
  simp only [sp0, List.mem_cons, List.not_mem_nil, or_false] at hm
  rcases hm with rfl | rfl | rfl | rfl <;> exact ⟨by unfold maxLen; simp, fun b hb => by simp at hb; (first | (rcases hb with rfl | rfl | rfl) | (rcases hb with rfl | rfl) | subst hb) <;> (unfold maxLen; simp)⟩⟩, by simp [sp0], by simp [sp0]⟩
theorem few1 : FewS sp1 := ⟨⟨by unfold sp1 maxLen; simp, by unfold sp1 maxLen; simp, fun m hm => by simp [sp1] at hm⟩, by simp [sp1], by simp [sp1]⟩
theorem E0 : Ends net0 sp0 [2, 1, 0, -1] := ends_of few0 (gs := [2]) (by kernel_rfl) (by kernel_rfl)
theorem E1 : Ends net0 sp1 [] := ends_of few1 (gs := []) (by kernel_rfl) (by kernel_rfl)
theorem far0 : F_rank_Far sp0 [2, 7] = some [2, 1, 0, -1] := by
  obtain ⟨f, h1, h2, h3⟩ := farSame (gs := [2, 7]) few0 (by simp)
  have := h3.unique (isFar_of (out := [2, 1, 0, -1]) (by kernel_rfl))
  rw [← this]; exact h1

theorem ints_t {a b : List Int} (ha : a.length ≤ 1000) (h : a = b) : F_ref03_Ints a b = some true := by
  rw [ints_spec (by unfold maxLen; omega), h]; simp
theorem small_true : F_law16_small = some true := by
  unfold F_law16_small F_law16_small_g1 F_law16_net F_law16_small_k2
  have h1 : F_rank_Goals net0 sp0 = some [2] := by rw [goals_spec few0]; congr 1
  have h2 := far0
  have h3 : F_rank_Lost net0 sp0 = some [3] := by rw [lost_spec E0]; rfl
  have h4 : F_rank_Step net0 sp0 1 = some 2 := by rw [step_spec E0]; rfl
  have h5 : F_rank_Step net0 sp0 2 = some (-1) := by rw [step_spec E0]; rfl
  have h6 : F_rank_Way net0 sp0 0 = some [0, 2] := by rw [way_spec E0]; rfl
  have h7 : F_rank_Longest net0 sp0 = some 2 := by rw [longest_spec E0]; rfl
  have h8 : F_rank_Longest net0 sp1 = some (-1) := by rw [longest_spec E1]; rfl
  unfold net0 sp0 ed0 at h1 h2 h3 h4 h5 h6 h7
  unfold net0 sp1 at h8
  simp only [Option.bind_some, h1, h2, h3, h4, h5, h6, h7, h8, ints_t (a := [2]) (b := [2]) (by simp) rfl, ints_t (a := [2, 1, 0, -1]) (b := [2, 1, 0, -1]) (by simp) rfl, ints_t (a := [3]) (b := [3]) (by simp) rfl, ints_t (a := [0, 2]) (b := [0, 2]) (by simp) rfl, cond_true]
  rfl
end Go.Proofs
