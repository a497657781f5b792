/- A part of the proof; what it holds is told at each theorem. -/
import Derived.Test.YtmmnafdkbobjcaaRkT
set_option linter.unusedVariables false
set_option linter.unusedSimpArgs false
set_option linter.unusedSectionVars false
set_option linter.deprecated false
noncomputable section
namespace Go.Proofs
open Go Go.RowKit Go.Vm Go.Rk

def mrg (a c : Int) : Int := if a < 0 ∨ (0 ≤ c ∧ c < a) then c else a
theorem mrg_cases (a c : Int) (ha : -1 ≤ a) (hc : -1 ≤ c) : (mrg a c = -1 ∧ a = -1 ∧ c = -1) ∨ (0 ≤ mrg a c ∧ (mrg a c = a ∨ mrg a c = c) ∧ (0 ≤ a → mrg a c ≤ a) ∧ (0 ≤ c → mrg a c ≤ c)) := by
  unfold mrg; split <;> omega
theorem IsFar.merge {N : Nat} {es : List (Int × Int)} {gs ms a c : List Int} (ha : IsFar N es gs a) (hc : IsFar N es ms c) : IsFar N es (gs ++ ms) ((List.range N).map fun k : Nat => mrg (av a (k : Int)) (av c (k : Int))) := by
  have hv : ∀ k, av ((List.range N).map fun k : Nat => mrg (av a (k : Int)) (av c (k : Int))) k = mrg (av a k) (av c k) := fun k => by
    by_cases hr : inR N k
    · obtain ⟨m, rfl⟩ : ∃ m : Nat, k = (m : Int) := ⟨k.toNat, by have := hr.1; omega⟩
      refine av_get (by omega) ?_
      rw [List.getElem?_map, List.getElem?_range (by have := hr.2; omega)]; rfl
    · rw [av_out (by simpa using hr), av_out (by rw [ha.len]; exact hr), av_out (by rw [hc.len]; exact hr)]; rfl
  have cs := fun k => mrg_cases (av a k) (av c k) (ha.lo k) (hc.lo k)
  have hedge : ∀ u v, (u, v) ∈ es → inR N u → inR N v → 0 ≤ mrg (av a v) (av c v) → 0 ≤ mrg (av a u) (av c u) ∧ mrg (av a u) (av c u) ≤ mrg (av a v) (av c v) + 1 := fun u v h1 h2 h3 h4 => by
    have cu := cs u; have cv := cs v
    rcases cv with ⟨h, _⟩ | ⟨_, h | h, _, _⟩
    · omega
    · have := ha.edge u v h1 h2 h3 (by omega); omega
    · have := hc.edge u v h1 h2 h3 (by omega); omega
  refine { len := by simp, lo := fun k => ?_, goal := fun g hg hr => ?_, edge := fun u v h1 h2 h3 h4 => ?_, back := fun k hk => ?_ }
  · rw [hv]; have := cs k; have := ha.lo k; omega
  · rw [hv]
    have cg := cs g
    rcases List.mem_append.1 hg with h | h
    · have := ha.goal g h hr; omega
    · have := hc.goal g h hr; omega
  · rw [hv] at h4; rw [hv, hv]; exact hedge u v h1 h2 h3 h4
  · rw [hv] at hk
    have ck := cs k
    have goalOr : ∀ v, (k, v) ∈ es → inR N v → mrg (av a k) (av c k) ≤ mrg (av a v) (av c v) + 1 ∨ mrg (av a v) (av c v) < 0 := fun v h1 h2 => by
      have hr : inR N k := by
        apply Classical.byContradiction
        intro hn
        rw [av_out (by rw [ha.len]; exact hn), av_out (by rw [hc.len]; exact hn)] at hk
        unfold mrg at hk; omega
      by_cases h0 : 0 ≤ mrg (av a v) (av c v)
      · exact .inl (hedge k v h1 hr h2 h0).2
      · right; omega
    rw [hv]
    rcases ck with ⟨h, _⟩ | ⟨_, h | h, _, _⟩
    · omega
    · rcases ha.back k (by omega) with ⟨h0, hg⟩ | ⟨v, h1, h2, h3, h4⟩
      · exact .inl ⟨by omega, List.mem_append_left _ hg⟩
      · refine .inr ⟨v, h1, h2, ?_⟩
        rw [hv]
        have cv := cs v; have := goalOr v h1 h2
        omega
    · rcases hc.back k (by omega) with ⟨h0, hg⟩ | ⟨v, h1, h2, h3, h4⟩
      · exact .inl ⟨by omega, List.mem_append_right _ hg⟩
      · refine .inr ⟨v, h1, h2, ?_⟩
        rw [hv]
        have cv := cs v; have := goalOr v h1 h2
        omega

theorem more_true (s : TSpace) (goals more : List Int) (hs : okSp s) : F_law16_RankMore s goals more = some true := by
  obtain ⟨b, hb, hF⟩ := few_spec hs
  unfold F_law16_RankMore
  rw [small_true, Option.bind_some, hb, Option.bind_some]
  cases b with
  | false => rfl
  | true =>
    replace hF := hF rfl
    by_cases hg : 50 < (goals.length : Int)
    · simp [hg]
    by_cases hm : 50 < (more.length : Int)
    · simp [hm]
    simp only [hg, hm, decide_false, Bool.not_true, Bool.or_false, cond_false]
    obtain ⟨a, a1, _, a3⟩ := farSame (gs := goals) hF (by omega)
    obtain ⟨c, c1, _, c3⟩ := farSame (gs := more) hF (by omega)
    obtain ⟨d, d1, _, d3⟩ := farSame (gs := goals ++ more) hF (by simp; omega)
    have hd := d3.unique (IsFar.merge a3 c3)
    have hst := hF.st
    rw [chk_d (by simp; omega), chk_d (by simp; omega)]
    simp only [Option.bind_some, List.nil_append, a1, c1, d1]
    have l1 : ((a.length : Int) != (d.length : Int)) = false := by rw [a3.len, d3.len]; simp
    have l2 : ((a.length : Int) != (c.length : Int)) = false := by rw [a3.len, c3.len]; simp
    rw [l1, l2, Bool.or_false, cond_false]
    rw [loop_any (l := a) (s0 := 0) (fun i => (i : Int)) (fun _ _ => false) (Sum.inl ()) (Sum.inr ()) ?_ ?_ rfl]
    · have a1 : anyI (fun (_ : Nat) (_ : Int) => false) 0 a = false := by rw [anyI_false]; intros; rfl
      rw [a1]; rfl
    · intro i x hi hx
      have h1 : (i : Int) < a.length := by omega
      have hiN : i < s.States.length := by rw [← a3.len]; exact hi
      have hr : inR c.length (i : Int) := by rw [c3.len]; exact ⟨by omega, by omega⟩
      have hy := get_av hr
      simp only [Int.toNat_natCast] at hy
      have hv : av a (i : Int) = x := av_get (by omega) hx
      have hz : d[i]? = some (mrg x (av c (i : Int))) := by
        rw [hd, List.getElem?_map, List.getElem?_range hiN, Option.map_some, hv]
      unfold F_law16_RankMore_l4 F_law16_RankMore_g2 F_law16_RankMore_k3 F_law16_RankMore_k1
      simp only [h1, decide_true, cond_true, idx_nat, hx, hy, hz, Option.bind_some, w64_succ hi (show a.length ≤ maxLen by unfold maxLen; rw [a3.len]; omega)]
      unfold mrg
      by_cases q1 : x < 0
      · simp [q1]
      · by_cases q2 : 0 ≤ av c (i : Int)
        · by_cases q3 : av c (i : Int) < x
          · simp [q1, q2, q3]
          · simp [q1, q2, q3]
        · simp [q1, q2]
    · simp [F_law16_RankMore_l4]
end Go.Proofs
