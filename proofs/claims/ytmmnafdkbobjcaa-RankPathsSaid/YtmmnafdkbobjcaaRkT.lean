/- A part of the proof; what it holds is told at each theorem. -/
import Derived.Test.YtmmnafdkbobjcaaRkS
import Derived.Test.YtmmnafdkbobjcaaXVmU
set_option linter.unusedVariables false
set_option linter.unusedSimpArgs false
set_option linter.unusedSectionVars false
set_option linter.deprecated false
noncomputable section
namespace Go.Proofs
open Go Go.RowKit Go.Vm Go.Rk

theorem tells_true (n : TNet) (s : TSpace) (goals : List Int) (k : Int) (hs : okSp s) : F_law16_RankTells n s goals k = some true := by
  obtain ⟨b, hb, hF⟩ := few_spec hs
  unfold F_law16_RankTells
  rw [small_true, Option.bind_some, hb, Option.bind_some]
  cases b with
  | false => rfl
  | true =>
    replace hF := hF rfl
    by_cases hg : 50 < (goals.length : Int)
    · simp [hg]
    · simp only [hg, decide_false, Bool.not_true, Bool.or_false, cond_false]
      rw [chk_d (by simp; omega)]
      simp only [Option.bind_some]
      unfold F_law16_RankTells_g1 F_law16_RankTells_k2
      obtain ⟨f, E⟩ := ends_is (n := n) hF
      obtain ⟨o, o1, o2, o3⟩ := farSame (gs := goals) hF (by omega)
      have hfl := E.len
      have e1 : (goalsL n s).length ≤ 1000 := goalsL_len hF
      have e2 : o.length ≤ 1000 := by rw [o3.len]; have := hF.st; omega
      have e3 : (idxs (fun x => decide (x < 0)) 0 f).length ≤ 1000 := by have := idxs_len (fun x => decide (x < 0)) f 0; omega
      have e4 : (wayOf s f (av f k).toNat k).length ≤ 1000 := by rw [wayOf_len E]; have := E.le40 k; omega
      simp only [cond_true, goals_spec hF, refGoals_spec hF, Option.bind_some, ints_t e1 rfl, List.nil_append, o1, o2, ints_t e2 rfl, lost_spec E, refLost_spec E, ints_t e3 rfl, longest_spec E, refLongest_spec E, beq_self_eq_true,
        step_spec E, refStep_spec E, way_spec E, refWay_spec E, ints_t e4 rfl, ints_t (a := goals) (b := goals) (by omega) rfl]

theorem least_true (s : TSpace) (goals : List Int) (hs : okSp s) : F_law16_RankLeast s goals = some true := by
  obtain ⟨b, hb, hF⟩ := few_spec hs
  unfold F_law16_RankLeast
  rw [small_true, Option.bind_some, hb, Option.bind_some]
  cases b with
  | false => rfl
  | true =>
    replace hF := hF rfl
    by_cases hg : 50 < (goals.length : Int)
    · simp [hg]
    · simp only [hg, decide_false, Bool.not_true, Bool.or_false, cond_false]
      obtain ⟨f, f1, _, f3⟩ := farSame (gs := goals) hF (by omega)
      have hfl : f.length = s.States.length := f3.len
      have hst := hF.st
      have hlt : ∀ k, inR s.States.length k → av f k < f.length := fun k hk => by
        rw [hfl]
        rcases f3.lt k with h | h
        · exact h
        · unfold inR at hk; omega
      rw [f1, Option.bind_some, show ((f.length : Int) != (s.States.length : Int)) = false by rw [hfl]; simp, cond_false]
      rw [loop_any (l := goals) (s0 := 0) (fun i => (i : Int)) (fun _ _ => false) (Sum.inl ()) (Sum.inr ()) ?_ ?_ rfl]
      · have a1 : anyI (fun (_ : Nat) (_ : Int) => false) 0 goals = false := by rw [anyI_false]; intros; rfl
        rw [a1]
        simp only [cond_false, Option.bind_some, Sum.elim_inr]
        unfold F_law16_RankLeast_c16
        rw [loop_any (l := s.Edges) (s0 := 0) (fun i => (i : Int)) (fun _ _ => false) (Sum.inl ()) (Sum.inr ()) ?_ ?_ rfl]
        · have a1 : anyI (fun (_ : Nat) (_ : TEdge) => false) 0 s.Edges = false := by rw [anyI_false]; intros; rfl
          rw [a1]
          simp only [cond_false, Option.bind_some, Sum.elim_inr]
          unfold F_law16_RankLeast_c15
          rw [loop_any (l := f) (s0 := 0) (fun i => (i : Int)) (fun _ _ => false) (Sum.inl ()) (Sum.inr ()) ?_ ?_ rfl]
          · have a1 : anyI (fun (_ : Nat) (_ : Int) => false) 0 f = false := by rw [anyI_false]; intros; rfl
            rw [a1]; rfl
          · intro i x hi hx
            have h1 : (i : Int) < f.length := by omega
            have hv : av f (i : Int) = x := av_get (by omega) hx
            have h2 := f3.lo (i : Int)
            have h3 := hlt (i : Int) ⟨by omega, by omega⟩
            rw [hv] at h2 h3
            have h4 : ¬ x < -1 := by omega
            have h5 : ¬ (f.length : Int) ≤ x := by omega
            unfold F_law16_RankLeast_l12 F_law16_RankLeast_g10 F_law16_RankLeast_k11
            simp only [h1, h4, h5, decide_true, decide_false, cond_true, cond_false, idx_nat, hx, Option.bind_some, w64_succ hi (show f.length ≤ maxLen by unfold maxLen; omega)]
          · simp [F_law16_RankLeast_l12]
        · intro i e hi he
          have h1 : (i : Int) < s.Edges.length := by omega
          unfold F_law16_RankLeast_l8 F_law16_RankLeast_k5
          simp only [h1, decide_true, cond_true, idx_nat, he, Option.bind_some, w64_succ hi hF.ok.2.1]
          by_cases hr : inR f.length e.From ∧ inR f.length e.To
          · obtain ⟨hr1, hr2⟩ := hr
            have c1 : ¬ e.From < 0 := by have := hr1.1; omega
            have c2 : ¬ (f.length : Int) ≤ e.From := by have := hr1.2; omega
            have c3 : ¬ e.To < 0 := by have := hr2.1; omega
            have c4 : ¬ (f.length : Int) ≤ e.To := by have := hr2.2; omega
            simp only [c1, c2, c3, c4, decide_false, Bool.or_false, cond_false]
            unfold F_law16_RankLeast_g6 F_law16_RankLeast_k7 F_law16_RankLeast_k5
            simp only [idx_pos hr1.1, idx_pos hr2.1, get_av hr1, get_av hr2, Option.bind_some]
            by_cases h0 : 0 ≤ av f e.To
            · obtain ⟨h2, h3⟩ := f3.edge e.From e.To (mem_es.2 ⟨e, List.mem_of_getElem? he, rfl, rfl⟩) (by rw [← hfl]; exact hr1) (by rw [← hfl]; exact hr2) h0
              have h4 : ¬ av f e.From < 0 := by omega
              have h6 := hlt e.To (by rw [← hfl]; exact hr2)
              have h5 : ¬ w64 (av f e.To + 1) < av f e.From := by rw [w64_in (by omega)]; omega
              simp only [h0, h4, h5, decide_true, decide_false, cond_true, cond_false, Option.bind_some, w64_succ hi hF.ok.2.1]
            · simp only [h0, decide_false, cond_false, Option.bind_some, w64_succ hi hF.ok.2.1]
          · have : (decide (e.From < 0) || (decide ((f.length : Int) ≤ e.From) || (decide (e.To < 0) || decide ((f.length : Int) ≤ e.To)))) = true := by
              unfold inR at hr
              simp only [Bool.or_eq_true, decide_eq_true_eq]; omega
            rw [this]; rfl
        · simp [F_law16_RankLeast_l8]
      · intro i g hi hx
        have h1 : (i : Int) < goals.length := by omega
        unfold F_law16_RankLeast_l3 F_law16_RankLeast_g1 F_law16_RankLeast_k2
        simp only [h1, decide_true, cond_true, idx_nat, hx, Option.bind_some, w64_succ hi (show goals.length ≤ maxLen by unfold maxLen; omega)]
        by_cases c1 : 0 ≤ g
        · by_cases c2 : g < f.length
          · have hr : inR f.length g := ⟨c1, c2⟩
            have := f3.goal g (List.mem_of_getElem? hx) (by rw [← hfl]; exact hr)
            simp only [c1, c2, decide_true, cond_true, idx_pos c1, get_av hr, this, Option.bind_some]
            rfl
          · simp [c1, c2]
        · simp [c1]
      · simp [F_law16_RankLeast_l3]
end Go.Proofs
