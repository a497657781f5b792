/- A part of the proof; what it holds is told at each theorem. -/
import Derived.Test.YtmmnafdkbobjcaaRkT
set_option linter.unusedVariables false
set_option linter.unusedSimpArgs false
set_option linter.unusedSectionVars false
set_option linter.deprecated false
noncomputable section
namespace Go.Proofs
open Go Go.RowKit Go.Vm Go.Rk

theorem ways_true (n : TNet) (s : TSpace) (k : Int) (hs : okSp s) : F_law16_RankWays n s k = some true := by
  obtain ⟨b, hb, hF⟩ := few_spec hs
  unfold F_law16_RankWays
  rw [small_true, Option.bind_some, hb, Option.bind_some]
  cases b with
  | false => rfl
  | true =>
    replace hF := hF rfl
    by_cases hr : inR s.States.length k
    case neg =>
      have : (decide (k < 0) || decide ((s.States.length : Int) ≤ k)) = true := by
        unfold inR at hr; simp only [Bool.or_eq_true, decide_eq_true_eq]; omega
      rw [this]; rfl
    case pos =>
    have : (decide (k < 0) || decide ((s.States.length : Int) ≤ k)) = false := by
      unfold inR at hr; simp only [Bool.or_eq_false_iff, decide_eq_false_iff_not]; omega
    rw [this]
    obtain ⟨f, E⟩ := ends_is (n := n) hF
    have hfl : f.length = s.States.length := E.is.len
    have hfl4 := E.len
    have hrf : inR f.length k := by rw [hfl]; exact hr
    have hk40 := E.le40 k
    have hkm := E.is.lo k
    simp only [Bool.not_true, Bool.or_false, cond_false, goals_spec hF, Option.bind_some, E.far, way_spec E]
    have hwl := wayOf_len E (av f k).toNat k
    generalize hw : wayOf s f (av f k).toNat k = w at hwl ⊢
    have hg1 : F_law16_RankWays_g1 f s k w = some false := by
      unfold F_law16_RankWays_g1
      rw [show ((f.length : Int) != (s.States.length : Int)) = false by rw [hfl]; simp, cond_false, idx_pos hr.1, get_av hrf, Option.bind_some, max2_eq]
      congr 1
      rw [bne_eq_false_iff_eq, hwl]
      rw [Int.max_def]; split <;> omega
    rw [hg1, Option.bind_some]
    unfold F_law16_RankWays_k15
    rw [cond_false]
    have key : ∃ r, loopM (fun st : Int × Int => F_law16_RankWays_l6 w s f k st.1 st.2) (k, 0) = some r ∧ ∃ at_, r = .inr at_ ∧ inR s.States.length at_ ∧ (0 ≤ av f k → av f at_ = 0) := by
      refine loop_up w.length (fun i st => st.2 = (i : Int) ∧ inR s.States.length st.1 ∧ av f st.1 = av f k - i ∧ w.drop i = wayOf s f ((av f k).toNat - i) st.1) _ (fun i st hi hs => .inl ?_) (fun st hs => ?_) (k, 0) ⟨rfl, hr, by simp, by simpa using hw.symm⟩
      · obtain ⟨a, j⟩ := st
        obtain ⟨h1, h2, h3, h4⟩ := hs
        simp only at h1 h2 h3 h4
        subst h1
        obtain ⟨q, e, n1, n2, n3, n4, n5⟩ := near_pos E (k := a) (by omega)
        have hd : (av f k).toNat - i = ((av f k).toNat - (i + 1)) + 1 := by omega
        rw [hd, wayOf, n1, List.drop_eq_getElem_cons hi] at h4
        simp only [Int.toNat_natCast, n2, Option.map_some, Option.getD_some, List.cons.injEq] at h4
        obtain ⟨h5, h6⟩ := h4
        have hi' : (i : Int) < w.length := by omega
        have hwi : w[i]? = some (q : Int) := by rw [List.getElem?_eq_getElem hi, h5]
        have hq := (List.getElem?_eq_some_iff.1 n2).1
        refine ⟨(e.To, ((i + 1 : Nat) : Int)), ?_, rfl, n4, by simp only; omega, h6⟩
        unfold F_law16_RankWays_l6 F_law16_RankWays_g2 F_law16_RankWays_k5
        have c1 : ¬ (q : Int) < 0 := by omega
        have c2 : ¬ (s.Edges.length : Int) ≤ q := by omega
        have c3 : (e.From != a) = false := by rw [n3]; simp
        simp only [hi', decide_true, cond_true, idx_nat, hwi, Option.bind_some, c1, c2, decide_false, cond_false, n2, c3]
        unfold F_law16_RankWays_g3 F_law16_RankWays_k4
        have hrt : inR f.length e.To := by rw [hfl]; exact n4
        have c4 : ¬ e.To < 0 := by have := n4.1; omega
        have c5 : ¬ (f.length : Int) ≤ e.To := by have := hrt.2; omega
        have hwl2 : w.length ≤ 40 := by omega
        have c6 : (av f e.To != w64 (w64 (av f k - (i : Int)) - 1)) = false := by
          rw [w64_in (n := av f k - (i : Int)) (by omega), w64_in (by omega), bne_eq_false_iff_eq]; omega
        simp only [c4, c5, decide_false, cond_false, idx_pos n4.1, idx_pos hr.1, get_av hrt, get_av hrf, Option.bind_some, c6, w64_succ hi (show w.length ≤ maxLen by unfold maxLen; omega)]
      · obtain ⟨a, j⟩ := st
        obtain ⟨h1, h2, h3, h4⟩ := hs
        simp only at h1 h2 h3 h4
        subst h1
        refine ⟨.inr a, by simp [F_law16_RankWays_l6], a, rfl, h2, fun h => by omega⟩
    obtain ⟨r, r1, at_, rfl, hat, hat0⟩ := key
    rw [r1, Option.bind_some, Sum.elim_inr]
    unfold F_law16_RankWays_c14
    rw [lost_spec E, Option.bind_some]
    have key2 : ∃ r, loopM (fun st : Bool × Int => F_law16_RankWays_l10 (idxs (fun x => decide (x < 0)) 0 f) k st.1 st.2) (false, 0) = some r ∧ r = decide (av f k < 0) := by
      have hll : (idxs (fun x => decide (x < 0)) 0 f).length ≤ maxLen := by have := idxs_len (fun x => decide (x < 0)) f 0; unfold maxLen; omega
      refine loop_up (idxs (fun x => decide (x < 0)) 0 f).length (fun i st => st.2 = (i : Int) ∧ (st.1 = true ↔ k ∈ (idxs (fun x => decide (x < 0)) 0 f).take i)) _ (fun i st hi hs => .inl ?_) (fun st hs => ?_) (false, 0) ⟨rfl, by simp⟩
      · obtain ⟨g, j⟩ := st
        obtain ⟨h1, h2⟩ := hs
        simp only at h1 h2
        subst h1
        have hi' : (i : Int) < (idxs (fun x => decide (x < 0)) 0 f).length := by omega
        have hx := List.getElem?_eq_getElem hi
        unfold F_law16_RankWays_l10 F_law16_RankWays_g8 F_law16_RankWays_k9
        simp only [hi', decide_true, cond_true, idx_nat, hx, Option.bind_some, w64_succ hi hll]
        rw [show (idxs (fun x => decide (x < 0)) 0 f).take (i + 1) = (idxs (fun x => decide (x < 0)) 0 f).take i ++ [(idxs (fun x => decide (x < 0)) 0 f)[i]] from List.take_succ_eq_append_getElem hi]
        cases g with
        | true =>
          refine ⟨_, rfl, rfl, ?_⟩
          simp only [true_iff, List.mem_append]
          exact .inl (h2.1 rfl)
        | false =>
          refine ⟨_, rfl, rfl, ?_⟩
          have : ¬ k ∈ (idxs (fun x => decide (x < 0)) 0 f).take i := fun h => by have := h2.2 h; cases this
          simp only [beq_iff_eq, List.mem_append, List.mem_singleton, this, false_or]
          exact ⟨fun h => h.symm, fun h => h.symm⟩
      · obtain ⟨g, j⟩ := st
        obtain ⟨h1, h2⟩ := hs
        simp only at h1 h2
        subst h1
        rw [List.take_length, mem_idxs] at h2
        refine ⟨g, by simp [F_law16_RankWays_l10], ?_⟩
        rw [Bool.eq_iff_iff, h2, decide_eq_true_iff]
        constructor
        · rintro ⟨i, x, h3, h4, h5⟩
          rw [h5, Nat.zero_add, av_get (by omega) h3]; simpa using h4
        · intro h
          exact ⟨k.toNat, _, get_av hrf, by simpa using h, by have := hr.1; omega⟩
    obtain ⟨r, q1, rfl⟩ := key2
    rw [q1, Option.bind_some]
    unfold F_law16_RankWays_c13 F_law16_RankWays_g11 F_law16_RankWays_k12
    have hstep : (decide (0 ≤ near s f k) == decide (0 < av f k)) = true := by
      rw [beq_iff_eq]
      by_cases h : 0 < av f k
      · obtain ⟨i, e, h1, _⟩ := near_pos E h
        rw [h1, decide_eq_true h]; simp
      · rw [near_neg E h, decide_eq_false h]; rfl
    simp only [cond_true, idx_pos hr.1, get_av hrf, Option.bind_some, beq_self_eq_true, step_spec E, hstep]
    by_cases h : av f k < 0
    · simp only [h, decide_true, cond_true, Option.bind_some]
    · have ha := hat0 (by omega)
      have hst : s.States[at_.toNat]? = some (s.States[at_.toNat]'(by have := hat.1; have := hat.2; omega)) := List.getElem?_eq_getElem _
      have hfin : finB n (s.States[at_.toNat]'(by have := hat.1; have := hat.2; omega)) = true := by
        rcases E.is.back at_ (by omega) with ⟨_, h2⟩ | ⟨v, _, _, h3, h4⟩
        · unfold goalsL at h2
          obtain ⟨i, x, h3, h4, h5⟩ := mem_idxs.1 h2
          rw [Nat.zero_add] at h5
          subst h5
          have : (s.States[((i : Nat) : Int).toNat]'(by have := hat.1; have := hat.2; omega)) = x := by
            obtain ⟨_, e⟩ := List.getElem?_eq_some_iff.1 h3
            exact e
          rw [this]; exact h4
        · omega
      simp only [h, decide_false, cond_false, idx_pos hat.1, hst, Option.bind_some, markFinal_spec (hF.get hst), hfin, cond_true]
end Go.Proofs
