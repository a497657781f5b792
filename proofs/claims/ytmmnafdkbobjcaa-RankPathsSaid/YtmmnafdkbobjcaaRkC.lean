/- A part of the proof; what it holds is told at each theorem. -/
import Derived.Test.YtmmnafdkbobjcaaRkB
set_option linter.unusedVariables false
set_option linter.unusedSimpArgs false
set_option linter.unusedSectionVars false
set_option linter.deprecated false
noncomputable section
namespace Go.Proofs
open Go Go.RowKit Go.Vm Go.Rk

abbrev Mk := List (List Rw)
def okM (m : Mk) : Prop := m.length ≤ maxLen ∧ ∀ b ∈ m, b.length ≤ maxLen
theorem okM.get {m : Mk} (h : okM m) {i : Nat} {b : List Rw} (hb : m[i]? = some b) : b.length ≤ maxLen := h.2 b (List.mem_of_getElem? hb)
def finB (n : TNet) (m : Mk) : Bool := decide (m.length = n.Places.length) && (decide (0 ≤ n.To) && decide (n.To < m.length)) && !anyI (fun i b => totB b != (bif (i : Int) == n.To then 1 else 0)) 0 m

theorem ended_spec {n : TNet} {m : Mk} (hm : okM m) : F_mark_Ended n m = some (decide (0 ≤ n.To) && (decide (n.To < m.length) && ((m[n.To.toNat]?).map fun b => decide (0 < totB b)).getD false)) := by
  unfold F_mark_Ended F_mark_Ended_g1 F_mark_Ended_k2
  by_cases h1 : 0 ≤ n.To
  · by_cases h2 : n.To < m.length
    · have hb : m[n.To.toNat]? = some (m[n.To.toNat]'(by omega)) := List.getElem?_eq_getElem (by omega)
      have := bagTotal_spec (hm.get hb)
      simp only [h1, h2, decide_true, cond_true, idx_pos h1, hb, Option.bind_some, this, Bool.true_and, Option.map_some, Option.getD_some]
    · simp [h1, h2]
  · simp [h1]
theorem markFinal_spec {n : TNet} {m : Mk} (hm : okM m) : F_mark_Final n m = some (finB n m) := by
  unfold F_mark_Final F_mark_Final_g1
  rw [ended_spec hm, finB]
  by_cases h0 : m.length = n.Places.length
  · have h0' : ((m.length : Int) != (n.Places.length : Int)) = false := by rw [h0]; simp
    have h0d : decide (m.length = n.Places.length) = true := decide_eq_true h0
    simp only [h0', h0d, decide_true, cond_false, Option.bind_some, Bool.true_and]
    by_cases h1 : 0 ≤ n.To
    · by_cases h2 : n.To < m.length
      · have h2' : n.To < n.Places.length := by rw [← h0]; exact h2
        have hb : m[n.To.toNat]? = some (m[n.To.toNat]'(by omega)) := List.getElem?_eq_getElem (by omega)
        have e : loopM (fun st => F_mark_Final_l3 m n st) 0 = some (bif anyI (fun i b => totB b != (bif (i : Int) == n.To then 1 else 0)) 0 m then .inl () else .inr () : Unit ⊕ Unit) := by
          refine loop_any (l := m) (fun i => (i : Int)) _ (Sum.inl ()) (Sum.inr ()) ?_ ?_ rfl
          · intro i x hi hx
            have h3 : (i : Int) < m.length := by omega
            have := bagTotal_spec (hm.get hx)
            unfold F_mark_Final_l3 F_mark_Final_k2
            simp only [h3, decide_true, cond_true, idx_nat, hx, Option.bind_some, this, w64_succ hi hm.1]
            cases (i : Int) == n.To with
            | true => show (bif totB x != 1 then _ else _) = some (bif totB x != 1 then _ else _); cases totB x != 1 <;> rfl
            | false => show (bif totB x != 0 then _ else _) = some (bif totB x != 0 then _ else _); cases totB x != 0 <;> rfl
          · unfold F_mark_Final_l3; simp
        simp only [h1, h2, h2', decide_true, Bool.true_and, hb, Option.map_some, Option.getD_some]
        unfold F_mark_Final_k6
        rw [e]
        by_cases h4 : 0 < totB (m[n.To.toNat]'(by omega))
        · simp only [h4, decide_true, Bool.not_true, cond_false]
          cases anyI _ 0 m <;> rfl
        · simp only [h4, decide_false, Bool.not_false, cond_true]
          congr 1
          symm
          rw [Bool.not_eq_false', anyI_iff]
          refine ⟨n.To.toNat, _, hb, ?_⟩
          have : (((0 + n.To.toNat : Nat) : Int) == n.To) = true := by simp; omega
          rw [this]
          simp; omega
      · have h2' : ¬ n.To < n.Places.length := by rw [← h0]; exact h2
        simp [h1, h2, h2', F_mark_Final_k6]
    · simp [h1, F_mark_Final_k6]
  · have h0' : ((m.length : Int) != (n.Places.length : Int)) = true := by simp; omega
    simp [h0', h0, F_mark_Final_k6]
theorem refFinal_spec {n : TNet} {m : Mk} (hm : okM m) : F_ref09_Final n m = some (finB n m) := by
  unfold F_ref09_Final
  rw [finB]
  by_cases h0 : m.length = n.Places.length
  · have h0' : ((m.length : Int) != (n.Places.length : Int)) = false := by rw [h0]; simp
    have h0d : decide (m.length = n.Places.length) = true := decide_eq_true h0
    by_cases h1 : 0 ≤ n.To
    · by_cases h2 : n.To < m.length
      · have h2' : n.To < n.Places.length := by rw [← h0]; exact h2
        have h1' : ¬ n.To < 0 := by omega
        have h2'' : ¬ (m.length : Int) ≤ n.To := by omega
        have e : loopM (fun st => F_ref09_Final_l1 m n st) 0 = some (bif anyI (fun i b => totB b != (bif (i : Int) == n.To then 1 else 0)) 0 m then .inl () else .inr () : Unit ⊕ Unit) := by
          refine loop_any (l := m) (fun i => (i : Int)) _ (Sum.inl ()) (Sum.inr ()) ?_ ?_ rfl
          · intro i x hi hx
            have h3 : (i : Int) < m.length := by omega
            have := refTotal_spec (hm.get hx)
            unfold F_ref09_Final_l1
            simp only [h3, decide_true, cond_true, idx_nat, hx, Option.bind_some, this, w64_succ hi hm.1]
            cases hc : (i : Int) == n.To
            · simp only [cond_false]
              have : ((i : Int) != n.To) = true := by rw [bne, hc]; rfl
              rw [this, Bool.true_and]
              show (bif totB x != 0 then _ else _) = some (bif totB x != 0 then _ else _)
              cases totB x != 0 <;> rfl
            · simp only [cond_true]
              have : ((i : Int) != n.To) = false := by rw [bne, hc]; rfl
              rw [this, Bool.false_and, Bool.or_false]
              show (bif totB x != 1 then _ else _) = some (bif totB x != 1 then _ else _)
              cases totB x != 1 <;> rfl
          · unfold F_ref09_Final_l1; simp
        simp only [h0', h0d, h1, h1', h2, h2'', decide_true, decide_false, Bool.true_and, Bool.or_false, cond_false, e, Option.bind_some]
        cases anyI _ 0 m <;> rfl
      · have h2' : ¬ n.To < n.Places.length := by rw [← h0]; exact h2
        have h2'' : (m.length : Int) ≤ n.To := by omega
        simp [h0', h0d, h1, h2, h2'']
    · have h1' : n.To < 0 := by omega
      simp [h0', h0d, h1, h1']
  · have h0' : ((m.length : Int) != (n.Places.length : Int)) = true := by simp; omega
    simp [h0', h0]

theorem ints_spec {a b : List Int} (ha : a.length ≤ maxLen) : F_ref03_Ints a b = some (decide (a = b)) := by
  unfold F_ref03_Ints
  by_cases h0 : a.length = b.length
  · have h0' : ((a.length : Int) != (b.length : Int)) = false := by rw [h0]; simp
    rw [h0', cond_false]
    rw [loop_any (l := a) (s0 := 0) (fun i => (i : Int)) (fun i x => ((b[i]?).map fun y => x != y).getD false) (.inl ()) (.inr ()) ?_ ?_ rfl]
    · have : anyI (fun i x => ((b[i]?).map fun y => x != y).getD false) 0 a = !decide (a = b) := by
        by_cases e : a = b
        · subst e
          simp only [decide_true, Bool.not_true]
          rw [anyI_false]
          intro i x hx
          rw [hx]; simp
        · simp only [e, decide_false, Bool.not_false]
          apply Classical.byContradiction
          intro hn
          rw [Bool.not_eq_true, anyI_false] at hn
          apply e
          apply List.ext_getElem? 
          intro i
          by_cases hi : i < a.length
          · have := hn i a[i] (List.getElem?_eq_getElem hi)
            rw [List.getElem?_eq_getElem (by omega : i < b.length)] at this
            rw [List.getElem?_eq_getElem hi, List.getElem?_eq_getElem (by omega : i < b.length)]
            simpa using this
          · rw [List.getElem?_eq_none (by omega), List.getElem?_eq_none (by omega)]
      rw [this]
      by_cases e : a = b <;> simp [e, F_ref03_Ints_c2, F_ref03_Ints_c3]
    · intro i x hi hx
      have h1 : (i : Int) < a.length := by omega
      have hy : b[i]? = some (b[i]'(by omega)) := List.getElem?_eq_getElem (by omega)
      unfold F_ref03_Ints_l1
      simp only [h1, decide_true, cond_true, idx_nat, hx, hy, Option.bind_some, w64_succ hi ha, Option.map_some, Option.getD_some]
      cases x != (b[i]'(by omega)) <;> rfl
    · unfold F_ref03_Ints_l1; simp
  · have h0' : ((a.length : Int) != (b.length : Int)) = true := by simp; omega
    have : a ≠ b := fun e => h0 (by rw [e])
    simp [h0', this]

def okSp (s : TSpace) : Prop := s.States.length ≤ maxLen ∧ s.Edges.length ≤ maxLen ∧ ∀ m ∈ s.States, okM m
/-- A space that is small enough. -/
structure FewS (s : TSpace) : Prop where
  ok : okSp s
  st : s.States.length ≤ 40
  ed : s.Edges.length ≤ 200
theorem FewS.get {s : TSpace} (h : FewS s) {i : Nat} {m : Mk} (hm : s.States[i]? = some m) : okM m := h.ok.2.2 m (List.mem_of_getElem? hm)

theorem few09_total {m : Mk} (hm : okM m) : ∃ b, F_law09_Few m = some b := by
  unfold F_law09_Few
  have key : ∃ r, loopM (fun st : Int × Int => F_law09_Few_l1 m st.1 st.2) (0, 0) = some r ∧ True := by
    refine loop_up m.length (fun i s => s.2 = (i : Int)) (fun _ => True) (fun i s hi hs => ?_) (fun s hs => ?_) (0, 0) rfl
    · obtain ⟨n, j⟩ := s
      replace hs : j = (i : Int) := hs
      subst hs
      have h1 : (i : Int) < m.length := by omega
      simp only [F_law09_Few_l1, h1, decide_true, Bool.true_and, idx_nat, List.getElem?_eq_getElem hi, Option.bind_some, w64_succ hi hm.1]
      by_cases h2 : (i : Int) < 100
      · left; exact ⟨(w64 (n + ((m[i]'hi).length : Int)), ((i + 1 : Nat) : Int)), by simp [h2], rfl⟩
      · right; exact ⟨n, by simp [h2]⟩
    · obtain ⟨n, j⟩ := s
      replace hs : j = (m.length : Int) := hs
      subst hs
      exact ⟨n, by simp [F_law09_Few_l1], trivial⟩
  obtain ⟨r, h, _⟩ := key
  rw [h]; exact ⟨_, rfl⟩
theorem few_spec {s : TSpace} (hs : okSp s) : ∃ b, F_law16_Few s = some b ∧ (b = true → FewS s) := by
  unfold F_law16_Few
  by_cases h1 : (40 : Int) < s.States.length
  · exact ⟨false, by simp [h1], fun h => by cases h⟩
  by_cases h2 : (200 : Int) < s.Edges.length
  · exact ⟨false, by simp [h2], fun h => by cases h⟩
  have hF : FewS s := ⟨hs, by omega, by omega⟩
  have key : ∃ r, loopM (fun st => F_law16_Few_l1 s st) 0 = some r ∧ True := by
    refine loop_up s.States.length (fun i t => t = (i : Int)) (fun _ => True) (fun i t hi ht => ?_) (fun t ht => ?_) 0 rfl
    · subst ht
      have h1 : (i : Int) < s.States.length := by omega
      obtain ⟨b, hb⟩ := few09_total (hF.get (List.getElem?_eq_getElem hi))
      simp only [F_law16_Few_l1, h1, decide_true, cond_true, idx_nat, List.getElem?_eq_getElem hi, Option.bind_some, w64_succ hi hs.1, hb]
      cases b
      · right; exact ⟨_, rfl, trivial⟩
      · left; exact ⟨_, rfl, rfl⟩
    · subst ht
      exact ⟨.inr (), by simp [F_law16_Few_l1], trivial⟩
  obtain ⟨r, h, _⟩ := key
  simp only [h1, h2, decide_false, Bool.or_false, cond_false, h, Option.bind_some]
  rcases r with q | q
  · exact ⟨false, rfl, fun h => by cases h⟩
  · exact ⟨true, rfl, fun _ => hF⟩

def goalsL (n : TNet) (s : TSpace) : List Int := idxs (finB n) 0 s.States
theorem goals_spec {n : TNet} {s : TSpace} (h : FewS s) : F_rank_Goals n s = some (goalsL n s) := by
  unfold F_rank_Goals
  rw [loop_collect (l := s.States) (finB n)]
  · rfl
  · intro i acc x ha hi hx
    have h1 : (i : Int) < s.States.length := by omega
    have hst := h.st
    have hc : decide (acc.length + ([(i : Int)] : List Int).length ≤ 4294967296) = true := decide_eq_true (by simp; omega)
    simp only [F_rank_Goals_l2, F_rank_Goals_k1, h1, decide_true, cond_true, idx_nat, hx, Option.bind_some, w64_succ hi h.ok.1, markFinal_spec (h.get hx), chk_t hc]
    cases finB n x <;> rfl
  · intro acc; simp [F_rank_Goals_l2]
theorem refGoals_spec {n : TNet} {s : TSpace} (h : FewS s) : F_ref16_Goals n s = some (goalsL n s) := by
  unfold F_ref16_Goals
  rw [loop_collect (l := s.States) (finB n)]
  · rfl
  · intro i acc x ha hi hx
    have h1 : (i : Int) < s.States.length := by omega
    have hst := h.st
    have hc : decide (acc.length + ([(i : Int)] : List Int).length ≤ 4294967296) = true := decide_eq_true (by simp; omega)
    simp only [F_ref16_Goals_l2, F_ref16_Goals_k1, h1, decide_true, cond_true, idx_nat, hx, Option.bind_some, w64_succ hi h.ok.1, refFinal_spec (h.get hx), chk_t hc]
    cases finB n x <;> rfl
  · intro acc; simp [F_ref16_Goals_l2]
end Go.Proofs
