/- A part of the proof; what it holds is told at each theorem. -/
import Derived.Test.YtmmnafdkbobjcaaT2
import Derived.Test.YtmmnafdkbobjcaaXPlA
import Derived.Test.YtmmnafdkbobjcaaRkA
import Derived.Test.YtmmnafdkbobjcaaRkH
set_option linter.unusedVariables false
set_option linter.unusedSimpArgs false
set_option linter.unusedSectionVars false
set_option linter.deprecated false
noncomputable section
namespace Go.Proofs
open Go Go.RowKit Go.Vm

/-! ### bags -/
abbrev Rw := Int × Int
def badR (last : Int) (x : Rw) : Bool := decide (x.1 ≤ last) || (decide (x.2 < 1) || decide (1048576 < x.2))
def rightFrom : Int → List Rw → Bool
  | _, [] => true
  | last, x :: l => bif badR last x then false else rightFrom x.1 l
def rightB (b : List Rw) : Bool := rightFrom (-1) b

theorem bagRight_spec {b : List Rw} (hb : b.length ≤ maxLen) : F_bag_Right b = some (rightB b) := by
  unfold F_bag_Right
  rw [loop_scan (l := b) (s0 := (-1, 0)) (fun i (t : Int) => (t, (i : Int))) (fun i t x => bif badR t x then .inr (.inl ()) else .inl x.1) (fun _ => .inr ()) ?_ ?_ (-1) rfl]
  · have : ∀ (l : List Rw) k t, Sum.elim (fun (q : Unit) => F_bag_Right_c2) (fun (q : Unit) => F_bag_Right_c3) (scanL (fun i t x => bif badR t x then .inr (.inl ()) else .inl x.1) (fun _ => .inr ()) k t l) = some (rightFrom t l) := by
      intro l
      induction l with
      | nil => intro k t; rfl
      | cons x l ih =>
        intro k t
        rw [scanL, rightFrom]
        cases badR t x with
        | true => rfl
        | false => exact ih _ _
    exact this b 0 (-1)
  · intro i t x hi hx
    have h1 : (i : Int) < b.length := by omega
    unfold F_bag_Right_l1
    simp only [h1, decide_true, cond_true, idx_nat, hx, Option.bind_some, w64_succ hi hb]
    show (bif badR t x then _ else _) = _
    cases badR t x <;> rfl
  · intro t
    unfold F_bag_Right_l1
    simp

theorem rightFrom_iff : ∀ {l : List Rw} {last : Int}, rightFrom last l = true ↔ (∀ x ∈ l, last < x.1 ∧ 1 ≤ x.2 ∧ x.2 ≤ 1048576) ∧ l.Pairwise fun x y => x.1 < y.1 := by
  intro l
  induction l with
  | nil => intro last; simp [rightFrom]
  | cons x l ih =>
    intro last
    have e : badR last x = false ↔ last < x.1 ∧ 1 ≤ x.2 ∧ x.2 ≤ 1048576 := by
      unfold badR
      simp only [Bool.or_eq_false_iff, decide_eq_false_iff_not, Int.not_le, Int.not_lt]
    rw [rightFrom, List.forall_mem_cons, List.pairwise_cons]
    cases hb : badR last x with
    | true =>
      rw [hb] at e
      simp only [cond_true, Bool.false_eq_true, false_iff]
      rintro ⟨⟨h, _⟩, _⟩
      exact absurd (e.2 h) (by simp)
    | false =>
      have h0 := e.1 hb
      simp only [cond_false]
      rw [ih]
      constructor
      · rintro ⟨h1, h2⟩
        exact ⟨⟨h0, fun y hy => ⟨by have := (h1 y hy).1; omega, (h1 y hy).2⟩⟩, fun y hy => (h1 y hy).1, h2⟩
      · rintro ⟨⟨_, h1⟩, h2, h3⟩
        exact ⟨fun y hy => ⟨h2 y hy, (h1 y hy).2⟩, h3⟩

def badS (b : List Rw) (i : Nat) (x : Rw) : Bool := decide (x.1 < 0) || (decide (x.2 < 1) || (decide (1048576 < x.2) || (decide (0 < i) && ((b[i - 1]?).map (fun y => decide (x.1 ≤ y.1))).getD false)))
theorem refRight_eq {b : List Rw} (hb : b.length ≤ maxLen) : F_ref03_Right b = some (!anyI (badS b) 0 b) := by
  unfold F_ref03_Right
  rw [loop_any (l := b) (s0 := 0) (fun i => (i : Int)) (badS b) (.inl ()) (.inr ()) ?_ ?_ rfl]
  · cases anyI (badS b) 0 b <;> rfl
  · intro i x hi hx
    have h1 : (i : Int) < b.length := by omega
    unfold F_ref03_Right_l3 F_ref03_Right_g1 F_ref03_Right_k2
    simp only [h1, decide_true, cond_true, idx_nat, hx, Option.bind_some, w64_succ hi hb]
    unfold badS
    by_cases c1 : x.1 < 0
    · simp [c1]
    by_cases c2 : x.2 < 1
    · simp [c1, c2]
    by_cases c3 : 1048576 < x.2
    · simp [c1, c2, c3]
    by_cases c4 : 0 < i
    · have e : w64 ((i : Int) - 1) = ((i - 1 : Nat) : Int) := by unfold maxLen at hb; rw [w64_in (by omega)]; omega
      have hy : b[i - 1]? = some b[i - 1] := List.getElem?_eq_getElem (by omega)
      have c5 : (0 : Int) < i := by omega
      simp only [c1, c2, c3, c4, c5, e, idx_nat, hy, decide_false, decide_true, cond_true, cond_false, Option.bind_some, Bool.false_or, Bool.true_and, Option.map_some, Option.getD_some]
      by_cases c6 : x.1 ≤ b[i - 1].1 <;> simp [c6]
    · have c5 : ¬ (0 : Int) < i := by omega
      simp [c1, c2, c3, c4, c5]
  · unfold F_ref03_Right_l3
    simp
theorem right_same (b : List Rw) : (!anyI (badS b) 0 b) = rightB b := by
  rw [Bool.eq_iff_iff, Bool.not_eq_true', anyI_false, rightB, rightFrom_iff]
  constructor
  · intro h
    have hv : ∀ (i : Nat) x, b[i]? = some x → 0 ≤ x.1 ∧ 1 ≤ x.2 ∧ x.2 ≤ 1048576 ∧ (0 < i → ∀ y, b[i - 1]? = some y → y.1 < x.1) := fun i x hx => by
      have := h i x hx
      unfold badS at this
      simp only [Bool.or_eq_false_iff, decide_eq_false_iff_not, Int.not_lt, Bool.and_eq_false_iff] at this
      obtain ⟨h1, h2, h3, h4⟩ := this
      refine ⟨h1, h2, h3, fun hi y hy => ?_⟩
      rcases h4 with h4 | h4
      · omega
      · rw [hy] at h4; simpa using h4
    refine ⟨fun x hx => ?_, ?_⟩
    · obtain ⟨i, hi⟩ := List.mem_iff_getElem?.1 hx
      have := hv i x hi
      omega
    · have hm : ∀ n i : Nat, ∀ x y, b[i]? = some x → b[i + n + 1]? = some y → x.1 < y.1 := by
        intro n
        induction n with
        | zero => intro i x y hx hy; exact (hv (i + 1) y hy).2.2.2 (by omega) x (by simpa using hx)
        | succ n ih =>
          intro i x y hx hy
          have hlt := (List.getElem?_eq_some_iff.1 hy).1
          have hz : b[i + n + 1]? = some b[i + n + 1] := List.getElem?_eq_getElem (by omega)
          have h1 := ih i x _ hx hz
          have h2 := (hv (i + (n + 1) + 1) y hy).2.2.2 (by omega) b[i + n + 1] (by rw [← hz]; congr 1)
          omega
      rw [List.pairwise_iff_getElem]
      intro i j hi hj hij
      refine hm (j - i - 1) i _ _ (List.getElem?_eq_getElem hi) ?_
      rw [show i + (j - i - 1) + 1 = j by omega]; exact List.getElem?_eq_getElem hj
  · rintro ⟨h1, h2⟩ i x hx
    have hi := (List.getElem?_eq_some_iff.1 hx).1
    have := h1 x (List.mem_of_getElem? hx)
    unfold badS
    simp only [Bool.or_eq_false_iff, decide_eq_false_iff_not, Int.not_lt, Bool.and_eq_false_iff]
    refine ⟨by omega, by omega, by omega, ?_⟩
    by_cases c : 0 < i
    · right
      rw [List.pairwise_iff_getElem] at h2
      have h3 := h2 (i - 1) i (by omega) hi (by omega)
      rw [List.getElem?_eq_getElem (by omega)]
      obtain ⟨_, rfl⟩ := List.getElem?_eq_some_iff.1 hx
      simpa using h3
    · left; exact c
theorem refRight_spec {b : List Rw} (hb : b.length ≤ maxLen) : F_ref03_Right b = some (rightB b) := by rw [refRight_eq hb, right_same]

theorem mset_last {l : List Rw} {k v : Int} (h : ∀ p ∈ l, p.1 < k) : mset ltI l k v = l ++ [(k, v)] := by
  have h1 : mget l k = none := by
    induction l with
    | nil => rfl
    | cons p l ih =>
      have h0 := h p List.mem_cons_self
      show (if p.1 = k then _ else _) = none
      rw [if_neg (by omega)]
      exact ih fun q hq => h q (List.mem_cons_of_mem _ hq)
  unfold mset
  rw [h1]
  clear h1
  show mins ltI l k v = _
  induction l with
  | nil => rfl
  | cons p l ih =>
    have h0 := h p List.mem_cons_self
    show (if ltI k p.1 = true then _ else _) = _
    rw [if_neg (by unfold ltI; simp; omega), ih fun q hq => h q (List.mem_cons_of_mem _ hq)]; rfl

theorem bagOf_spec {b : List Rw} (hb : b.length ≤ maxLen) : F_bag_of b = some (bif rightB b then .inr b else .inl ()) := by
  unfold F_bag_of
  rw [bagRight_spec hb, Option.bind_some]
  cases hr : rightB b with
  | false => rfl
  | true =>
    obtain ⟨_, hp⟩ := rightFrom_iff.1 hr
    have key : ∃ r, loopM (fun st : Int × List Rw => F_bag_of_l1 b st.1 st.2) (0, []) = some r ∧ r = b := by
      refine loop_up b.length (fun i s => s = ((i : Int), b.take i)) (fun r => r = b) (fun i s hi hs => .inl ?_) (fun s hs => ?_) (0, []) rfl
      · subst hs
        have h1 : (i : Int) < b.length := by omega
        refine ⟨(((i + 1 : Nat) : Int), b.take (i + 1)), ?_, rfl⟩
        unfold F_bag_of_l1
        simp only [h1, decide_true, cond_true, idx_nat, List.getElem?_eq_getElem hi, Option.bind_some, w64_succ hi hb]
        rw [mset_last]
        · rw [List.take_succ_eq_append_getElem hi]
        · intro p hp'
          obtain ⟨j, hj⟩ := List.mem_iff_getElem?.1 hp'
          obtain ⟨hj1, rfl⟩ := List.getElem?_eq_some_iff.1 hj
          rw [List.length_take] at hj1
          rw [List.getElem_take]
          exact (List.pairwise_iff_getElem.1 hp) j i (by omega) hi (by omega)
      · subst hs
        refine ⟨b, ?_, rfl⟩
        unfold F_bag_of_l1
        simp
    obtain ⟨r, h1, h2⟩ := key
    simp only [Bool.not_true, cond_false, cond_true]
    rw [h1, h2]; rfl

def sumR (n : Int) : List Rw → Int
  | [] => n
  | p :: l => sumR (w64 (n + p.2)) l
def totB (b : List Rw) : Int := bif rightB b then sumR 0 b else 0
theorem bagTotal_spec {b : List Rw} (hb : b.length ≤ maxLen) : F_bag_Total b = some (totB b) := by
  unfold F_bag_Total
  rw [bagOf_spec hb, Option.bind_some, totB]
  cases rightB b with
  | false => rfl
  | true =>
    simp only [cond_true, Sum.elim_inr]
    unfold F_bag_Total_a4
    have hrun : ∀ (l : List Rw) n, runL (fun st (p : Rw) => F_bag_Total_m2 st p.1 p.2) n l = some (.inl (sumR n l)) := by
      intro l
      induction l with
      | nil => intro n; rfl
      | cons p l ih => intro n; exact ih _
    have hswap : ∀ s (p q : Rw), runL (fun st (p : Rw) => F_bag_Total_m2 st p.1 p.2) s [p, q] = runL (fun st (p : Rw) => F_bag_Total_m2 st p.1 p.2) s [q, p] := by
      intro s p q
      rw [hrun, hrun]
      simp only [sumR, w64_w64]
      congr 3; omega
    rw [rangeM_iff.2 ⟨fun l' h => runL_perm hswap h 0, hrun b 0⟩]
    rfl
theorem refTotal_spec {b : List Rw} (hb : b.length ≤ maxLen) : F_ref03_Total b = some (totB b) := by
  unfold F_ref03_Total
  rw [refRight_spec hb, Option.bind_some, totB]
  cases rightB b with
  | false => rw [loopM_eq]; simp [F_ref03_Total_l1, F_ref03_Total_c2]
  | true =>
    have := loop_scan (body := fun st : Int × Int => F_ref03_Total_l1 b true st.1 st.2) (l := b) (fun i t => (t, (i : Int))) (fun i t x => .inl (w64 (t + x.2))) (fun t => t) ?_ ?_ 0 (s0 := (0, 0)) rfl
    · rw [this, Option.bind_some]
      have : ∀ (l : List Rw) k t, scanL (fun i t (x : Rw) => (.inl (w64 (t + x.2)) : Int ⊕ Int)) (fun t => t) k t l = sumR t l := by
        intro l
        induction l with
        | nil => intro k t; rfl
        | cons x l ih => intro k t; exact ih _ _
      rw [this]; rfl
    · intro i t x hi hx
      have h1 : (i : Int) < b.length := by omega
      unfold F_ref03_Total_l1
      simp only [h1, decide_true, cond_true, idx_nat, hx, Option.bind_some, w64_succ hi hb, Bool.and_true]
      rfl
    · intro t
      unfold F_ref03_Total_l1
      simp
end Go.Proofs
