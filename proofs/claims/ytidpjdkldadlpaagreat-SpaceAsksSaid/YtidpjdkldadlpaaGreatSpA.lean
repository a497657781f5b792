/-
  SPACE, PLAIN: bags, spaces that are small enough, edges that count: as in the chapter of ranks.
-/
import Derived.Test.YtidpjdkldadlpaaGreatT3
import Derived.Test.YtidpjdkldadlpaaGreatXPlA
import Derived.Test.YtidpjdkldadlpaaGreatRkA
set_option linter.unusedVariables false
set_option linter.unusedSimpArgs false
set_option linter.unusedSectionVars false
set_option linter.deprecated false
noncomputable section
namespace Go.Proofs
open Go Go.RowKit Go.Vm Go.Rk

/-! ### bags -/
abbrev Rw := Int × Int
def badR (last : Int) (x : Rw) : Bool := decide (x.1 ≤ last) || (decide (x.2 < 1) || decide (1048576 < x.2))
def rightFrom : Int → List Rw → Bool
  | _, [] => true
  | last, x :: l => bif badR last x then false else rightFrom x.1 l
def rightB (b : List Rw) : Bool := rightFrom (-1) b

theorem bagRight_spec {b : List Rw} (hb : b.length ≤ maxLen) : F_bag_Right b = some (rightB b) := by
  unfold F_bag_Right
  rw [loop_scan (l := b) (s0 := (-1, 0)) (fun i (t : Int) => (t, (i : Int))) (fun i t x => bif badR t x then .inr (.inl ()) else .inl x.1) (fun _ => .inr ()) ?_ ?_ (-1) rfl]
  · have : ∀ (l : List Rw) k t, Sum.elim (fun (q : Unit) => F_bag_Right_c2) (fun (q : Unit) => F_bag_Right_c3) (scanL (fun i t x => bif badR t x then .inr (.inl ()) else .inl x.1) (fun _ => .inr ()) k t l) = some (rightFrom t l) := by
      intro l
      induction l with
      | nil => intro k t; rfl
      | cons x l ih =>
        intro k t
        rw [scanL, rightFrom]
        cases badR t x with
        | true => rfl
        | false => exact ih _ _
    exact this b 0 (-1)
  · intro i t x hi hx
    have h1 : (i : Int) < b.length := by omega
    unfold F_bag_Right_l1
    simp only [h1, decide_true, cond_true, idx_nat, hx, Option.bind_some, w64_succ hi hb]
    show (bif badR t x then _ else _) = _
    cases badR t x <;> rfl
  · intro t
    unfold F_bag_Right_l1
    simp

theorem rightFrom_iff : ∀ {l : List Rw} {last : Int}, rightFrom last l = true ↔ (∀ x ∈ l, last < x.1 ∧ 1 ≤ x.2 ∧ x.2 ≤ 1048576) ∧ l.Pairwise fun x y => x.1 < y.1 := by
  intro l
  induction l with
  | nil => intro last; simp [rightFrom]
  | cons x l ih =>
    intro last
    have e : badR last x = false ↔ last < x.1 ∧ 1 ≤ x.2 ∧ x.2 ≤ 1048576 := by
      unfold badR
      simp only [Bool.or_eq_false_iff, decide_eq_false_iff_not, Int.not_le, Int.not_lt]
    rw [rightFrom, List.forall_mem_cons, List.pairwise_cons]
    cases hb : badR last x with
    | true =>
      rw [hb] at e
      simp only [cond_true, Bool.false_eq_true, false_iff]
      rintro ⟨⟨h, _⟩, _⟩
      exact absurd (e.2 h) (by simp)
    | false =>
      have h0 := e.1 hb
      simp only [cond_false]
      rw [ih]
      constructor
      · rintro ⟨h1, h2⟩
        exact ⟨⟨h0, fun y hy => ⟨by have := (h1 y hy).1; omega, (h1 y hy).2⟩⟩, fun y hy => (h1 y hy).1, h2⟩
      · rintro ⟨⟨_, h1⟩, h2, h3⟩
        exact ⟨fun y hy => ⟨h2 y hy, (h1 y hy).2⟩, h3⟩

def badS (b : List Rw) (i : Nat) (x : Rw) : Bool := decide (x.1 < 0) || (decide (x.2 < 1) || (decide (1048576 < x.2) || (decide (0 < i) && ((b[i - 1]?).map (fun y => decide (x.1 ≤ y.1))).getD false)))
theorem refRight_eq {b : List Rw} (hb : b.length ≤ maxLen) : F_ref03_Right b = some (!anyI (badS b) 0 b) := by
  unfold F_ref03_Right
  rw [loop_any (l := b) (s0 := 0) (fun i => (i : Int)) (badS b) (.inl ()) (.inr ()) ?_ ?_ rfl]
  · cases anyI (badS b) 0 b <;> rfl
  · intro i x hi hx
    have h1 : (i : Int) < b.length := by omega
    unfold F_ref03_Right_l3 F_ref03_Right_g1 F_ref03_Right_k2
    simp only [h1, decide_true, cond_true, idx_nat, hx, Option.bind_some, w64_succ hi hb]
    unfold badS
    by_cases c1 : x.1 < 0
    · simp [c1]
    by_cases c2 : x.2 < 1
    · simp [c1, c2]
    by_cases c3 : 1048576 < x.2
    · simp [c1, c2, c3]
    by_cases c4 : 0 < i
    · have e : w64 ((i : Int) - 1) = ((i - 1 : Nat) : Int) := by unfold maxLen at hb; rw [w64_in (by omega)]; omega
      have hy : b[i - 1]? = some b[i - 1] := List.getElem?_eq_getElem (by omega)
      have c5 : (0 : Int) < i := by omega
      simp only [c1, c2, c3, c4, c5, e, idx_nat, hy, decide_false, decide_true, cond_true, cond_false, Option.bind_some, Bool.false_or, Bool.true_and, Option.map_some, Option.getD_some]
      by_cases c6 : x.1 ≤ b[i - 1].1 <;> simp [c6]
    · have c5 : ¬ (0 : Int) < i := by omega
      simp [c1, c2, c3, c4, c5]
  · unfold F_ref03_Right_l3
    simp
theorem right_same (b : List Rw) : (!anyI (badS b) 0 b) = rightB b := by
  rw [Bool.eq_iff_iff, Bool.not_eq_true', anyI_false, rightB, rightFrom_iff]
  constructor
  · intro h
    have hv : ∀ (i : Nat) x, b[i]? = some x → 0 ≤ x.1 ∧ 1 ≤ x.2 ∧ x.2 ≤ 1048576 ∧ (0 < i → ∀ y, b[i - 1]? = some y → y.1 < x.1) := fun i x hx => by
      have := h i x hx
      unfold badS at this
      simp only [Bool.or_eq_false_iff, decide_eq_false_iff_not, Int.not_lt, Bool.and_eq_false_iff] at this
      obtain ⟨h1, h2, h3, h4⟩ := this
      refine ⟨h1, h2, h3, fun hi y hy => ?_⟩
      rcases h4 with h4 | h4
      · omega
      · rw [hy] at h4; simpa using h4
    refine ⟨fun x hx => ?_, ?_⟩
    · obtain ⟨i, hi⟩ := List.mem_iff_getElem?.1 hx
      have := hv i x hi
      omega
    · have hm : ∀ n i : Nat, ∀ x y, b[i]? = some x → b[i + n + 1]? = some y → x.1 < y.1 := by
        intro n
        induction n with
        | zero => intro i x y hx hy; exact (hv (i + 1) y hy).2.2.2 (by omega) x (by simpa using hx)
        | succ n ih =>
          intro i x y hx hy
          have hlt := (List.getElem?_eq_some_iff.1 hy).1
          have hz : b[i + n + 1]? = some b[i + n + 1] := List.getElem?_eq_getElem (by omega)
          have h1 := ih i x _ hx hz
          have h2 := (hv (i + (n + 1) + 1) y hy).2.2.2 (by omega) b[i + n + 1] (by rw [← hz]; congr 1)
          omega
      rw [List.pairwise_iff_getElem]
      intro i j hi hj hij
      refine hm (j - i - 1) i _ _ (List.getElem?_eq_getElem hi) ?_
      rw [show i + (j - i - 1) + 1 = j by omega]; exact List.getElem?_eq_getElem hj
  · rintro ⟨h1, h2⟩ i x hx
    have hi := (List.getElem?_eq_some_iff.1 hx).1
    have := h1 x (List.mem_of_getElem? hx)
    unfold badS
    simp only [Bool.or_eq_false_iff, decide_eq_false_iff_not, Int.not_lt, Bool.and_eq_false_iff]
    refine ⟨by omega, by omega, by omega, ?_⟩
    by_cases c : 0 < i
    · right
      rw [List.pairwise_iff_getElem] at h2
      have h3 := h2 (i - 1) i (by omega) hi (by omega)
      rw [List.getElem?_eq_getElem (by omega)]
      obtain ⟨_, rfl⟩ := List.getElem?_eq_some_iff.1 hx
      simpa using h3
    · left; exact c
theorem refRight_spec {b : List Rw} (hb : b.length ≤ maxLen) : F_ref03_Right b = some (rightB b) := by rw [refRight_eq hb, right_same]

abbrev Mk := List (List Rw)
def okM (m : Mk) : Prop := m.length ≤ maxLen ∧ ∀ b ∈ m, b.length ≤ maxLen
theorem okM.get {m : Mk} (h : okM m) {i : Nat} {b : List Rw} (hb : m[i]? = some b) : b.length ≤ maxLen := h.2 b (List.mem_of_getElem? hb)
theorem ints_spec {a b : List Int} (ha : a.length ≤ maxLen) : F_ref03_Ints a b = some (decide (a = b)) := by
  unfold F_ref03_Ints
  by_cases h0 : a.length = b.length
  · have h0' : ((a.length : Int) != (b.length : Int)) = false := by rw [h0]; simp
    rw [h0', cond_false]
    rw [loop_any (l := a) (s0 := 0) (fun i => (i : Int)) (fun i x => ((b[i]?).map fun y => x != y).getD false) (.inl ()) (.inr ()) ?_ ?_ rfl]
    · have : anyI (fun i x => ((b[i]?).map fun y => x != y).getD false) 0 a = !decide (a = b) := by
        by_cases e : a = b
        · subst e
          simp only [decide_true, Bool.not_true]
          rw [anyI_false]
          intro i x hx
          rw [hx]; simp
        · simp only [e, decide_false, Bool.not_false]
          apply Classical.byContradiction
          intro hn
          rw [Bool.not_eq_true, anyI_false] at hn
          apply e
          apply List.ext_getElem? 
          intro i
          by_cases hi : i < a.length
          · have := hn i a[i] (List.getElem?_eq_getElem hi)
            rw [List.getElem?_eq_getElem (by omega : i < b.length)] at this
            rw [List.getElem?_eq_getElem hi, List.getElem?_eq_getElem (by omega : i < b.length)]
            simpa using this
          · rw [List.getElem?_eq_none (by omega), List.getElem?_eq_none (by omega)]
      rw [this]
      by_cases e : a = b <;> simp [e, F_ref03_Ints_c2, F_ref03_Ints_c3]
    · intro i x hi hx
      have h1 : (i : Int) < a.length := by omega
      have hy : b[i]? = some (b[i]'(by omega)) := List.getElem?_eq_getElem (by omega)
      unfold F_ref03_Ints_l1
      simp only [h1, decide_true, cond_true, idx_nat, hx, hy, Option.bind_some, w64_succ hi ha, Option.map_some, Option.getD_some]
      cases x != (b[i]'(by omega)) <;> rfl
    · unfold F_ref03_Ints_l1; simp
  · have h0' : ((a.length : Int) != (b.length : Int)) = true := by simp; omega
    have : a ≠ b := fun e => h0 (by rw [e])
    simp [h0', this]
def okSp (s : TSpace) : Prop := s.States.length ≤ maxLen ∧ s.Edges.length ≤ maxLen ∧ ∀ m ∈ s.States, okM m
/-- A space that is small enough. -/
structure FewS (s : TSpace) : Prop where
  ok : okSp s
  st : s.States.length ≤ 40
  ed : s.Edges.length ≤ 200
theorem FewS.get {s : TSpace} (h : FewS s) {i : Nat} {m : Mk} (hm : s.States[i]? = some m) : okM m := h.ok.2.2 m (List.mem_of_getElem? hm)
def cnt (s : TSpace) (e : TEdge) : Bool := (decide (0 ≤ e.From) && decide (e.From < (s.States.length : Int))) && (decide (0 ≤ e.To) && decide (e.To < (s.States.length : Int)))
theorem cnt_iff {s : TSpace} {e : TEdge} : cnt s e = true ↔ inR s.States.length e.From ∧ inR s.States.length e.To := by
  unfold cnt inR; simp only [Bool.and_eq_true, decide_eq_true_eq]
def froms (l : List TEdge) (k : Int) : List Int := (l.filter fun e => e.To == k).map (·.From)
def es (s : TSpace) : List (Int × Int) := s.Edges.map fun e => (e.From, e.To)
theorem mem_es {s : TSpace} {u v : Int} : (u, v) ∈ es s ↔ ∃ e ∈ s.Edges, e.From = u ∧ e.To = v := by
  unfold es; rw [List.mem_map]; simp only [Prod.mk.injEq]
theorem mem_froms {s : TSpace} {u k : Int} : u ∈ froms (s.Edges.filter (cnt s)) k ↔ (u, k) ∈ es s ∧ inR s.States.length u ∧ inR s.States.length k := by
  unfold froms
  rw [mem_es, List.mem_map]
  constructor
  · rintro ⟨e, he, rfl⟩
    rw [List.mem_filter, List.mem_filter, cnt_iff] at he
    obtain ⟨⟨h1, h2, h3⟩, h4⟩ := he
    have h4 : e.To = k := by simpa using h4
    exact ⟨⟨e, h1, rfl, h4⟩, h2, h4 ▸ h3⟩
  · rintro ⟨⟨e, h1, rfl, rfl⟩, h2, h3⟩
    exact ⟨e, by rw [List.mem_filter, List.mem_filter, cnt_iff]; exact ⟨⟨h1, h2, h3⟩, by simp⟩, rfl⟩
theorem countP_split {α : Type} {p p' q : α → Bool} : ∀ {l : List α}, (∀ e ∈ l, (p e = true ∧ ((p' e = true ∧ q e = false) ∨ (p' e = false ∧ q e = true))) ∨ (p e = false ∧ p' e = false ∧ q e = false)) → l.countP p = l.countP p' + l.countP q := by
  intro l
  induction l with
  | nil => intro _; rfl
  | cons x l ih =>
    intro h
    have h1 := ih fun e he => h e (List.mem_cons_of_mem _ he)
    rw [List.countP_cons, List.countP_cons, List.countP_cons, h1]
    rcases h x List.mem_cons_self with ⟨a, ⟨b, c⟩ | ⟨b, c⟩⟩ | ⟨a, b, c⟩ <;> simp [a, b, c] <;> omega
end Go.Proofs
