/-
  SPACE, PLAIN: which state a marking is: the program's answer and the document's.
-/
import Derived.Test.YtidpjdkldadlpaaGreatSpA
set_option linter.unusedVariables false
set_option linter.unusedSimpArgs false
set_option linter.unusedSectionVars false
set_option linter.deprecated false
noncomputable section
namespace Go.Proofs
open Go Go.RowKit Go.Vm Go.Rk

/-- Two rows of one length, held against each other. -/
def all2 {α β : Type} (q : α → β → Bool) : List α → List β → Bool
  | x :: a, y :: b => q x y && all2 q a b
  | _, _ => true
theorem loop_eq2 {α β : Type} {body : Int → Option (Int ⊕ (Unit ⊕ Unit))} {a : List α} {b : List β} (hl : a.length = b.length) (q : α → β → Bool)
    (hs : ∀ i x y, i < a.length → a[i]? = some x → b[i]? = some y → body (i : Int) = some (bif q x y then .inl ((i + 1 : Nat) : Int) else .inr (.inl ())))
    (hf : body (a.length : Int) = some (.inr (.inr ()))) : loopM body 0 = some (bif all2 q a b then .inr () else .inl ()) := by
  have key : ∀ k i : Nat, i + k = a.length → loopM body (i : Int) = some (bif all2 q (a.drop i) (b.drop i) then .inr () else .inl ()) := by
    intro k
    induction k with
    | zero =>
      intro i hk
      obtain rfl : i = a.length := by omega
      rw [loopM_eq, hf, List.drop_length]; rfl
    | succ k ih =>
      intro i hk
      have hi : i < a.length := by omega
      have hj : i < b.length := by omega
      rw [loopM_eq, hs i _ _ hi (List.getElem?_eq_getElem hi) (List.getElem?_eq_getElem hj), List.drop_eq_getElem_cons hi, List.drop_eq_getElem_cons hj, all2]
      cases q a[i] b[i] with
      | true => exact ih (i + 1) (by omega)
      | false => rfl
  exact key a.length 0 (by omega)
theorem all2_eq {α : Type} [DecidableEq α] {q : α → α → Bool} (hq : ∀ x y, q x y = decide (x = y)) : ∀ {a b : List α}, a.length = b.length → all2 q a b = decide (a = b) := by
  intro a
  induction a with
  | nil => intro b hl; cases b with
    | nil => rfl
    | cons y b => simp at hl
  | cons x a ih =>
    intro b hl
    cases b with
    | nil => simp at hl
    | cons y b =>
      rw [all2, hq, ih (by simpa using hl)]
      by_cases h1 : x = y <;> by_cases h2 : a = b <;> simp [h1, h2]
theorem all2_true {α : Type} {q : α → α → Bool} (hq : ∀ x, q x x = true) : ∀ a : List α, all2 q a a = true := by
  intro a
  induction a with
  | nil => rfl
  | cons x a ih => rw [all2, hq, ih]; rfl

theorem equal_spec {a b : List Rw} (ha : a.length ≤ maxLen) : F_slices_Equal_api_Bag_2_int a b = some (decide (a = b)) := by
  unfold F_slices_Equal_api_Bag_2_int
  by_cases h0 : a.length = b.length
  · have h0' : ((a.length : Int) != (b.length : Int)) = false := by rw [h0]; simp
    rw [h0', cond_false]
    rw [loop_eq2 h0 (fun x y : Rw => (x.1 == y.1) && (x.2 == y.2)) ?_ ?_]
    · rw [all2_eq (fun x y => by rw [Bool.eq_iff_iff, Bool.and_eq_true, beq_iff_eq, beq_iff_eq, decide_eq_true_iff, Prod.ext_iff]) h0]
      by_cases e : a = b <;> simp [e, F_slices_Equal_api_Bag_2_int_c2, F_slices_Equal_api_Bag_2_int_c3]
    · intro i x y hi hx hy
      have h1 : (i : Int) < a.length := by omega
      unfold F_slices_Equal_api_Bag_2_int_l1
      simp only [h1, decide_true, cond_true, idx_nat, hx, hy, Option.bind_some, w64_succ hi ha]
      cases (x.1 == y.1) && (x.2 == y.2) <;> rfl
    · unfold F_slices_Equal_api_Bag_2_int_l1; simp
  · have h0' : ((a.length : Int) != (b.length : Int)) = true := by simp; omega
    have : a ≠ b := fun e => h0 (by rw [e])
    simp [h0', this]

/-- Have two bags as many of each? -/
def sameB (a b : List Rw) : Bool := rightB a && (rightB b && decide (a = b))
theorem bagSame_spec {a b : List Rw} (ha : a.length ≤ maxLen) (hb : b.length ≤ maxLen) : F_bag_Same a b = some (sameB a b) := by
  unfold F_bag_Same F_bag_Same_g1 F_bag_Same_k2 sameB
  rw [bagRight_spec ha, bagRight_spec hb, Option.bind_some]
  cases rightB a with
  | false => rfl
  | true =>
    simp only [cond_true, Option.bind_some]
    cases rightB b with
    | false => rfl
    | true => simp only [cond_true, Option.bind_some, equal_spec ha, Bool.true_and]

def cntB : List Rw → Int → Int
  | [], _ => 0
  | x :: r, m => bif x.1 == m then x.2 else cntB r m
theorem count_spec {b : List Rw} {m : Int} (hb : b.length ≤ maxLen) : F_ref03_Count b m = some (bif rightB b then cntB b m else 0) := by
  unfold F_ref03_Count
  rw [refRight_spec hb, Option.bind_some]
  cases hr : rightB b with
  | false =>
    rw [loopM_eq]
    unfold F_ref03_Count_l1
    simp [F_ref03_Count_c3]
  | true =>
    have key : ∀ k i : Nat, i + k = b.length → (loopM (fun st => F_ref03_Count_l1 b true m st) (i : Int)).bind (Sum.elim (fun q => F_ref03_Count_c2 q) (fun q => F_ref03_Count_c3)) = some (cntB (b.drop i) m) := by
      intro k
      induction k with
      | zero =>
        intro i hk
        obtain rfl : i = b.length := by omega
        rw [loopM_eq, List.drop_length]
        unfold F_ref03_Count_l1
        simp [F_ref03_Count_c3, cntB]
      | succ k ih =>
        intro i hk
        have hi : i < b.length := by omega
        have h1 : (i : Int) < b.length := by omega
        rw [loopM_eq, List.drop_eq_getElem_cons hi, cntB]
        have hb1 : F_ref03_Count_l1 b true m (i : Int) = some (bif b[i].1 == m then .inr (.inl b[i].2) else .inl ((i + 1 : Nat) : Int)) := by
          unfold F_ref03_Count_l1
          simp only [h1, decide_true, Bool.and_self, cond_true, idx_nat, List.getElem?_eq_getElem hi, Option.bind_some, w64_succ hi hb]
          cases b[i].1 == m <;> rfl
        rw [hb1]
        cases b[i].1 == m with
        | true => rfl
        | false => exact ih (i + 1) (by omega)
    exact key b.length 0 (by omega)

theorem refWithin_spec {a b : List Rw} (ha : a.length ≤ maxLen) (hb : b.length ≤ maxLen) : F_ref03_Within a b = some (rightB a && (rightB b && !anyI (fun _ x => decide (cntB b x.1 < x.2)) 0 a)) := by
  unfold F_ref03_Within F_ref03_Within_g1
  rw [refRight_spec ha, refRight_spec hb, Option.bind_some]
  cases rightB a with
  | false => rfl
  | true =>
    cases hr : rightB b with
    | false => rfl
    | true =>
      simp only [Bool.not_true, cond_false, Option.bind_some, Bool.true_and]
      unfold F_ref03_Within_k5
      rw [cond_false, loop_any (l := a) (s0 := 0) (fun i => (i : Int)) (fun _ x => decide (cntB b x.1 < x.2)) (.inl ()) (.inr ()) ?_ ?_ rfl]
      · cases anyI (fun _ (x : Rw) => decide (cntB b x.1 < x.2)) 0 a <;> rfl
      · intro i x hi hx
        have h1 : (i : Int) < a.length := by omega
        unfold F_ref03_Within_l2
        simp only [h1, decide_true, cond_true, idx_nat, hx, Option.bind_some, count_spec hb, hr, w64_succ hi ha]
        cases decide (cntB b x.1 < x.2) <;> rfl
      · unfold F_ref03_Within_l2; simp

/-- Two rows that rise, of the same members, are one. -/
theorem rise_ext {α : Type} (key : α → Int) : ∀ {l m : List α}, l.Pairwise (fun x y => key x < key y) → m.Pairwise (fun x y => key x < key y) → (∀ x, x ∈ l ↔ x ∈ m) → l = m := by
  intro l
  induction l with
  | nil =>
    intro m _ _ h
    cases m with
    | nil => rfl
    | cons y m => exact absurd ((h y).2 List.mem_cons_self) (by simp)
  | cons x l ih =>
    intro m hl hm h
    cases m with
    | nil => exact absurd ((h x).1 List.mem_cons_self) (by simp)
    | cons y m =>
      obtain ⟨hl1, hl2⟩ := List.pairwise_cons.1 hl
      obtain ⟨hm1, hm2⟩ := List.pairwise_cons.1 hm
      have e : x = y := by
        rcases List.mem_cons.1 ((h x).1 List.mem_cons_self) with h1 | h1
        · exact h1
        · rcases List.mem_cons.1 ((h y).2 List.mem_cons_self) with h2 | h2
          · exact h2.symm
          · have := hm1 x h1; have := hl1 y h2; omega
      subst e
      rw [ih hl2 hm2 fun z => ?_]
      constructor
      · intro hz
        rcases List.mem_cons.1 ((h z).1 (List.mem_cons_of_mem _ hz)) with h1 | h1
        · subst h1; have := hl1 z hz; omega
        · exact h1
      · intro hz
        rcases List.mem_cons.1 ((h z).2 (List.mem_cons_of_mem _ hz)) with h1 | h1
        · subst h1; have := hm1 z hz; omega
        · exact h1

theorem cntB_mem : ∀ {b : List Rw}, b.Pairwise (fun x y => x.1 < y.1) → ∀ x ∈ b, cntB b x.1 = x.2 := by
  intro b
  induction b with
  | nil => intro _ x h; cases h
  | cons y b ih =>
    intro h x hx
    obtain ⟨h1, h2⟩ := List.pairwise_cons.1 h
    rw [cntB]
    rcases List.mem_cons.1 hx with rfl | hx
    · simp
    · have := h1 x hx
      have e : (y.1 == x.1) = false := by simp; omega
      rw [e, cond_false]; exact ih h2 x hx
theorem cntB_pos : ∀ {b : List Rw} {m : Int}, 0 < cntB b m → ∃ y ∈ b, y.1 = m := by
  intro b
  induction b with
  | nil => intro m h; simp [cntB] at h
  | cons y b ih =>
    intro m h
    rw [cntB] at h
    cases e : y.1 == m with
    | true => exact ⟨y, List.mem_cons_self, by simpa using e⟩
    | false =>
      rw [e, cond_false] at h
      obtain ⟨z, h1, h2⟩ := ih h
      exact ⟨z, List.mem_cons_of_mem _ h1, h2⟩
theorem within_sub {a b : List Rw} (ha : rightB a = true) (hb : rightB b = true) (h1 : anyI (fun _ (x : Rw) => decide (cntB b x.1 < x.2)) 0 a = false) (h2 : anyI (fun _ (x : Rw) => decide (cntB a x.1 < x.2)) 0 b = false) : ∀ x ∈ a, x ∈ b := by
  intro x hx
  have h1 := fun y (hy : y ∈ a) => let ⟨i, hi⟩ := List.mem_iff_getElem?.1 hy; anyI_false.1 h1 i y hi
  have h2 := fun y (hy : y ∈ b) => let ⟨i, hi⟩ := List.mem_iff_getElem?.1 hy; anyI_false.1 h2 i y hi
  obtain ⟨a1, a2⟩ := rightFrom_iff.1 ha
  obtain ⟨b1, b2⟩ := rightFrom_iff.1 hb
  have e1 := h1 x hx
  have e2 := (a1 x hx).2.1
  simp only [decide_eq_false_iff_not] at e1
  obtain ⟨y, hy, hyx⟩ := cntB_pos (b := b) (m := x.1) (by omega)
  have e3 := h2 y hy
  simp only [decide_eq_false_iff_not] at e3
  rw [hyx, cntB_mem a2 x hx] at e3
  rw [← hyx, cntB_mem b2 y hy] at e1
  have : x = y := Prod.ext hyx.symm (by omega)
  rw [this]; exact hy
theorem refSame_spec {a b : List Rw} (ha : a.length ≤ maxLen) (hb : b.length ≤ maxLen) : F_ref03_Same a b = some (sameB a b) := by
  unfold F_ref03_Same F_ref03_Same_g1 F_ref03_Same_k2 sameB
  rw [refWithin_spec ha hb, refWithin_spec hb ha, Option.bind_some]
  cases ra : rightB a with
  | false => rfl
  | true =>
    cases rb : rightB b with
    | false => rfl
    | true =>
      simp only [Bool.true_and]
      by_cases e : a = b
      · subst e
        have : anyI (fun _ (x : Rw) => decide (cntB a x.1 < x.2)) 0 a = false := anyI_false.2 fun i x hx => by
          rw [cntB_mem (rightFrom_iff.1 ra).2 x (List.mem_of_getElem? hx)]; simp
        simp [this]
      · simp only [e, decide_false]
        cases h1 : anyI (fun _ (x : Rw) => decide (cntB b x.1 < x.2)) 0 a with
        | true => rfl
        | false =>
          cases h2 : anyI (fun _ (x : Rw) => decide (cntB a x.1 < x.2)) 0 b with
          | true => rfl
          | false =>
            exact absurd (rise_ext (fun x : Rw => x.1) (rightFrom_iff.1 ra).2 (rightFrom_iff.1 rb).2 fun x => ⟨within_sub ra rb h1 h2 x, within_sub rb ra h2 h1 x⟩) e

/-- Are two markings alike? -/
def sameM (a b : Mk) : Bool := decide (a.length = b.length) && all2 sameB a b
theorem markSame_spec {a b : Mk} (ha : okM a) (hb : okM b) : F_mark_Same a b = some (sameM a b) := by
  unfold F_mark_Same F_slices_EqualFunc_api_Marking_api_Marking_api_Bag_api_Bag_v2 sameM
  by_cases h0 : a.length = b.length
  · have h0' : ((a.length : Int) != (b.length : Int)) = false := by rw [h0]; simp
    rw [h0', cond_false]
    rw [loop_eq2 h0 sameB ?_ ?_]
    · cases all2 sameB a b <;> simp [h0, F_slices_EqualFunc_api_Marking_api_Marking_api_Bag_api_Bag_v2_c2, F_slices_EqualFunc_api_Marking_api_Marking_api_Bag_api_Bag_v2_c3]
    · intro i x y hi hx hy
      have h1 : (i : Int) < a.length := by omega
      unfold F_slices_EqualFunc_api_Marking_api_Marking_api_Bag_api_Bag_v2_l1
      simp only [h1, decide_true, cond_true, idx_nat, hx, hy, Option.bind_some, w64_succ hi ha.1, bagSame_spec (ha.get hx) (hb.get hy)]
      cases sameB x y <;> rfl
    · unfold F_slices_EqualFunc_api_Marking_api_Marking_api_Bag_api_Bag_v2_l1; simp
  · have h0' : ((a.length : Int) != (b.length : Int)) = true := by simp; omega
    simp [h0', h0]
theorem refMarkSame_spec {a b : Mk} (ha : okM a) (hb : okM b) : F_ref09_Same a b = some (sameM a b) := by
  unfold F_ref09_Same sameM
  by_cases h0 : a.length = b.length
  · have h0' : ((a.length : Int) != (b.length : Int)) = false := by rw [h0]; simp
    rw [h0', cond_false]
    rw [loop_eq2 h0 sameB ?_ ?_]
    · cases all2 sameB a b <;> simp [h0, F_ref09_Same_c2, F_ref09_Same_c3]
    · intro i x y hi hx hy
      have h1 : (i : Int) < a.length := by omega
      unfold F_ref09_Same_l1
      simp only [h1, decide_true, cond_true, idx_nat, hx, hy, Option.bind_some, w64_succ hi ha.1, refSame_spec (ha.get hx) (hb.get hy)]
      cases sameB x y <;> rfl
    · unfold F_ref09_Same_l1; simp
  · have h0' : ((a.length : Int) != (b.length : Int)) = true := by simp; omega
    simp [h0', h0]

def findM (s : TSpace) (m : Mk) : Int := (seekI (fun _ x => sameM x m) 0 s.States).elim (-1) (fun i => (i : Int))
theorem find_spec {s : TSpace} {m : Mk} (hs : okSp s) (hm : okM m) : F_space_Find s m = some (findM s m) := by
  unfold F_space_Find F_slices_IndexFunc_api_Marking_api_Marking findM
  rw [loop_find (l := s.States) (s0 := 0) (fun i => (i : Int)) (fun _ x => sameM x m) (fun i => Sum.inl (i : Int)) (Sum.inr ()) ?_ ?_ rfl]
  · cases seekI (fun _ x => sameM x m) 0 s.States <;> rfl
  · intro i x hi hx
    have h1 : (i : Int) < s.States.length := by omega
    unfold F_slices_IndexFunc_api_Marking_api_Marking_l1 F_space_Find_1
    simp only [h1, decide_true, cond_true, idx_nat, hx, Option.bind_some, w64_succ hi hs.1, markSame_spec (hs.2.2 x (List.mem_of_getElem? hx)) hm]
    cases sameM x m <;> rfl
  · unfold F_slices_IndexFunc_api_Marking_api_Marking_l1; simp
theorem refFind_spec {s : TSpace} {m : Mk} (hs : okSp s) (hm : okM m) : F_ref15_Find s m = some (findM s m) := by
  unfold F_ref15_Find findM
  rw [loop_find (l := s.States) (s0 := 0) (fun i => (i : Int)) (fun _ x => sameM x m) (fun i => Sum.inl (i : Int)) (Sum.inr ()) ?_ ?_ rfl]
  · cases seekI (fun _ x => sameM x m) 0 s.States <;> rfl
  · intro i x hi hx
    have h1 : (i : Int) < s.States.length := by omega
    unfold F_ref15_Find_l1
    simp only [h1, decide_true, cond_true, idx_nat, hx, Option.bind_some, w64_succ hi hs.1, refMarkSame_spec (hs.2.2 x (List.mem_of_getElem? hx)) hm]
    cases sameM x m <;> rfl
  · unfold F_ref15_Find_l1; simp
end Go.Proofs
