/-
  SPACE, PLAIN: the tasks of all edges: sorted and made single by the program, put in their places by the document.
-/
import Derived.Test.YtidpjdkldadlpaaGreatSpB
set_option linter.unusedVariables false
set_option linter.unusedSimpArgs false
set_option linter.unusedSectionVars false
set_option linter.deprecated false
noncomputable section
namespace Go.Proofs
open Go Go.RowKit Go.Vm Go.Rk

def tasksL (s : TSpace) : List Int := s.Edges.map fun e => e.Mode.Task
theorem tasks_spec {s : TSpace} (h : FewS s) : F_space_Tasks s = some (compI (sortI (tasksL s))) := by
  have hed := h.ed
  unfold F_space_Tasks
  have key : ∃ r, loopM (fun st : Int × List Int => F_space_Tasks_l1 s st.1 st.2) (0, []) = some r ∧ r = tasksL s := by
    refine loop_up s.Edges.length (fun i st => st = ((i : Int), (tasksL s).take i)) _ (fun i st hi hs => .inl ?_) (fun st hs => ?_) _ (by simp)
    · subst hs
      have h1 : (i : Int) < s.Edges.length := by omega
      have hg : (tasksL s)[i]? = some s.Edges[i].Mode.Task := by unfold tasksL; rw [List.getElem?_map, List.getElem?_eq_getElem hi]; rfl
      have hl : i < (tasksL s).length := by unfold tasksL; simpa using hi
      have ht : (tasksL s).take (i + 1) = (tasksL s).take i ++ [s.Edges[i].Mode.Task] := by
        rw [List.take_succ_eq_append_getElem hl]
        congr 2
        rw [List.getElem?_eq_getElem hl] at hg; exact Option.some.inj hg
      unfold F_space_Tasks_l1
      simp only [h1, decide_true, cond_true, idx_nat, List.getElem?_eq_getElem hi, Option.bind_some, w64_succ hi h.ok.2.1]
      rw [chk_d (by simp; omega), Option.bind_some]
      exact ⟨_, rfl, by rw [ht]⟩
    · subst hs
      refine ⟨(tasksL s).take s.Edges.length, by simp [F_space_Tasks_l1], ?_⟩
      rw [List.take_of_length_le (by unfold tasksL; simp)]
  obtain ⟨r, r1, r2⟩ := key
  subst r2
  have hl : (tasksL s).length ≤ 200 := by unfold tasksL; simpa using hed
  rw [r1, Option.bind_some]
  unfold F_space_Tasks_c2 F_slices_Sort_int_int F_slices_Compact_int_int
  rw [chk_d (by omega)]
  simp only [Option.bind_some]
  rw [chk_d (sortI_len _)]
  simp only [Option.bind_some]
  rw [chk_d (by rw [sortI_len]; omega)]
  rfl

/-- A number put in its place, once. -/
def insU (t : Int) : List Int → List Int
  | [] => [t]
  | x :: r => if x < t then x :: insU t r else if x = t then x :: r else t :: x :: r
theorem insU_len (t : Int) : ∀ l : List Int, (insU t l).length ≤ l.length + 1 := by
  intro l
  induction l with
  | nil => simp [insU]
  | cons x r ih =>
    rw [insU]
    split
    · simpa using ih
    · split <;> simp
theorem mem_insU {t y : Int} : ∀ {l : List Int}, y ∈ insU t l ↔ y = t ∨ y ∈ l := by
  intro l
  induction l with
  | nil => simp [insU]
  | cons x r ih =>
    rw [insU]
    split
    · rw [List.mem_cons, ih, List.mem_cons]
      constructor
      · rintro (h | h | h) <;> simp [h]
      · rintro (h | h | h) <;> simp [h]
    · split
      · rename_i h; subst h; simp
      · simp
theorem insU_rise {t : Int} : ∀ {l : List Int}, l.Pairwise (· < ·) → (insU t l).Pairwise (· < ·) := by
  intro l
  induction l with
  | nil => intro _; simp [insU]
  | cons x r ih =>
    intro h
    obtain ⟨h1, h2⟩ := List.pairwise_cons.1 h
    rw [insU]
    split
    · rename_i hlt
      refine List.pairwise_cons.2 ⟨fun y hy => ?_, ih h2⟩
      rcases mem_insU.1 hy with rfl | hy
      · exact hlt
      · exact h1 y hy
    · split
      · exact h
      · refine List.pairwise_cons.2 ⟨fun y hy => ?_, h⟩
        rcases List.mem_cons.1 hy with rfl | hy
        · omega
        · have := h1 y hy; omega
/-- Where it goes. -/
def posU (t : Int) : List Int → Nat
  | [] => 0
  | x :: r => if x < t then posU t r + 1 else 0
theorem posU_le (t : Int) : ∀ l : List Int, posU t l ≤ l.length := by
  intro l
  induction l with
  | nil => simp [posU]
  | cons x r ih =>
    rw [posU]
    split
    · simpa using ih
    · simp
theorem insU_pos (t : Int) : ∀ l : List Int, insU t l = if l[posU t l]? = some t then l else l.take (posU t l) ++ [t] ++ l.drop (posU t l) := by
  intro l
  induction l with
  | nil => simp [insU, posU]
  | cons x r ih =>
    rw [insU, posU]
    split
    · rw [ih]
      simp only [List.getElem?_cons_succ, List.take_succ_cons, List.drop_succ_cons]
      split <;> simp
    · simp only [List.getElem?_cons_zero, Option.some.injEq]
      split <;> simp
theorem seek_pos (t : Int) : ∀ (l : List Int) (k : Nat), (seekI (fun _ x => !decide (x < t)) k l).elim (((k + l.length : Nat) : Int)) (fun i => (i : Int)) = ((k + posU t l : Nat) : Int) := by
  intro l
  induction l with
  | nil => intro k; simp [seekI, posU]
  | cons x r ih =>
    intro k
    rw [seekI, posU]
    by_cases h : x < t
    · simp only [h, decide_true, Bool.not_true, cond_false, if_true]
      have := ih (k + 1)
      rw [List.length_cons, show k + (r.length + 1) = k + 1 + r.length by omega, this]
      congr 1; omega
    · simp [h]

theorem refTasks_spec {s : TSpace} (h : FewS s) : F_ref15_Tasks s = some ((tasksL s).foldl (fun o t => insU t o) []) := by
  have hed := h.ed
  unfold F_ref15_Tasks
  have key : ∃ r, loopM (fun st : Int × List Int => F_ref15_Tasks_l8 s st.1 st.2) (0, []) = some r ∧ r = (tasksL s).foldl (fun o t => insU t o) [] := by
    refine loop_up s.Edges.length (fun i st => st.1 = (i : Int) ∧ st.2 = ((tasksL s).take i).foldl (fun o t => insU t o) [] ∧ st.2.length ≤ i) _ (fun i st hi hs => .inl ?_) (fun st hs => ?_) _ ⟨rfl, by simp, by simp⟩
    · obtain ⟨j, o⟩ := st
      obtain ⟨hj, ho, hlen⟩ := hs
      simp only at hj ho hlen
      subst hj
      have h1 : (i : Int) < s.Edges.length := by omega
      have hg : (tasksL s)[i]? = some s.Edges[i].Mode.Task := by unfold tasksL; rw [List.getElem?_map, List.getElem?_eq_getElem hi]; rfl
      have hl : i < (tasksL s).length := by unfold tasksL; simpa using hi
      have ht : (tasksL s).take (i + 1) = (tasksL s).take i ++ [s.Edges[i].Mode.Task] := by
        rw [List.take_succ_eq_append_getElem hl]
        congr 2
        rw [List.getElem?_eq_getElem hl] at hg; exact Option.some.inj hg
      unfold F_ref15_Tasks_l8
      simp only [h1, decide_true, cond_true, idx_nat, List.getElem?_eq_getElem hi, Option.bind_some]
      have hin : loopM (fun st => F_ref15_Tasks_l4 o s.Edges[i] st) 0 = some ((posU s.Edges[i].Mode.Task o : Nat) : Int) := by
        rw [loop_find (l := o) (s0 := 0) (fun i => (i : Int)) (fun _ x => !decide (x < s.Edges[i].Mode.Task)) (fun i => (i : Int)) (o.length : Int) ?_ ?_ rfl]
        · have := seek_pos s.Edges[i].Mode.Task o 0
          simp only [Nat.zero_add] at this
          rw [this]
        · intro q x hq hx
          have h2 : (q : Int) < o.length := by omega
          unfold F_ref15_Tasks_l4 F_ref15_Tasks_g2 F_ref15_Tasks_k3
          simp only [h2, decide_true, cond_true, idx_nat, hx, Option.bind_some, w64_succ hq (show o.length ≤ maxLen by unfold maxLen; omega)]
          cases decide (x < s.Edges[i].Mode.Task) <;> rfl
        · unfold F_ref15_Tasks_l4 F_ref15_Tasks_g2 F_ref15_Tasks_k3; simp
      rw [hin]
      simp only [Option.bind_some]
      refine ⟨(((i + 1 : Nat) : Int), insU s.Edges[i].Mode.Task o), ?_, rfl, ?_, ?_⟩
      · have hp := posU_le s.Edges[i].Mode.Task o
        generalize hP : posU s.Edges[i].Mode.Task o = p at hp ⊢
        have hins := insU_pos s.Edges[i].Mode.Task o
        rw [hP] at hins
        unfold F_ref15_Tasks_c7
        have hg5 : F_ref15_Tasks_g5 (p : Int) o s.Edges[i] = some (!decide (o[p]? = some s.Edges[i].Mode.Task)) := by
          unfold F_ref15_Tasks_g5
          by_cases c : p = o.length
          · subst c; simp
          · have hpl : p < o.length := by omega
            have e1 : ((p : Int) == (o.length : Int)) = false := by simp; omega
            rw [e1, cond_false, idx_nat, List.getElem?_eq_getElem hpl, Option.bind_some]
            by_cases d : o[p] = s.Edges[i].Mode.Task <;> simp [d]
        rw [hg5, Option.bind_some, hins]
        unfold F_ref15_Tasks_k6 F_ref15_Tasks_k1
        by_cases d : o[p]? = some s.Edges[i].Mode.Task
        · simp only [d, decide_true, Bool.not_true, cond_false, if_true, w64_succ hi h.ok.2.1]
        · simp only [d, decide_false, Bool.not_false, cond_true, if_false, w64_succ hi h.ok.2.1]
          rw [chk_t (by simp; omega)]
          simp only [Option.bind_some]
          rw [chk_d (by simp; omega)]
          simp only [Option.bind_some]
          rw [chk_d (by simp; omega)]
          simp only [Option.bind_some]
          rw [chk_t (by simp; omega)]
          simp only [Option.bind_some]
          rw [chk_d (by simp; omega)]
          simp only [Option.bind_some, Int.toNat_natCast, List.drop_zero, Nat.sub_zero, List.nil_append]
          rw [List.take_of_length_le (l := o.drop p) (by simp)]
      · simp only; rw [ht, List.foldl_append, ← ho]; rfl
      · have := insU_len s.Edges[i].Mode.Task o
        simp only; omega
    · obtain ⟨j, o⟩ := st
      obtain ⟨hj, ho, hlen⟩ := hs
      simp only at hj ho hlen
      subst hj
      refine ⟨o, by simp [F_ref15_Tasks_l8], ?_⟩
      rw [ho, List.take_of_length_le (by unfold tasksL; simp)]
  obtain ⟨r, r1, r2⟩ := key
  rw [r1, r2]; rfl

theorem foldU : ∀ (l o : List Int), o.Pairwise (· < ·) → (l.foldl (fun o t => insU t o) o).Pairwise (· < ·) ∧ ∀ x, x ∈ l.foldl (fun o t => insU t o) o ↔ x ∈ o ∨ x ∈ l := by
  intro l
  induction l with
  | nil => intro o h; exact ⟨h, fun x => by simp⟩
  | cons t l ih =>
    intro o h
    obtain ⟨h1, h2⟩ := ih (insU t o) (insU_rise h)
    refine ⟨h1, fun x => ?_⟩
    rw [List.foldl_cons, h2, mem_insU, List.mem_cons]
    constructor
    · rintro ((h | h) | h) <;> simp [h]
    · rintro (h | h | h) <;> simp [h]

theorem sortI_mem {l : List Int} {x : Int} : x ∈ sortI l ↔ x ∈ l := (List.mergeSort_perm l _).mem_iff
theorem sortI_rise (l : List Int) : (sortI l).Pairwise (· ≤ ·) := by
  have := List.pairwise_mergeSort (le := fun x y : Int => decide (x ≤ y)) (fun a b c h1 h2 => by simp at *; omega) (fun a b => by simp; omega) l
  exact this.imp fun h => by simpa using h
theorem compI_mem {l : List Int} {x : Int} : x ∈ compI l ↔ x ∈ l := by
  unfold compI Lib.compact Lib.compactUpTo
  rw [List.mem_map]
  constructor
  · rintro ⟨i, hi, rfl⟩
    have hl := List.mem_range.1 (List.mem_filter.1 hi).1
    have : l.toArray[i]! = l[i] := by simp [hl]
    rw [this]; exact List.getElem_mem hl
  · intro hx
    obtain ⟨i, hi, rfl⟩ := List.mem_iff_getElem.1 hx
    have key : ∀ i (hi : i < l.length), ∃ a, a ∈ (List.range l.length).filter (Lib.keeps l.toArray) ∧ l.toArray[a]! = l[i] := by
      intro i
      induction i with
      | zero =>
        intro hi
        exact ⟨0, List.mem_filter.2 ⟨List.mem_range.2 hi, by simp [Lib.keeps]⟩, by simp [hi]⟩
      | succ i ih =>
        intro hi
        by_cases c : l[i + 1] = l[i]
        · rw [c]; exact ih (by omega)
        · refine ⟨i + 1, List.mem_filter.2 ⟨List.mem_range.2 hi, ?_⟩, by simp [hi]⟩
          have h1 : l.toArray[i + 1]! = l[i + 1] := by simp [hi]
          have h2 : l.toArray[i]! = l[i] := by simp [show i < l.length by omega]
          unfold Lib.keeps
          rw [Nat.add_sub_cancel, h1, h2]
          simpa using c
    exact key i hi
theorem compI_rise {l : List Int} (h : l.Pairwise (· ≤ ·)) : (compI l).Pairwise (· < ·) := by
  unfold compI Lib.compact Lib.compactUpTo
  rw [List.pairwise_map]
  have hp : ((List.range l.length).filter (Lib.keeps l.toArray)).Pairwise (· < ·) := List.Pairwise.filter _ List.pairwise_lt_range
  refine hp.imp_of_mem fun {i j} hi hj hij => ?_
  have hjl := List.mem_range.1 (List.mem_filter.1 hj).1
  have hk := (List.mem_filter.1 hj).2
  have e : ∀ k, k < l.length → l.toArray[k]! = l.getD k 0 := fun k hk => by simp [hk]
  unfold Lib.keeps at hk
  rw [decide_eq_true_iff] at hk
  rw [e i (by omega), e j hjl]
  rw [e j hjl, e (j - 1) (by omega)] at hk
  have mono : ∀ a b, a ≤ b → b < l.length → l.getD a 0 ≤ l.getD b 0 := fun a b hab hb => by
    rcases Nat.lt_or_eq_of_le hab with h1 | h1
    · have := List.pairwise_iff_getElem.1 h a b (by omega) hb h1
      simpa [show a < l.length by omega, hb] using this
    · subst h1; exact Int.le_refl _
  have h1 := mono i (j - 1) (by omega) (by omega)
  have h2 := mono (j - 1) j (by omega) hjl
  rcases hk with hk | hk
  · omega
  · omega
theorem tasks_same {s : TSpace} (h : FewS s) : ∃ p, F_space_Tasks s = some p ∧ F_ref15_Tasks s = some p ∧ p.length ≤ 200 := by
  have hed := h.ed
  have hl : (tasksL s).length ≤ 200 := by unfold tasksL; simpa using hed
  have e : compI (sortI (tasksL s)) = (tasksL s).foldl (fun o t => insU t o) [] := by
    obtain ⟨h1, h2⟩ := foldU (tasksL s) [] List.Pairwise.nil
    exact rise_ext (fun x : Int => x) (compI_rise (sortI_rise _)) h1 fun x => by rw [compI_mem, sortI_mem, h2]; simp
  refine ⟨_, tasks_spec h, by rw [refTasks_spec h, e], ?_⟩
  unfold compI Lib.compact Lib.compactUpTo
  rw [List.length_map]
  refine Nat.le_trans (List.length_filter_le _ _) ?_
  rw [List.length_range, sortI_len]; exact hl
end Go.Proofs
