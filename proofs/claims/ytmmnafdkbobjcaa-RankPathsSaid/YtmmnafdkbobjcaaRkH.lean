/-
  RANK, PLAIN: heaps: what a swap up or down keeps.
-/
import Derived.Test.YtmmnafdkbobjcaaXPlA
set_option linter.unusedVariables false
set_option linter.unusedSimpArgs false
set_option linter.unusedSectionVars false
set_option linter.deprecated false
namespace Go.Rk
section
variable {α : Type} (f : α → Int)
def kv (l : List α) (i : Nat) : Int := match l[i]? with | some x => f x | none => 0
def Heap (l : List α) (n : Nat) : Prop := ∀ i, 0 < i → i < n → kv f l ((i - 1) / 2) ≤ kv f l i
variable {f : α → Int}

theorem kv_get {l : List α} {i : Nat} {x : α} (h : l[i]? = some x) : kv f l i = f x := by unfold kv; rw [h]
theorem kv_swp {l : List α} {i j : Nat} {x y : α} (hi : l[i]? = some x) (hj : l[j]? = some y) (k : Nat) :
    kv f ((l.set i y).set j x) k = if k = j then kv f l i else if k = i then kv f l j else kv f l k := by
  have h1 := (List.getElem?_eq_some_iff.1 hi).1
  have h2 := (List.getElem?_eq_some_iff.1 hj).1
  rw [kv_get hi, kv_get hj]
  unfold kv
  rw [List.getElem?_set]
  by_cases a : k = j
  · subst a; rw [if_pos rfl, if_pos (by simpa using h2), if_pos rfl]
  · rw [if_neg (fun e => a e.symm), if_neg a, List.getElem?_set]
    by_cases b : k = i
    · subst b; rw [if_pos rfl, if_pos h1, if_pos rfl]
    · rw [if_neg (fun e => b e.symm), if_neg b]
theorem swp_perm {l : List α} {i j : Nat} {x y : α} (hi : l[i]? = some x) (hj : l[j]? = some y) : ((l.set i y).set j x).Perm l := by
  obtain ⟨h1, rfl⟩ := List.getElem?_eq_some_iff.1 hi
  obtain ⟨h2, rfl⟩ := List.getElem?_eq_some_iff.1 hj
  exact List.set_set_perm h1 h2

def UpInv (f : α → Int) (l : List α) (n j : Nat) : Prop := (∀ i, 0 < i → i < n → i ≠ j → kv f l ((i - 1) / 2) ≤ kv f l i) ∧ ∀ c, 0 < c → c < n → (c - 1) / 2 = j → 0 < j → kv f l ((j - 1) / 2) ≤ kv f l c
theorem UpInv.step {l : List α} {n j : Nat} {x y : α} (h : UpInv f l n j) (h0 : 0 < j) (hi : l[(j - 1) / 2]? = some x) (hj : l[j]? = some y) (hlt : f y < f x) (hn : j < n) :
    UpInv f ((l.set ((j - 1) / 2) y).set j x) n ((j - 1) / 2) := by
  obtain ⟨ha, hb⟩ := h
  rw [← kv_get (f := f) hi, ← kv_get (f := f) hj] at hlt
  refine ⟨fun i h1 h2 h3 => ?_, fun c h1 h2 h3 h4 => ?_⟩
  · rw [kv_swp hi hj, kv_swp hi hj]
    by_cases e : i = j
    · subst e; rw [if_pos rfl, if_neg (by omega), if_pos rfl]; omega
    · rw [if_neg e, if_neg h3]
      have h5 := ha i h1 h2 e
      by_cases e1 : (i - 1) / 2 = j
      · rw [if_pos e1]; exact hb i h1 h2 e1 h0
      · rw [if_neg e1]
        by_cases e2 : (i - 1) / 2 = (j - 1) / 2
        · rw [if_pos e2]; rw [e2] at h5; omega
        · rw [if_neg e2]; exact h5
  · rw [kv_swp hi hj, kv_swp hi hj]
    rw [if_neg (by omega), if_neg (by omega)]
    have h5 := ha ((j - 1) / 2) h4 (by omega) (by omega)
    by_cases e : c = j
    · rw [if_pos e]; exact h5
    · rw [if_neg e, if_neg (by omega)]
      have h6 := ha c h1 h2 e
      rw [h3] at h6; omega
theorem UpInv.done {l : List α} {n j : Nat} (h : UpInv f l n j) (hd : j = 0 ∨ kv f l ((j - 1) / 2) ≤ kv f l j) : Heap f l n := fun i h0 hn => by
  by_cases e : i = j
  · subst e; rcases hd with h | h
    · omega
    · exact h
  · exact h.1 i h0 hn e

def DnInv (f : α → Int) (l : List α) (n i : Nat) : Prop := (∀ k, 0 < k → k < n → (k - 1) / 2 ≠ i → kv f l ((k - 1) / 2) ≤ kv f l k) ∧ ∀ c, 0 < c → c < n → (c - 1) / 2 = i → 0 < i → kv f l ((i - 1) / 2) ≤ kv f l c
theorem DnInv.step {l : List α} {n i j : Nat} {x y : α} (h : DnInv f l n i) (h0 : 0 < j) (hji : (j - 1) / 2 = i) (hi : l[i]? = some x) (hj : l[j]? = some y) (hlt : f y < f x) (hn : j < n)
    (hmin : ∀ k, 0 < k → k < n → (k - 1) / 2 = i → kv f l j ≤ kv f l k) : DnInv f ((l.set i y).set j x) n j := by
  obtain ⟨ha, hb⟩ := h
  rw [← kv_get (f := f) hi, ← kv_get (f := f) hj] at hlt
  refine ⟨fun k h1 h2 h3 => ?_, fun c h1 h2 h3 h4 => ?_⟩
  · rw [kv_swp hi hj, kv_swp hi hj]
    rw [if_neg h3]
    by_cases e1 : (k - 1) / 2 = i
    · rw [if_pos e1]
      by_cases e2 : k = j
      · rw [if_pos e2]; omega
      · rw [if_neg e2, if_neg (by omega)]; exact hmin k h1 h2 e1
    · rw [if_neg e1, if_neg (fun e => e1 (by subst e; exact hji))]
      by_cases e2 : k = i
      · subst e2; rw [if_pos rfl]; exact hb j h0 hn hji h1
      · rw [if_neg e2]; exact ha k h1 h2 e1
  · rw [kv_swp hi hj, kv_swp hi hj]
    rw [if_neg (by omega), if_pos hji, if_neg (by omega), if_neg (by omega), ← h3]
    exact ha c h1 h2 (by omega)
theorem DnInv.done {l : List α} {n i : Nat} (h : DnInv f l n i) (hd : ∀ k, 0 < k → k < n → (k - 1) / 2 = i → kv f l i ≤ kv f l k) : Heap f l n := fun k h0 hn => by
  by_cases e : (k - 1) / 2 = i
  · rw [e]; exact hd k h0 hn e
  · exact h.1 k h0 hn e

theorem Heap.least {l : List α} {n : Nat} (h : Heap f l n) : ∀ i, i < n → kv f l 0 ≤ kv f l i := by
  intro i
  induction i using Nat.strongRecOn with
  | _ i ih =>
    intro hi
    by_cases e : i = 0
    · subst e; exact Int.le_refl _
    · have h1 := h i (by omega) hi
      have h2 := ih ((i - 1) / 2) (by omega) (by omega)
      omega
theorem Heap.append {l : List α} {x : α} (h : Heap f l l.length) : UpInv f (l ++ [x]) (l.length + 1) l.length := by
  have e : ∀ k, k < l.length → kv f (l ++ [x]) k = kv f l k := fun k hk => by unfold kv; rw [List.getElem?_append_left hk]
  refine ⟨fun i h0 h1 h2 => ?_, fun c h0 h1 h2 h3 => by omega⟩
  rw [e _ (by omega), e _ (by omega)]
  exact h i h0 (by omega)
theorem Heap.swap {l : List α} {n : Nat} {x y : α} (h : Heap f l (n + 1)) (hi : l[0]? = some x) (hj : l[n]? = some y) : DnInv f ((l.set 0 y).set n x) n 0 := by
  refine ⟨fun k h0 h1 h2 => ?_, fun c h0 h1 h2 h3 => by omega⟩
  rw [kv_swp hi hj, kv_swp hi hj, if_neg (by omega), if_neg (by omega), if_neg (by omega), if_neg (by omega)]
  exact h k h0 (by omega)
theorem Heap.congr {l m : List α} {n : Nat} (h : Heap f l n) (e : ∀ k, k < n → m[k]? = l[k]?) : Heap f m n := fun i h0 h1 => by
  have := h i h0 h1
  unfold kv at *
  rw [e _ h1, e _ (by omega)]; exact this
end
end Go.Rk
