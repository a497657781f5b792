/- A part of the proof; what it holds is told at each theorem. -/
import Derived.Test.YtmmnafdkbobjcaaRkC
set_option linter.unusedVariables false
set_option linter.unusedSimpArgs false
set_option linter.unusedSectionVars false
set_option linter.deprecated false
noncomputable section
namespace Go.Proofs
open Go Go.RowKit Go.Vm Go.Rk

abbrev Sp := Trank_stop
def fk (x : Sp) : Int := x.far
theorem swap_spec {l : List Sp} {i k : Nat} {x y : Sp} (hx : l[i]? = some x) (hy : l[k]? = some y) : F_rank_stops_Swap l (i : Int) (k : Int) = some ((l.set i y).set k x) := by
  have h1 := (List.getElem?_eq_some_iff.1 hy).1
  unfold F_rank_stops_Swap
  simp only [idx_nat, hx, hy, Option.bind_some, Int.toNat_natCast]
  rw [List.getElem?_eq_getElem (by simpa using h1)]; rfl
theorem less_spec {l : List Sp} {i k : Nat} {x y : Sp} (hx : l[i]? = some x) (hy : l[k]? = some y) : F_rank_stops_Less l (i : Int) (k : Int) = some (decide (fk x < fk y)) := by
  unfold F_rank_stops_Less
  simp only [idx_nat, hx, hy, Option.bind_some]; rfl

theorem up_spec {n : Nat} (hn : n ≤ 1000000) : ∀ (j : Nat) (l : List Sp), l.length = n → j < n → UpInv fk l n j → ∃ l', F_container_heap_up l (j : Int) = some l' ∧ l'.Perm l ∧ Heap fk l' n := by
  intro j l hl hj hu
  unfold F_container_heap_up
  have key : ∃ r, loopM (fun st : Int × List Sp => F_container_heap_up_l3 st.1 st.2) ((j : Int), l) = some r ∧ (r.Perm l ∧ Heap fk r n) := by
    refine loopM_inv (fun s : Int × List Sp => ∃ j : Nat, s.1 = (j : Int) ∧ s.2.length = n ∧ j < n ∧ UpInv fk s.2 n j ∧ s.2.Perm l) (fun s : Int × List Sp => s.1.toNat) (fun r => r.Perm l ∧ Heap fk r n) ?_ ((j : Int), l) ⟨j, rfl, hl, hj, hu, List.Perm.refl _⟩
    rintro ⟨j0, l⟩ ⟨j, rfl, hl, hj, hu, hp⟩
    simp only at hl hj hu hp ⊢
    unfold F_container_heap_up_l3 F_container_heap_up_g1
    by_cases h0 : j = 0
    · subst h0
      right
      refine ⟨l, ?_, hp, hu.done (.inl rfl)⟩
      rw [show (w64 (Int.tdiv (w64 (((0 : Nat) : Int) - 1)) 2) == ((0 : Nat) : Int)) = true by rw [w64_in (n := ((0 : Nat) : Int) - 1) (by omega), w64_in (by decide)]; rfl]
      rfl
    · have e1 : w64 ((j : Int) - 1) = ((j - 1 : Nat) : Int) := by rw [w64_in (by omega)]; omega
      have e2 : w64 (Int.tdiv ((j - 1 : Nat) : Int) 2) = (((j - 1) / 2 : Nat) : Int) := by
        rw [show Int.tdiv ((j - 1 : Nat) : Int) 2 = (((j - 1) / 2 : Nat) : Int) from rfl, w64_in (by omega)]
      have hx : l[(j - 1) / 2]? = some (l[(j - 1) / 2]'(by omega)) := List.getElem?_eq_getElem (by omega)
      have hy : l[j]? = some (l[j]'(by omega)) := List.getElem?_eq_getElem (by omega)
      have e3 : ((((j - 1) / 2 : Nat) : Int) == (j : Int)) = false := by simp; omega
      simp only [e1, e2, e3, cond_false, less_spec hy hx, Option.bind_some]
      unfold F_container_heap_up_k2
      by_cases hlt : fk (l[j]'(by omega)) < fk (l[(j - 1) / 2]'(by omega))
      · left
        refine ⟨((((j - 1) / 2 : Nat) : Int), (l.set ((j - 1) / 2) (l[j]'(by omega))).set j (l[(j - 1) / 2]'(by omega))), ?_, ⟨(j - 1) / 2, rfl, by simpa using hl, by omega, hu.step (by omega) hx hy hlt hj, (swp_perm hx hy).trans hp⟩, by simp; omega⟩
        simp only [hlt, decide_true, Bool.not_true, cond_false, e1, e2, swap_spec hx hy, Option.bind_some]
        rw [chk_d (by simp)]; rfl
      · right
        refine ⟨l, ?_, hp, hu.done (.inr ?_)⟩
        · simp only [hlt, decide_false, Bool.not_false, cond_true]
        · rw [kv_get hx, kv_get hy]; omega
  obtain ⟨r, h1, h2⟩ := key
  exact ⟨r, by rw [h1]; rfl, h2⟩

theorem push_spec {l : List Sp} (x : Sp) (h : Heap fk l l.length) (hn : l.length < 1000000) : ∃ l', F_container_heap_Push l x = some l' ∧ l'.Perm (x :: l) ∧ Heap fk l' l'.length := by
  obtain ⟨l', h1, h2, h3⟩ := up_spec (n := l.length + 1) (by omega) l.length (l ++ [x]) (by simp) (by omega) h.append
  refine ⟨l', ?_, h2.trans (List.perm_append_singleton _ _), by rw [h2.length_eq]; simpa using h3⟩
  unfold F_container_heap_Push F_rank_stops_Push F_rank_stops_Len
  have e : w64 ((((l ++ [x]).length : Nat) : Int) - 1) = (l.length : Int) := by rw [w64_in (by simp; omega)]; simp
  rw [chk_d (by simp; omega)]
  simp only [Option.bind_some, e, h1]

theorem down_spec {n : Nat} (hn : n ≤ 1000000) (l : List Sp) (hl : l.length = n + 1) (hu : DnInv fk l n 0) : ∃ b l', F_container_heap_down l 0 (n : Int) = some (b, l') ∧ l'.Perm l ∧ Heap fk l' n ∧ l'[n]? = l[n]? := by
  unfold F_container_heap_down
  have key : ∃ r, loopM (fun st : Int × List Sp => F_container_heap_down_l4 (n : Int) st.1 st.2) (0, l) = some r ∧ (r.2.Perm l ∧ Heap fk r.2 n ∧ r.2[n]? = l[n]?) := by
    refine loopM_inv (fun s : Int × List Sp => ∃ i : Nat, s.1 = (i : Int) ∧ s.2.length = n + 1 ∧ i ≤ n ∧ DnInv fk s.2 n i ∧ s.2.Perm l ∧ s.2[n]? = l[n]?) (fun s : Int × List Sp => n - s.1.toNat) (fun r : Int × List Sp => r.2.Perm l ∧ Heap fk r.2 n ∧ r.2[n]? = l[n]?) ?_ (0, l) ⟨0, rfl, hl, by omega, hu, List.Perm.refl _, rfl⟩
    rintro ⟨j0, s⟩ ⟨i, rfl, hl, hi, hu, hp, hq⟩
    simp only at hl hi hu hp hq ⊢
    unfold F_container_heap_down_l4
    have e1 : w64 (w64 (2 * (i : Int)) + 1) = ((2 * i + 1 : Nat) : Int) := by rw [w64_in (n := 2 * (i : Int)) (by omega), w64_in (by omega)]; omega
    have e2 : w64 (((2 * i + 1 : Nat) : Int) + 1) = ((2 * i + 2 : Nat) : Int) := by rw [w64_in (by omega)]; omega
    have e4 : decide (((2 * i + 1 : Nat) : Int) < 0) = false := decide_eq_false (by omega)
    rw [e1, e4, Bool.or_false]
    by_cases h0 : (n : Int) ≤ ((2 * i + 1 : Nat) : Int)
    · right
      refine ⟨((i : Int), s), by rw [decide_eq_true h0]; rfl, hp, hu.done fun k h1 h2 h3 => by omega, hq⟩
    · rw [decide_eq_false h0, cond_false]
      -- the nearer one of the two
      have hg : ∃ j : Nat, 0 < j ∧ (j - 1) / 2 = i ∧ j < n ∧ (∀ k, 0 < k → k < n → (k - 1) / 2 = i → kv fk s j ≤ kv fk s k) ∧
          (F_container_heap_down_g2 (i : Int) (n : Int) s).bind (fun x21 => F_container_heap_down_k3 s (i : Int) x21) = F_container_heap_down_k1 s (i : Int) (j : Int) := by
        have hx : s[2 * i + 1]? = some (s[2 * i + 1]'(by omega)) := List.getElem?_eq_getElem (by omega)
        unfold F_container_heap_down_g2
        rw [e1, e2]
        by_cases h2 : ((2 * i + 2 : Nat) : Int) < n
        · have hy : s[2 * i + 2]? = some (s[2 * i + 2]'(by omega)) := List.getElem?_eq_getElem (by omega)
          by_cases h3 : fk (s[2 * i + 2]'(by omega)) < fk (s[2 * i + 1]'(by omega))
          · refine ⟨2 * i + 2, by omega, by omega, by omega, fun k k1 k2 k3 => ?_, ?_⟩
            · have : k = 2 * i + 1 ∨ k = 2 * i + 2 := by omega
              rcases this with rfl | rfl
              · rw [kv_get hx, kv_get hy]; omega
              · omega
            · simp only [h2, decide_true, cond_true, less_spec hy hx, h3, Option.bind_some, F_container_heap_down_k3, e1, e2]
          · refine ⟨2 * i + 1, by omega, by omega, by omega, fun k k1 k2 k3 => ?_, ?_⟩
            · have : k = 2 * i + 1 ∨ k = 2 * i + 2 := by omega
              rcases this with rfl | rfl
              · omega
              · rw [kv_get hx, kv_get hy]; omega
            · simp only [h2, decide_true, cond_true, less_spec hy hx, h3, decide_false, cond_false, Option.bind_some, F_container_heap_down_k3, e1, e2]
        · refine ⟨2 * i + 1, by omega, by omega, by omega, fun k k1 k2 k3 => ?_, ?_⟩
          · have : k = 2 * i + 1 := by omega
            subst this; omega
          · simp only [h2, decide_false, cond_false, Option.bind_some, F_container_heap_down_k3, e1]
      obtain ⟨j, j1, j2, j3, j4, he⟩ := hg
      rw [he]
      have hx : s[i]? = some (s[i]'(by omega)) := List.getElem?_eq_getElem (by omega)
      have hy : s[j]? = some (s[j]'(by omega)) := List.getElem?_eq_getElem (by omega)
      unfold F_container_heap_down_k1
      rw [less_spec hy hx, Option.bind_some]
      by_cases hlt : fk (s[j]'(by omega)) < fk (s[i]'(by omega))
      · left
        refine ⟨((j : Int), (s.set i (s[j]'(by omega))).set j (s[i]'(by omega))), ?_, ⟨j, rfl, by simpa using hl, by omega, hu.step j1 j2 hx hy hlt j3 j4, (swp_perm hx hy).trans hp, ?_⟩, by simp; omega⟩
        · simp only [hlt, decide_true, Bool.not_true, cond_false, swap_spec hx hy, Option.bind_some]
          rw [chk_d (by simp)]; rfl
        · rw [List.getElem?_set_ne (by omega), List.getElem?_set_ne (by omega)]; exact hq
      · right
        refine ⟨((i : Int), s), by simp only [hlt, decide_false, Bool.not_false, cond_true], hp, hu.done fun k k1 k2 k3 => ?_, hq⟩
        have := j4 k k1 k2 k3
        rw [kv_get hy] at this
        rw [kv_get hx]; omega
  obtain ⟨r, h1, h2⟩ := key
  exact ⟨_, r.2, by rw [h1]; rfl, h2⟩

theorem pop_spec {l : List Sp} (h : Heap fk l l.length) (h0 : l ≠ []) (hn : l.length < 1000000) : ∃ x l', F_container_heap_Pop l = some (x, l') ∧ l.Perm (x :: l') ∧ Heap fk l' l'.length ∧ ∀ y ∈ l', fk x ≤ fk y := by
  obtain ⟨n, hl⟩ : ∃ n, l.length = n + 1 := ⟨l.length - 1, by have := List.length_pos_iff.2 h0; omega⟩
  have hx : l[0]? = some (l[0]'(by omega)) := List.getElem?_eq_getElem (by omega)
  have hy : l[n]? = some (l[n]'(by omega)) := List.getElem?_eq_getElem (by omega)
  rw [hl] at h
  have hsl : ((l.set 0 (l[n]'(by omega))).set n (l[0]'(by omega))).length = n + 1 := by simpa using hl
  obtain ⟨b, l', h1, h2, h3, h4⟩ := down_spec (n := n) (by omega) _ hsl (h.swap hx hy)
  rw [List.getElem?_set_self (by simp; omega)] at h4
  have hl' : l'.length = n + 1 := by rw [h2.length_eq, hsl]
  have e : w64 ((l.length : Int) - 1) = (n : Int) := by rw [w64_in (by omega)]; omega
  have e' : w64 ((l'.length : Int) - 1) = (n : Int) := by rw [w64_in (by omega)]; omega
  have hsp : l' = l'.take n ++ [l[0]'(by omega)] := by
    have := List.take_append_drop n l'
    rw [List.drop_eq_getElem_cons (by omega), List.drop_eq_nil_of_le (by omega)] at this
    obtain ⟨_, h5⟩ := List.getElem?_eq_some_iff.1 h4
    rw [h5] at this; exact this.symm
  have hp : l.Perm ((l[0]'(by omega)) :: l'.take n) := by
    refine ((swp_perm hx hy).symm.trans h2.symm).trans ?_
    have : (l'.take n ++ [l[0]'(by omega)]).Perm ((l[0]'(by omega)) :: l'.take n) := List.perm_append_singleton _ _
    rwa [← hsp] at this
  refine ⟨l[0]'(by omega), l'.take n, ?_, hp, ?_, fun y hy' => ?_⟩
  · unfold F_container_heap_Pop F_rank_stops_Len F_rank_stops_Pop
    have := swap_spec hx hy
    simp only [Int.natCast_zero] at this
    simp only [Option.bind_some, e, show (0 : Int) = ((0 : Nat) : Int) from rfl, swap_spec hx hy]
    rw [chk_d (by simp)]
    simp only [Option.bind_some]
    rw [show F_container_heap_down ((l.set 0 (l[n]'(by omega))).set n (l[0]'(by omega))) ((0 : Nat) : Int) (n : Int) = some (b, l') from h1]
    simp only [Option.bind_some, e', idx_nat, h4]
    rw [chk_t (by simp [hl'])]
    simp
  · rw [List.length_take, Nat.min_eq_left (by omega)]
    exact h3.congr fun k hk => List.getElem?_take_of_lt hk
  · have hm : y ∈ l := hp.symm.subset (List.mem_cons_of_mem _ hy')
    obtain ⟨i, hi⟩ := List.mem_iff_getElem?.1 hm
    have := h.least i (by have := (List.getElem?_eq_some_iff.1 hi).1; omega)
    rw [kv_get hi, kv_get hx] at this
    exact this
end Go.Proofs
