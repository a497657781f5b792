/-
  RANK, PLAIN: how far it is, told by what it satisfies; there is one such row.
-/
import Derived.Test.YtidpjdkldadlpaaGreatXPlA
set_option linter.unusedVariables false
set_option linter.unusedSimpArgs false
set_option linter.unusedSectionVars false
set_option linter.deprecated false
namespace Go.Rk

def inR (N : Nat) (k : Int) : Prop := 0 ≤ k ∧ k < N
instance (N : Nat) (k : Int) : Decidable (inR N k) := inferInstanceAs (Decidable (_ ∧ _))
def av (out : List Int) (k : Int) : Int := if 0 ≤ k then out.getD k.toNat (-1) else -1

theorem av_out {out : List Int} {k : Int} (h : ¬ inR out.length k) : av out k = -1 := by
  unfold av
  split
  · rename_i h0
    rw [List.getD_eq_getElem?_getD, List.getElem?_eq_none (by unfold inR at h; omega)]; rfl
  · rfl
theorem av_get {out : List Int} {k : Int} {x : Int} (h0 : 0 ≤ k) (h : out[k.toNat]? = some x) : av out k = x := by
  unfold av; rw [if_pos h0, List.getD_eq_getElem?_getD, h]; rfl
theorem get_av {out : List Int} {k : Int} (h : inR out.length k) : out[k.toNat]? = some (av out k) := by
  unfold av; rw [if_pos h.1, List.getD_eq_getElem?_getD]
  have : k.toNat < out.length := by unfold inR at h; omega
  rw [List.getElem?_eq_getElem this]; rfl
theorem av_set {out : List Int} {k : Int} (x : Int) (h : inR out.length k) (j : Int) : av (out.set k.toNat x) j = if j = k then x else av out j := by
  unfold av
  by_cases h0 : 0 ≤ j
  · rw [if_pos h0, List.getD_eq_getElem?_getD, List.getElem?_set, List.getD_eq_getElem?_getD]
    have := h.1; have h2 := h.2
    by_cases e : j = k
    · subst e; rw [if_pos rfl, if_pos (by omega), if_pos rfl]; rfl
    · rw [if_neg (by omega), if_neg e, if_pos h0]
  · rw [if_neg h0, if_neg (by have := h.1; omega), if_neg h0]
theorem av_ext {a b : List Int} (hl : a.length = b.length) (h : ∀ k, inR a.length k → av a k = av b k) : a = b := by
  apply List.ext_getElem? 
  intro i
  by_cases hi : i < a.length
  · have h1 := h i ⟨by omega, by omega⟩
    have h2 := @get_av a i ⟨by omega, by omega⟩
    have h3 := @get_av b i ⟨by omega, by omega⟩
    simp only [Int.toNat_natCast] at h2 h3
    rw [h2, h3, h1]
  · rw [List.getElem?_eq_none (by omega), List.getElem?_eq_none (by omega)]

structure IsFar (N : Nat) (es : List (Int × Int)) (gs : List Int) (out : List Int) : Prop where
  len : out.length = N
  lo : ∀ k, -1 ≤ av out k
  goal : ∀ g, g ∈ gs → inR N g → av out g = 0
  edge : ∀ u v, (u, v) ∈ es → inR N u → inR N v → 0 ≤ av out v → 0 ≤ av out u ∧ av out u ≤ av out v + 1
  back : ∀ k, 0 ≤ av out k → (av out k = 0 ∧ k ∈ gs) ∨ ∃ v, (k, v) ∈ es ∧ inR N v ∧ 0 ≤ av out v ∧ av out k = av out v + 1

variable {N : Nat} {es : List (Int × Int)} {gs : List Int} {a b : List Int}
theorem IsFar.rng (h : IsFar N es gs a) {k : Int} (hk : 0 ≤ av a k) : inR N k := by
  by_cases hr : inR a.length k
  · rw [h.len] at hr; exact hr
  · rw [av_out hr] at hk; omega
theorem IsFar.le (ha : IsFar N es gs a) (hb : IsFar N es gs b) : ∀ n : Nat, ∀ k, av a k = n → 0 ≤ av b k ∧ av b k ≤ n := by
  intro n
  induction n with
  | zero =>
    intro k hk
    rcases ha.back k (by omega) with ⟨_, hg⟩ | ⟨v, _, _, _, hv⟩
    · rw [hb.goal k hg (ha.rng (by omega))]; omega
    · omega
  | succ n ih =>
    intro k hk
    have hr := ha.rng (k := k) (by omega)
    rcases ha.back k (by omega) with ⟨h0, _⟩ | ⟨v, he, hv, h1, h2⟩
    · omega
    · obtain ⟨h3, h4⟩ := ih v (by omega)
      have := hb.edge k v he hr hv h3
      omega
theorem IsFar.unique (ha : IsFar N es gs a) (hb : IsFar N es gs b) : a = b := by
  refine av_ext (by rw [ha.len, hb.len]) fun k _ => ?_
  have la := ha.lo k; have lb := hb.lo k
  by_cases h1 : 0 ≤ av a k
  · have x := ha.le hb (av a k).toNat k (by omega)
    have y := hb.le ha (av b k).toNat k (by omega)
    omega
  · by_cases h2 : 0 ≤ av b k
    · have y := hb.le ha (av b k).toNat k (by omega); omega
    · omega

theorem len_le_of_sub : ∀ {l m : List Int}, l.Nodup → (∀ x, x ∈ l → x ∈ m) → l.length ≤ m.length := by
  intro l
  induction l with
  | nil => intro m _ _; simp
  | cons x l ih =>
    intro m hn hs
    rw [List.nodup_cons] at hn
    have hx := hs x List.mem_cons_self
    have := ih (m := m.erase x) hn.2 fun y hy => by
      have hne : y ≠ x := fun e => hn.1 (e ▸ hy)
      exact (List.mem_erase_of_ne hne).2 (hs y (List.mem_cons_of_mem _ hy))
    rw [List.length_erase_of_mem hx] at this
    have := List.length_pos_of_mem hx
    simp only [List.length_cons]; omega

/-- What is at d has ones at all that is less. -/
theorem below_of (hl : a.length = N) (hback : ∀ k, 0 ≤ av a k → (av a k = 0 ∧ k ∈ gs) ∨ ∃ v, (k, v) ∈ es ∧ inR N v ∧ 0 ≤ av a v ∧ av a k = av a v + 1) : ∀ n : Nat, ∀ k, av a k = n → ∀ m : Nat, m ≤ n → ∃ j, inR N j ∧ av a j = m := by
  have rng : ∀ {k : Int}, 0 ≤ av a k → inR N k := fun {k} hk => by
    by_cases hr : inR a.length k
    · rw [hl] at hr; exact hr
    · rw [av_out hr] at hk; omega
  intro n
  induction n with
  | zero => intro k hk m hm; exact ⟨k, rng (by omega), by omega⟩
  | succ n ih =>
    intro k hk m hm
    by_cases e : m = n + 1
    · exact ⟨k, rng (by omega), by omega⟩
    · rcases hback k (by omega) with ⟨h0, _⟩ | ⟨v, he, hv, h1, h2⟩
      · omega
      · exact ih v (by omega) m (by omega)
theorem lt_of (hl : a.length = N) (hback : ∀ k, 0 ≤ av a k → (av a k = 0 ∧ k ∈ gs) ∨ ∃ v, (k, v) ∈ es ∧ inR N v ∧ 0 ≤ av a v ∧ av a k = av a v + 1) (k : Int) : av a k < (N : Int) ∨ N = 0 := by
  by_cases h : 0 ≤ av a k
  · left
    have hs := below_of hl hback (av a k).toNat k (by omega)
    have : ((List.range ((av a k).toNat + 1)).map (fun i : Nat => (i : Int))).length ≤ a.length := by
      refine len_le_of_sub ?_ fun x hx => ?_
      · rw [List.Nodup, List.pairwise_map]
        exact (List.nodup_range).imp fun h e => h (by omega)
      · obtain ⟨i, hi, rfl⟩ := List.mem_map.1 hx
        rw [List.mem_range] at hi
        obtain ⟨j, hj, he⟩ := hs i (by omega)
        rw [← he]
        rw [← hl] at hj
        exact List.mem_of_getElem? (get_av hj)
    simp only [List.length_map, List.length_range] at this
    rw [hl] at this
    omega
  · omega
theorem IsFar.lt (ha : IsFar N es gs a) (k : Int) : av a k < (N : Int) ∨ N = 0 := lt_of ha.len ha.back k
end Go.Rk
