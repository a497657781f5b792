/- A part of the proof; what it holds is told at each theorem. -/
import Derived.Test.YtmmnafdkbobjcaaRkF
set_option linter.unusedVariables false
set_option linter.unusedSimpArgs false
set_option linter.unusedSectionVars false
set_option linter.deprecated false
noncomputable section
namespace Go.Proofs
open Go Go.RowKit Go.Vm Go.Rk

theorem idxs_len {α : Type} (p : α → Bool) : ∀ (l : List α) k, (idxs p k l).length ≤ l.length := by
  intro l
  induction l with
  | nil => intro k; exact Nat.le_refl _
  | cons x l ih =>
    intro k
    rw [idxs]
    have := ih (k + 1)
    cases p x <;> simp <;> omega
theorem goalsL_len {n : TNet} {s : TSpace} (h : FewS s) : (goalsL n s).length ≤ 1000 := by
  have := idxs_len (finB n) s.States 0
  have := h.st
  unfold goalsL; omega
/-- How far it is to where a case ends: both say so. -/
structure Ends (n : TNet) (s : TSpace) (f : List Int) : Prop where
  few : FewS s
  far : F_rank_Far s (goalsL n s) = some f
  ref : F_ref16_Far s (goalsL n s) = some f
  is : IsFar s.States.length (es s) (goalsL n s) f
theorem ends_is {n : TNet} {s : TSpace} (h : FewS s) : ∃ f, Ends n s f := by
  obtain ⟨f, h1, h2, h3⟩ := farSame (gs := goalsL n s) h (goalsL_len h)
  exact ⟨f, h, h1, h2, h3⟩
section
variable {n : TNet} {s : TSpace} {f : List Int} (E : Ends n s f)
include E
theorem Ends.len : f.length ≤ 40 := by rw [E.is.len]; exact E.few.st
theorem Ends.le40 (k : Int) : av f k ≤ 40 := by
  have := E.few.st
  rcases E.is.lt k with h | h
  · omega
  · by_cases hr : inR f.length k
    · rw [E.is.len] at hr; unfold inR at hr; omega
    · rw [av_out hr]; omega
theorem ends_spec : F_rank_ends n s = some f := by
  unfold F_rank_ends
  simp only [goals_spec E.few, Option.bind_some, E.far]

theorem lost_spec : F_rank_Lost n s = some (idxs (fun x => decide (x < 0)) 0 f) := by
  have hl := E.len
  unfold F_rank_Lost
  rw [ends_spec E, Option.bind_some, loop_collect (l := f) (fun x => decide (x < 0))]
  · rfl
  · intro i acc x ha hi hx
    have h1 : (i : Int) < f.length := by omega
    have hc : decide (acc.length + ([(i : Int)] : List Int).length ≤ 4294967296) = true := decide_eq_true (by simp; omega)
    simp only [F_rank_Lost_l2, F_rank_Lost_k1, h1, decide_true, cond_true, idx_nat, hx, Option.bind_some, w64_succ hi (show f.length ≤ maxLen by unfold maxLen; omega), chk_t hc]
    cases decide (x < 0) <;> rfl
  · intro acc; simp [F_rank_Lost_l2]
theorem refLost_spec : F_ref16_Lost n s = some (idxs (fun x => decide (x < 0)) 0 f) := by
  have hl := E.len
  unfold F_ref16_Lost
  rw [refGoals_spec E.few, Option.bind_some, E.ref, Option.bind_some, loop_collect (l := f) (fun x => decide (x < 0))]
  · rfl
  · intro i acc x ha hi hx
    have h1 : (i : Int) < f.length := by omega
    have hc : decide (acc.length + ([(i : Int)] : List Int).length ≤ 4294967296) = true := decide_eq_true (by simp; omega)
    simp only [F_ref16_Lost_l2, F_ref16_Lost_k1, h1, decide_true, cond_true, idx_nat, hx, Option.bind_some, w64_succ hi (show f.length ≤ maxLen by unfold maxLen; omega), chk_t hc]
    cases decide (x < 0) <;> rfl
  · intro acc; simp [F_ref16_Lost_l2]
end

theorem max2_eq (x y : Int) : max2 x y = max x y := by unfold max2; rw [Int.max_def]; split <;> split <;> omega
def maxL (x : Int) (l : List Int) : Int := l.foldl max x
theorem maxL_max : ∀ (l : List Int) (x y : Int), maxL (max x y) l = max x (maxL y l) := by
  intro l
  induction l with
  | nil => intro x y; rfl
  | cons z l ih =>
    intro x y
    show maxL (max (max x y) z) l = max x (maxL (max y z) l)
    rw [← ih, Int.max_assoc]
theorem sliceMax_spec {p : List Int} (x : Int) (l : List Int) (hp : p = x :: l) (hl : p.length ≤ 1000000) : F_slices_Max_int_int p = some (maxL x l) := by
  have hpl : p.length = l.length + 1 := by rw [hp]; rfl
  have h0 : ¬ (p.length : Int) < 1 := by omega
  have hx : p[0]? = some x := by rw [hp]; rfl
  unfold F_slices_Max_int_int
  rw [decide_eq_false h0, cond_false, show (0 : Int) = ((0 : Nat) : Int) from rfl, idx_nat, hx, Option.bind_some]
  have key : ∃ r, loopM (fun st : Int × Int => F_slices_Max_int_int_l1 p st.1 st.2) (x, 1) = some r ∧ r = maxL x l := by
    refine loop_up l.length (fun i st => st = (maxL x (l.take i), ((i + 1 : Nat) : Int))) _ (fun i st hi hs => .inl ?_) (fun st hs => ?_) _ rfl
    · subst hs
      have h1 : ((i + 1 : Nat) : Int) < p.length := by omega
      have hy : p[i + 1]? = some l[i] := by rw [hp, List.getElem?_cons_succ]; exact List.getElem?_eq_getElem hi
      refine ⟨_, ?_, rfl⟩
      unfold F_slices_Max_int_int_l1
      simp only [h1, decide_true, cond_true, idx_nat, hy, Option.bind_some]
      rw [w64_succ (show i + 1 < p.length by omega) (by unfold maxLen; omega), max2_eq, List.take_succ_eq_append_getElem hi]
      unfold maxL
      rw [List.foldl_append]; rfl
    · subst hs
      refine ⟨_, ?_, rfl⟩
      unfold F_slices_Max_int_int_l1
      have h1 : ¬ ((l.length + 1 : Nat) : Int) < p.length := by omega
      simp only [h1, decide_false, cond_false, List.take_length]
  obtain ⟨r, r1, r2⟩ := key
  rw [r1, r2]; rfl
section
variable {n : TNet} {s : TSpace} {f : List Int} (E : Ends n s f)
include E
theorem longest_spec : F_rank_Longest n s = some (maxL (-1) f) := by
  have hl := E.len
  unfold F_rank_Longest
  rw [ends_spec E, Option.bind_some, chk_d (by simp; omega)]
  simp only [Option.bind_some]
  have : F_slices_Max_int_int (f ++ [-1]) = some (maxL (-1) f) := by
    cases hf : f with
    | nil => exact sliceMax_spec (-1) [] rfl (by simp)
    | cons x l =>
      rw [hf] at hl
      rw [List.cons_append, sliceMax_spec x (l ++ [-1]) rfl (by simp at hl ⊢; omega)]
      congr 1
      show maxL x (l ++ [-1]) = maxL (max (-1) x) l
      rw [maxL_max]
      unfold maxL
      rw [List.foldl_append]
      show max _ (-1) = _
      rw [Int.max_comm]
  rw [this]; rfl
theorem refLongest_spec : F_ref16_Longest n s = some (maxL (-1) f) := by
  have hl := E.len
  unfold F_ref16_Longest
  rw [refGoals_spec E.few, Option.bind_some, E.ref, Option.bind_some, loop_scan (l := f) (s0 := (-1, 0)) (fun i (t : Int) => (t, (i : Int))) (fun i t x => .inl (max t x)) (fun t => t) ?_ ?_ (-1) rfl]
  · have : ∀ (l : List Int) k t, scanL (fun i t x => (.inl (max t x) : Int ⊕ Int)) (fun t => t) k t l = maxL t l := by
      intro l
      induction l with
      | nil => intro k t; rfl
      | cons x l ih => intro k t; exact ih _ _
    rw [this]; rfl
  · intro i t x hi hx
    have h1 : (i : Int) < f.length := by omega
    unfold F_ref16_Longest_l1
    simp only [h1, decide_true, cond_true, idx_nat, hx, Option.bind_some, w64_succ hi (show f.length ≤ maxLen by unfold maxLen; omega), max2_eq]
    rfl
  · intro t; simp [F_ref16_Longest_l1]
end

/-! ### steps -/
def fits (s : TSpace) (f : List Int) (k : Int) (e : TEdge) : Bool := cnt s e && (e.From == k && av f e.To == av f k - 1)
def near (s : TSpace) (f : List Int) (k : Int) : Int := if 0 < av f k then (seekI (fun _ e => fits s f k e) 0 s.Edges).elim (-1) (fun i => (i : Int)) else -1
section
variable {n : TNet} {s : TSpace} {f : List Int} (E : Ends n s f)
include E
theorem nearer_spec (k : Int) : F_rank_nearer s f k = some (near s f k) := by
  unfold F_rank_nearer F_rank_nearer_g1 near
  rw [in_spec, Option.bind_some]
  by_cases hr : inR s.States.length k
  · have hr' : inR f.length k := by rw [E.is.len]; exact hr
    simp only [hr, decide_true, Bool.not_true, cond_false, idx_pos hr.1, get_av hr', Option.bind_some]
    unfold F_rank_nearer_k2
    by_cases h0 : 0 < av f k
    · have h0' : ¬ av f k ≤ 0 := by omega
      simp only [h0', decide_false, cond_false, if_pos h0]
      unfold F_slices_IndexFunc_api_Edge_api_Edge
      rw [loop_find (l := s.Edges) (s0 := 0) (fun i => (i : Int)) (fun _ e => fits s f k e) (fun i => Sum.inl (i : Int)) (Sum.inr ()) ?_ ?_ rfl]
      · cases seekI (fun _ e => fits s f k e) 0 s.Edges <;> rfl
      · intro i e hi he
        have h1 : (i : Int) < s.Edges.length := by omega
        have hcl : F_rank_nearer_1 e s k f = some (fits s f k e) := by
          unfold F_rank_nearer_1 F_rank_nearer_1_g1 F_rank_nearer_1_k2 fits
          rw [counts_spec, Option.bind_some]
          cases hc : cnt s e with
          | false => rfl
          | true =>
            obtain ⟨_, hr2⟩ := cnt_iff.1 hc
            have hr2' : inR f.length e.To := by rw [E.is.len]; exact hr2
            simp only [cond_true, Bool.true_and]
            cases e.From == k with
            | false => rfl
            | true =>
              have := E.le40 k; have := E.is.lo k
              simp only [cond_true, Bool.true_and, idx_pos hr2.1, idx_pos hr.1, get_av hr', get_av hr2', Option.bind_some, w64_in (show -9223372036854775808 ≤ av f k - 1 ∧ av f k - 1 ≤ 9223372036854775807 by omega)]
        unfold F_slices_IndexFunc_api_Edge_api_Edge_l1
        simp only [h1, decide_true, cond_true, idx_nat, he, Option.bind_some, hcl, w64_succ hi E.few.ok.2.1]
        cases fits s f k e <;> rfl
      · simp [F_slices_IndexFunc_api_Edge_api_Edge_l1]
    · have h0' : av f k ≤ 0 := by omega
      simp only [h0', decide_true, cond_true, if_neg h0]
  · have h0 : ¬ 0 < av f k := by rw [av_out (by rw [E.is.len]; exact hr)]; omega
    simp only [hr, decide_false, Bool.not_false, cond_true, Option.bind_some, if_neg h0]
    rfl
theorem step_spec (k : Int) : F_rank_Step n s k = some (near s f k) := by
  unfold F_rank_Step
  simp only [ends_spec E, Option.bind_some, nearer_spec E]
theorem refStep_spec (k : Int) : F_ref16_Step n s k = some (near s f k) := by
  unfold F_ref16_Step
  rw [refGoals_spec E.few, Option.bind_some, E.ref, Option.bind_some]
  unfold F_ref16_Step_g1 near
  by_cases hr : inR f.length k
  · have hr1 : ¬ k < 0 := by have := hr.1; omega
    have hr2 : ¬ (f.length : Int) ≤ k := by have := hr.2; omega
    simp only [hr1, hr2, decide_false, cond_false, idx_pos hr.1, get_av hr, Option.bind_some]
    unfold F_ref16_Step_k7
    by_cases h0 : 0 < av f k
    · have h0' : ¬ av f k ≤ 0 := by omega
      simp only [h0', decide_false, cond_false, if_pos h0]
      rw [loop_find (l := s.Edges) (s0 := 0) (fun i => (i : Int)) (fun _ e => fits s f k e) (fun i => Sum.inl (i : Int)) (Sum.inr ()) ?_ ?_ rfl]
      · cases seekI (fun _ e => fits s f k e) 0 s.Edges <;> rfl
      · intro i e hi he
        have h1 : (i : Int) < s.Edges.length := by omega
        unfold F_ref16_Step_l4 F_ref16_Step_g2 F_ref16_Step_k3
        simp only [h1, decide_true, cond_true, idx_nat, he, Option.bind_some, there_spec, w64_succ hi E.few.ok.2.1]
        unfold fits
        cases hc : cnt s e with
        | false => rfl
        | true =>
          obtain ⟨_, hr2⟩ := cnt_iff.1 hc
          have hr2' : inR f.length e.To := by rw [E.is.len]; exact hr2
          simp only [cond_true, Bool.true_and]
          cases e.From == k with
          | false => rfl
          | true =>
            have := E.le40 k; have := E.is.lo k
            simp only [cond_true, Bool.true_and, idx_pos hr2.1, idx_pos hr.1, get_av hr, get_av hr2', Option.bind_some, w64_in (show -9223372036854775808 ≤ av f k - 1 ∧ av f k - 1 ≤ 9223372036854775807 by omega)]
            cases av f e.To == av f k - 1 <;> rfl
      · simp [F_ref16_Step_l4]
    · have h0' : av f k ≤ 0 := by omega
      simp only [h0', decide_true, cond_true, if_neg h0]
  · have h0 : ¬ 0 < av f k := by rw [av_out hr]; omega
    rw [if_neg h0]
    by_cases h1 : k < 0
    · simp [h1, F_ref16_Step_k7]
    · have h2 : (f.length : Int) ≤ k := by unfold inR at hr; omega
      simp [h1, h2, F_ref16_Step_k7]
theorem near_neg {k : Int} (h : ¬ 0 < av f k) : near s f k = -1 := by unfold near; rw [if_neg h]
theorem near_pos {k : Int} (h : 0 < av f k) : ∃ i e, near s f k = ((i : Nat) : Int) ∧ s.Edges[i]? = some e ∧ e.From = k ∧ inR s.States.length e.To ∧ av f e.To = av f k - 1 := by
  unfold near
  rw [if_pos h]
  cases hs : seekI (fun _ e => fits s f k e) 0 s.Edges with
  | none =>
    exfalso
    rcases E.is.back k (by omega) with ⟨h1, _⟩ | ⟨v, h1, h2, h3, h4⟩
    · omega
    · obtain ⟨e, e1, rfl, rfl⟩ := mem_es.1 h1
      obtain ⟨j, hj⟩ := List.mem_iff_getElem?.1 e1
      have := seekI_none hs j e hj
      have hc : cnt s e = true := cnt_iff.2 ⟨E.is.rng (by omega), h2⟩
      unfold fits at this
      rw [hc] at this
      simp at this
      omega
  | some i =>
    obtain ⟨j, e, h1, h2, h3⟩ := seekI_some hs
    obtain rfl : i = j := by omega
    unfold fits at h3
    rw [Bool.and_eq_true, Bool.and_eq_true, cnt_iff] at h3
    exact ⟨i, e, rfl, h2, by simpa using h3.2.1, h3.1.2, by simpa using h3.2.2⟩
end

/-! ### ways -/
def wayOf (s : TSpace) (f : List Int) : Nat → Int → List Int
  | 0, _ => []
  | d + 1, k => near s f k :: wayOf s f d (((s.Edges[(near s f k).toNat]?).map (·.To)).getD 0)
section
variable {n : TNet} {s : TSpace} {f : List Int} (E : Ends n s f)
include E
theorem wayOf_len : ∀ (d : Nat) (k : Int), (wayOf s f d k).length = d := by
  intro d
  induction d with
  | zero => intro k; rfl
  | succ d ih => intro k; simp [wayOf, ih]
theorem way_loop : ∀ (d : Nat) (k : Int) (out : List Int), (av f k).toNat = d → out.length + d ≤ 1000 → loopM (fun st : Int × List Int => F_rank_Way_l1 s f st.1 st.2) (near s f k, out) = some (out ++ wayOf s f d k) := by
  intro d
  induction d with
  | zero =>
    intro k out hd ho
    rw [near_neg E (by omega), loopM_eq]
    simp [F_rank_Way_l1, wayOf]
  | succ d ih =>
    intro k out hd ho
    obtain ⟨i, e, h1, h2, h3, h4, h5⟩ := near_pos E (k := k) (by omega)
    have := ih e.To (out ++ [near s f k]) (by omega) (by simp; omega)
    have h6 : (0 : Int) ≤ ((i : Nat) : Int) := by omega
    have hb : F_rank_Way_l1 s f (near s f k) out = some (.inl (near s f e.To, out ++ [near s f k])) := by
      unfold F_rank_Way_l1
      rw [h1]
      simp only [h6, decide_true, cond_true]
      rw [chk_d (by simp; omega)]
      simp only [Option.bind_some, idx_nat, h2, nearer_spec E]
    rw [loopM_eq]
    show (F_rank_Way_l1 s f (near s f k) out).bind _ = _
    rw [hb, Option.bind_some]
    simp only
    rw [this, wayOf, h1]
    simp only [Int.toNat_natCast, h2, Option.map_some, Option.getD_some, List.append_assoc, List.singleton_append]
theorem way_spec (k : Int) : F_rank_Way n s k = some (wayOf s f (av f k).toNat k) := by
  unfold F_rank_Way
  have := E.le40 k
  simp only [ends_spec E, Option.bind_some, nearer_spec E]
  rw [way_loop E _ k [] rfl (by simp; omega)]
  rfl
theorem refWay_loop : ∀ (d : Nat) (k : Int) (i : Nat) (out : List Int), (av f k).toNat = d → i + d ≤ s.States.length → out.length ≤ i →
    ∃ r, loopM (fun st : Int × Int × List Int => F_ref16_Way_l1 s n st.1 st.2.1 st.2.2) (k, (i : Int), out) = some r ∧ (r = .inl (out ++ wayOf s f d k) ∨ r = .inr (out ++ wayOf s f d k)) := by
  have hst := E.few.st
  intro d
  induction d with
  | zero =>
    intro k i out hd hi ho
    rw [loopM_eq]
    unfold F_ref16_Way_l1
    by_cases h : (i : Int) < s.States.length
    · simp only [h, decide_true, cond_true, refStep_spec E, Option.bind_some, near_neg E (k := k) (by omega)]
      exact ⟨_, rfl, .inl (by simp [wayOf])⟩
    · simp only [h, decide_false, cond_false]
      exact ⟨_, rfl, .inr (by simp [wayOf])⟩
  | succ d ih =>
    intro k i out hd hi ho
    obtain ⟨j, e, h1, h2, h3, h4, h5⟩ := near_pos E (k := k) (by omega)
    obtain ⟨r, r1, r2⟩ := ih e.To (i + 1) (out ++ [near s f k]) (by omega) (by omega) (by simp; omega)
    have h : (i : Int) < s.States.length := by omega
    refine ⟨r, ?_, ?_⟩
    · have h6 : ¬ ((j : Nat) : Int) < 0 := by omega
      have hb : F_ref16_Way_l1 s n k (i : Int) out = some (.inl (e.To, ((i + 1 : Nat) : Int), out ++ [near s f k])) := by
        unfold F_ref16_Way_l1
        simp only [h, decide_true, cond_true, refStep_spec E, Option.bind_some, h1, h6, decide_false, cond_false]
        rw [chk_d (by simp; omega)]
        simp only [Option.bind_some, idx_nat, h2]
        rw [w64_succ (show i < s.States.length by omega) E.few.ok.1]
      rw [loopM_eq]
      show (F_ref16_Way_l1 s n k (i : Int) out).bind _ = _
      rw [hb]
      exact r1
    · rw [wayOf, h1]
      rw [h1] at r2
      simp only [Int.toNat_natCast, h2, Option.map_some, Option.getD_some]
      simpa using r2
theorem refWay_spec (k : Int) : F_ref16_Way n s k = some (wayOf s f (av f k).toNat k) := by
  unfold F_ref16_Way
  have hd : (av f k).toNat ≤ s.States.length := by
    rcases E.is.lt k with h | h
    · omega
    · by_cases hr : inR f.length k
      · rw [E.is.len] at hr; unfold inR at hr; omega
      · rw [av_out hr]; omega
  obtain ⟨r, r1, r2⟩ := refWay_loop E (av f k).toNat k 0 [] rfl (by omega) (Nat.le_refl _)
  rw [show ((0 : Nat) : Int) = (0 : Int) from rfl] at r1
  rw [r1]
  rcases r2 with rfl | rfl <;> rfl
end
end Go.Proofs
