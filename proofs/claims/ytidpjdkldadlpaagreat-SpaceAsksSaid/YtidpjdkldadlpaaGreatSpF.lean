/-
  SPACE, PLAIN: how far it is, by the document's own rounds.
-/
import Derived.Test.YtidpjdkldadlpaaGreatSpA
set_option linter.unusedVariables false
set_option linter.unusedSimpArgs false
set_option linter.unusedSectionVars false
set_option linter.deprecated false
noncomputable section
namespace Go.Proofs
open Go Go.RowKit Go.Vm Go.Rk

theorem av_rep (N : Nat) (k : Int) : av (List.replicate N (-1)) k = -1 := by
  by_cases hr : inR (List.replicate N (-1 : Int)).length k
  · have h1 := get_av hr
    rw [List.getElem?_replicate] at h1
    split at h1
    · exact (Option.some.inj h1).symm
    · cases h1
  · exact av_out hr
theorem refInit_spec {s : TSpace} (h : FewS s) : loopM (fun st : Int × List Int => F_ref15_far_l1 st.1 st.2) (0, List.replicate (s.States.length : Int).toNat 0) = some (List.replicate s.States.length (-1)) := by
  have key : ∃ r, loopM (fun st : Int × List Int => F_ref15_far_l1 st.1 st.2) (0, List.replicate (s.States.length : Int).toNat 0) = some r ∧ r = List.replicate s.States.length (-1) := by
    refine loop_up s.States.length (fun i st => st = ((i : Int), List.replicate i (-1) ++ List.replicate (s.States.length - i) 0)) _ (fun i st hi hs => ?_) (fun st hs => ?_) _ (by simp)
    · subst hs
      left
      have h1 : (i : Int) < ((List.replicate i (-1 : Int) ++ List.replicate (s.States.length - i) (0 : Int)).length : Int) := by simp; omega
      have e : s.States.length - i = (s.States.length - (i + 1)) + 1 := by omega
      have hx : (List.replicate i (-1 : Int) ++ List.replicate (s.States.length - i) (0 : Int))[i]? = some 0 := by
        rw [List.getElem?_append_right (by simp), e]; simp
      refine ⟨(((i + 1 : Nat) : Int), List.replicate (i + 1) (-1) ++ List.replicate (s.States.length - (i + 1)) 0), ?_, rfl⟩
      unfold F_ref15_far_l1
      simp only [h1, decide_true, cond_true, idx_nat, hx, Option.bind_some, w64_succ hi h.ok.1]
      rw [show ((i : Int)).toNat = i from rfl, List.set_append_right _ _ (by simp), e]
      simp [List.replicate_succ' (n := i), List.replicate_succ]
    · subst hs
      refine ⟨_, ?_, rfl⟩
      unfold F_ref15_far_l1
      simp
  obtain ⟨r, h1, h2⟩ := key
  rw [h1, h2]

/-- What holds ahead of edge i of a round. -/
structure RInv (s : TSpace) (gs : List Int) (r : Nat) (i : Nat) (out : List Int) : Prop where
  len : out.length = s.States.length
  lo : ∀ k, -1 ≤ av out k
  goal : ∀ g, g ∈ gs → inR s.States.length g → av out g = 0
  back : ∀ k, 0 ≤ av out k → (av out k = 0 ∧ k ∈ gs) ∨ ∃ v, (k, v) ∈ es s ∧ inR s.States.length v ∧ 0 ≤ av out v ∧ av out k = av out v + 1
  hi : ∀ k, av out k ≤ r + 1
  hi0 : i = 0 → ∀ k, av out k ≤ r
  old : ∀ u v, (u, v) ∈ es s → inR s.States.length u → inR s.States.length v → 0 ≤ av out v → av out v < r → 0 ≤ av out u ∧ av out u ≤ av out v + 1
  cur : ∀ (j : Nat) e, j < i → s.Edges[j]? = some e → cnt s e = true → av out e.To = r → 0 ≤ av out e.From

theorem RInv.step {s : TSpace} {gs : List Int} {r i : Nat} {out : List Int} {e : TEdge} (I : RInv s gs r i out) (he : s.Edges[i]? = some e) (c1 : cnt s e = true) (c2 : av out e.To = r) (c3 : av out e.From < 0) : RInv s gs r (i + 1) (out.set e.From.toNat ((r : Int) + 1)) := by
  obtain ⟨hr1, hr2⟩ := cnt_iff.1 c1
  have hr1' : inR out.length e.From := by rw [I.len]; exact hr1
  have hset : ∀ k, av (out.set e.From.toNat ((r : Int) + 1)) k = if k = e.From then (r : Int) + 1 else av out k := av_set _ hr1'
  have hne : ∀ k, 0 ≤ av out k → k ≠ e.From := fun k hk e => by subst e; omega
  refine { len := by simpa using I.len, lo := fun k => ?_, goal := fun g h1 h2 => ?_, back := fun k hk => ?_, hi := fun k => ?_, hi0 := fun h => by omega, old := fun u v h1 h2 h3 h4 h5 => ?_, cur := fun j e' hj he' hc h => ?_ }
  · rw [hset]; split
    · omega
    · exact I.lo k
  · rw [hset, if_neg (hne g (by rw [I.goal g h1 h2]; omega))]; exact I.goal g h1 h2
  · rw [hset] at hk ⊢
    by_cases c : k = e.From
    · rw [if_pos c]
      refine .inr ⟨e.To, mem_es.2 ⟨e, List.mem_of_getElem? he, c.symm, rfl⟩, hr2, ?_⟩
      rw [hset, if_neg (hne e.To (by omega))]; omega
    · rw [if_neg c] at hk ⊢
      rcases I.back k hk with h | ⟨v, h1, h2, h3, h4⟩
      · exact .inl h
      · exact .inr ⟨v, h1, h2, by rw [hset, if_neg (hne v h3)]; exact ⟨h3, h4⟩⟩
  · rw [hset]; split
    · omega
    · exact I.hi k
  · rw [hset] at h4 h5
    by_cases c : v = e.From
    · rw [if_pos c] at h5; omega
    · rw [if_neg c] at h4 h5
      obtain ⟨h6, h7⟩ := I.old u v h1 h2 h3 h4 h5
      rw [hset, if_neg (hne u h6), hset, if_neg c]; exact ⟨h6, h7⟩
  · rw [hset] at h ⊢
    by_cases c : e'.To = e.From
    · rw [if_pos c] at h; omega
    · rw [if_neg c] at h
      by_cases c' : e'.From = e.From
      · rw [if_pos c']; omega
      · rw [if_neg c']
        by_cases hji : j = i
        · subst hji; rw [he] at he'; cases he'; exact absurd rfl c'
        · exact I.cur j e' (by omega) he' hc h
theorem RInv.stay {s : TSpace} {gs : List Int} {r i : Nat} {out : List Int} {e : TEdge} (I : RInv s gs r i out) (he : s.Edges[i]? = some e) (c : cnt s e = true → av out e.To = r → ¬ av out e.From < 0) : RInv s gs r (i + 1) out := by
  refine { I with hi0 := fun h => by omega, cur := fun j e' hj he' hc h => ?_ }
  by_cases hji : j = i
  · subst hji; rw [he] at he'; cases he'
    have := c hc h; omega
  · exact I.cur j e' (by omega) he' hc h
theorem RInv.next {s : TSpace} {gs : List Int} {r : Nat} {out : List Int} (I : RInv s gs r s.Edges.length out) : RInv s gs (r + 1) 0 out := by
  refine { I with hi := fun k => by have := I.hi k; omega, hi0 := fun _ k => by have := I.hi k; omega, old := fun u v h1 h2 h3 h4 h5 => ?_, cur := fun j e' hj => by omega }
  by_cases c : av out v < r
  · exact I.old u v h1 h2 h3 h4 c
  · obtain ⟨e, e1, rfl, rfl⟩ := mem_es.1 h1
    obtain ⟨j, hj⟩ := List.mem_iff_getElem?.1 e1
    have h6 := I.cur j e (List.getElem?_eq_some_iff.1 hj).1 hj (cnt_iff.2 ⟨h2, h3⟩) (by omega)
    have := I.hi e.From
    omega

theorem g3_spec {s : TSpace} {e : TEdge} {o : List Int} {r : Nat} (hl : o.length = s.States.length) : F_ref15_far_g3 e o (r : Int) = some (!(cnt s e && ((av o e.To == (r : Int)) && decide (av o e.From < 0)))) := by
  unfold F_ref15_far_g3 cnt
  rw [hl]
  by_cases a1 : e.From < 0
  · have : ¬ 0 ≤ e.From := by omega
    simp [a1, this]
  by_cases a2 : (s.States.length : Int) ≤ e.From
  · have : ¬ e.From < (s.States.length : Int) := by omega
    simp [a1, a2, this]
  by_cases a3 : e.To < 0
  · have : ¬ 0 ≤ e.To := by omega
    simp [a1, a2, a3, this]
  by_cases a4 : (s.States.length : Int) ≤ e.To
  · have : ¬ e.To < (s.States.length : Int) := by omega
    simp [a1, a2, a3, a4, this]
  have b1 : 0 ≤ e.From := by omega
  have b2 : e.From < (s.States.length : Int) := by omega
  have b3 : 0 ≤ e.To := by omega
  have b4 : e.To < (s.States.length : Int) := by omega
  have g1 := get_av (out := o) (k := e.To) ⟨b3, by omega⟩
  have g2 := get_av (out := o) (k := e.From) ⟨b1, by omega⟩
  simp only [a1, a2, a3, a4, b1, b2, b3, b4, decide_true, decide_false, cond_false, idx_pos, g1, g2, Option.bind_some, Bool.true_and]
  by_cases c : av o e.To = (r : Int)
  · have c' : (av o e.To != (r : Int)) = false := by simp [c]
    have c'' : (av o e.To == (r : Int)) = true := by simp [c]
    simp only [c', c'', cond_false, Bool.true_and]
    by_cases d : av o e.From < 0
    · have : ¬ 0 ≤ av o e.From := by omega
      simp [d, this]
    · have : 0 ≤ av o e.From := by omega
      simp [d, this]
  · have c' : (av o e.To != (r : Int)) = true := by simp [c]
    have c'' : (av o e.To == (r : Int)) = false := by simp [c]
    simp [c', c'']
theorem refRound_spec {s : TSpace} {gs : List Int} {r : Nat} {out : List Int} (h : FewS s) (hr : r ≤ 1000) (I : RInv s gs r 0 out) : ∃ out', loopM (fun st : Int × List Int => F_ref15_far_l5 s (r : Int) st.1 st.2) (0, out) = some out' ∧ RInv s gs r s.Edges.length out' := by
  refine loop_up s.Edges.length (fun i st => st.1 = (i : Int) ∧ RInv s gs r i st.2) _ (fun i st hi hs => .inl ?_) (fun st hs => ?_) (0, out) ⟨rfl, I⟩
  · obtain ⟨j, o⟩ := st
    obtain ⟨hj, I⟩ := hs
    simp only at hj I
    subst hj
    have hi' : (i : Int) < s.Edges.length := by omega
    have he : s.Edges[i]? = some s.Edges[i] := List.getElem?_eq_getElem hi
    unfold F_ref15_far_l5 F_ref15_far_k4 F_ref15_far_k2
    simp only [hi', decide_true, cond_true, idx_nat, he, Option.bind_some, g3_spec I.len, w64_succ hi h.ok.2.1]
    cases c1 : cnt s s.Edges[i] with
    | false => exact ⟨_, rfl, rfl, I.stay he fun h => by rw [c1] at h; cases h⟩
    | true =>
      obtain ⟨hr1, hr2⟩ := cnt_iff.1 c1
      have g2 := get_av (out := o) (k := s.Edges[i].From) (by rw [I.len]; exact hr1)
      by_cases c2 : av o s.Edges[i].To = r
      · rw [show (av o s.Edges[i].To == (r : Int)) = true by simpa using c2]
        by_cases c3 : av o s.Edges[i].From < 0
        · simp only [c3, decide_true, Bool.and_self, Bool.not_true, cond_false, idx_pos hr1.1, g2, Option.bind_some]
          rw [w64_in (show -9223372036854775808 ≤ (r : Int) + 1 ∧ (r : Int) + 1 ≤ 9223372036854775807 by omega)]
          exact ⟨_, rfl, rfl, I.step he c1 c2 c3⟩
        · simp only [c3, decide_false, Bool.and_false, Bool.not_false, cond_true]
          exact ⟨_, rfl, rfl, I.stay he fun _ _ => c3⟩
      · rw [show (av o s.Edges[i].To == (r : Int)) = false by simpa using c2]
        exact ⟨_, rfl, rfl, I.stay he fun _ h => absurd h c2⟩
  · obtain ⟨j, o⟩ := st
    obtain ⟨hj, I⟩ := hs
    simp only at hj I
    subst hj
    exact ⟨o, by simp [F_ref15_far_l5], I⟩

theorem refFar_spec {s : TSpace} (k : Int) (h : FewS s) : ∃ out, F_ref15_far s k = some out ∧ IsFar s.States.length (es s) [k] out := by
  have hst := h.st
  unfold F_ref15_far
  rw [chk_t (by simp; omega)]
  simp only [Option.bind_some]
  rw [refInit_spec h]
  simp only [Option.bind_some]
  unfold F_ref15_far_c9
  by_cases hr : inR s.States.length k
  · have hb : (decide (k < 0) || decide (((List.replicate s.States.length (-1 : Int)).length : Int) ≤ k)) = false := by
      unfold inR at hr; simp only [List.length_replicate, Bool.or_eq_false_iff, decide_eq_false_iff_not]; omega
    have hr' : inR (List.replicate s.States.length (-1 : Int)).length k := by simpa using hr
    rw [hb, cond_false, idx_pos hr.1, get_av hr', Option.bind_some]
    have hset : ∀ j, av ((List.replicate s.States.length (-1 : Int)).set k.toNat 0) j = if j = k then 0 else -1 := fun j => by rw [av_set 0 hr', av_rep]
    have o2 : RInv s [k] 0 0 ((List.replicate s.States.length (-1 : Int)).set k.toNat 0) := by
      refine { len := by simp, lo := fun j => by rw [hset]; split <;> omega, goal := fun g a b => by rw [hset, if_pos (List.mem_singleton.1 a)], back := fun j hj => .inl ?_, hi := fun j => by rw [hset]; split <;> omega, hi0 := fun _ j => by rw [hset]; split <;> omega, old := fun u v _ _ _ a b => by omega, cur := fun j _ hj => by omega }
      rw [hset] at hj ⊢
      by_cases c : j = k
      · rw [if_pos c]; exact ⟨rfl, by simp [c]⟩
      · rw [if_neg c] at hj; omega
    have k2 : ∃ r, loopM (fun st : Int × List Int => F_ref15_far_l7 s st.1 st.2) (0, (List.replicate s.States.length (-1 : Int)).set k.toNat 0) = some r ∧ RInv s [k] s.States.length 0 r := by
      refine loop_up s.States.length (fun i st => st.1 = (i : Int) ∧ RInv s [k] i 0 st.2) _ (fun i st hi hs => .inl ?_) (fun st hs => ?_) _ ⟨rfl, o2⟩
      · obtain ⟨j, o⟩ := st
        obtain ⟨hj, I⟩ := hs
        simp only at hj I
        subst hj
        obtain ⟨o', h1, h2⟩ := refRound_spec h (by omega) I
        have hi' : (i : Int) < (o.length : Int) := by rw [I.len]; omega
        unfold F_ref15_far_l7 F_ref15_far_c6
        simp only [hi', decide_true, cond_true, h1, Option.bind_some, w64_succ hi h.ok.1]
        exact ⟨_, rfl, rfl, h2.next⟩
      · obtain ⟨j, o⟩ := st
        obtain ⟨hj, I⟩ := hs
        simp only at hj I
        subst hj
        exact ⟨o, by simp [F_ref15_far_l7, I.len], I⟩
    obtain ⟨r, r1, I⟩ := k2
    refine ⟨r, by rw [r1]; rfl, { len := I.len, lo := I.lo, goal := I.goal, edge := fun u v h1 h2 h3 h4 => ?_, back := I.back }⟩
    refine I.old u v h1 h2 h3 h4 ?_
    rcases lt_of I.len I.back v with h | h
    · exact h
    · unfold inR at h3; omega
  · have hb : (decide (k < 0) || decide (((List.replicate s.States.length (-1 : Int)).length : Int) ≤ k)) = true := by
      unfold inR at hr; simp only [List.length_replicate, Bool.or_eq_true, decide_eq_true_eq]; omega
    rw [hb, cond_true]
    refine ⟨_, rfl, { len := by simp, lo := fun j => by rw [av_rep]; omega, goal := fun g a b => absurd (List.mem_singleton.1 a ▸ b) hr, edge := fun u v h1 h2 h3 h4 => by rw [av_rep] at h4; omega, back := fun j hj => by rw [av_rep] at hj; omega }⟩
end Go.Proofs
