/- A part of the proof; what it holds is told at each theorem. -/
import Derived.Test.YtmmnafdkbobjcaaRkE
set_option linter.unusedVariables false
set_option linter.unusedSimpArgs false
set_option linter.unusedSectionVars false
set_option linter.deprecated false
noncomputable section
namespace Go.Proofs
open Go Go.RowKit Go.Vm Go.Rk

theorem there_spec {s : TSpace} {e : TEdge} : F_ref16_there s e = some (cnt s e) := by
  unfold F_ref16_there cnt
  simp only [Bool.and_assoc]
theorem av_rep (N : Nat) (k : Int) : av (List.replicate N (-1)) k = -1 := by
  by_cases hr : inR (List.replicate N (-1 : Int)).length k
  · have h1 := get_av hr
    rw [List.getElem?_replicate] at h1
    split at h1
    · exact (Option.some.inj h1).symm
    · cases h1
  · exact av_out hr
theorem refInit_spec {s : TSpace} (h : FewS s) : loopM (fun st : Int × List Int => F_ref16_Far_l1 st.1 st.2) (0, List.replicate (s.States.length : Int).toNat 0) = some (List.replicate s.States.length (-1)) := by
  have key : ∃ r, loopM (fun st : Int × List Int => F_ref16_Far_l1 st.1 st.2) (0, List.replicate (s.States.length : Int).toNat 0) = some r ∧ r = List.replicate s.States.length (-1) := by
    refine loop_up s.States.length (fun i st => st = ((i : Int), List.replicate i (-1) ++ List.replicate (s.States.length - i) 0)) _ (fun i st hi hs => ?_) (fun st hs => ?_) _ (by simp)
    · subst hs
      left
      have h1 : (i : Int) < ((List.replicate i (-1 : Int) ++ List.replicate (s.States.length - i) (0 : Int)).length : Int) := by simp; omega
      have e : s.States.length - i = (s.States.length - (i + 1)) + 1 := by omega
      have hx : (List.replicate i (-1 : Int) ++ List.replicate (s.States.length - i) (0 : Int))[i]? = some 0 := by
        rw [List.getElem?_append_right (by simp), e]; simp
      refine ⟨(((i + 1 : Nat) : Int), List.replicate (i + 1) (-1) ++ List.replicate (s.States.length - (i + 1)) 0), ?_, rfl⟩
      unfold F_ref16_Far_l1
      simp only [h1, decide_true, cond_true, idx_nat, hx, Option.bind_some, w64_succ hi h.ok.1]
      rw [show ((i : Int)).toNat = i from rfl, List.set_append_right _ _ (by simp), e]
      simp [List.replicate_succ' (n := i), List.replicate_succ]
    · subst hs
      refine ⟨_, ?_, rfl⟩
      unfold F_ref16_Far_l1
      simp
  obtain ⟨r, h1, h2⟩ := key
  rw [h1, h2]

/-- What holds ahead of edge i of a round. -/
structure RInv (s : TSpace) (gs : List Int) (r : Nat) (i : Nat) (out : List Int) : Prop where
  len : out.length = s.States.length
  lo : ∀ k, -1 ≤ av out k
  goal : ∀ g, g ∈ gs → inR s.States.length g → av out g = 0
  back : ∀ k, 0 ≤ av out k → (av out k = 0 ∧ k ∈ gs) ∨ ∃ v, (k, v) ∈ es s ∧ inR s.States.length v ∧ 0 ≤ av out v ∧ av out k = av out v + 1
  hi : ∀ k, av out k ≤ r + 1
  hi0 : i = 0 → ∀ k, av out k ≤ r
  old : ∀ u v, (u, v) ∈ es s → inR s.States.length u → inR s.States.length v → 0 ≤ av out v → av out v < r → 0 ≤ av out u ∧ av out u ≤ av out v + 1
  cur : ∀ (j : Nat) e, j < i → s.Edges[j]? = some e → cnt s e = true → av out e.To = r → 0 ≤ av out e.From

theorem RInv.step {s : TSpace} {gs : List Int} {r i : Nat} {out : List Int} {e : TEdge} (I : RInv s gs r i out) (he : s.Edges[i]? = some e) (c1 : cnt s e = true) (c2 : av out e.To = r) (c3 : av out e.From < 0) : RInv s gs r (i + 1) (out.set e.From.toNat ((r : Int) + 1)) := by
  obtain ⟨hr1, hr2⟩ := cnt_iff.1 c1
  have hr1' : inR out.length e.From := by rw [I.len]; exact hr1
  have hset : ∀ k, av (out.set e.From.toNat ((r : Int) + 1)) k = if k = e.From then (r : Int) + 1 else av out k := av_set _ hr1'
  have hne : ∀ k, 0 ≤ av out k → k ≠ e.From := fun k hk e => by subst e; omega
  refine { len := by simpa using I.len, lo := fun k => ?_, goal := fun g h1 h2 => ?_, back := fun k hk => ?_, hi := fun k => ?_, hi0 := fun h => by omega, old := fun u v h1 h2 h3 h4 h5 => ?_, cur := fun j e' hj he' hc h => ?_ }
  · rw [hset]; split
    · omega
    · exact I.lo k
  · rw [hset, if_neg (hne g (by rw [I.goal g h1 h2]; omega))]; exact I.goal g h1 h2
  · rw [hset] at hk ⊢
    by_cases c : k = e.From
    · rw [if_pos c]
      refine .inr ⟨e.To, mem_es.2 ⟨e, List.mem_of_getElem? he, c.symm, rfl⟩, hr2, ?_⟩
      rw [hset, if_neg (hne e.To (by omega))]; omega
    · rw [if_neg c] at hk ⊢
      rcases I.back k hk with h | ⟨v, h1, h2, h3, h4⟩
      · exact .inl h
      · exact .inr ⟨v, h1, h2, by rw [hset, if_neg (hne v h3)]; exact ⟨h3, h4⟩⟩
  · rw [hset]; split
    · omega
    · exact I.hi k
  · rw [hset] at h4 h5
    by_cases c : v = e.From
    · rw [if_pos c] at h5; omega
    · rw [if_neg c] at h4 h5
      obtain ⟨h6, h7⟩ := I.old u v h1 h2 h3 h4 h5
      rw [hset, if_neg (hne u h6), hset, if_neg c]; exact ⟨h6, h7⟩
  · rw [hset] at h ⊢
    by_cases c : e'.To = e.From
    · rw [if_pos c] at h; omega
    · rw [if_neg c] at h
      by_cases c' : e'.From = e.From
      · rw [if_pos c']; omega
      · rw [if_neg c']
        by_cases hji : j = i
        · subst hji; rw [he] at he'; cases he'; exact absurd rfl c'
        · exact I.cur j e' (by omega) he' hc h
theorem RInv.stay {s : TSpace} {gs : List Int} {r i : Nat} {out : List Int} {e : TEdge} (I : RInv s gs r i out) (he : s.Edges[i]? = some e) (c : cnt s e = true → av out e.To = r → ¬ av out e.From < 0) : RInv s gs r (i + 1) out := by
  refine { I with hi0 := fun h => by omega, cur := fun j e' hj he' hc h => ?_ }
  by_cases hji : j = i
  · subst hji; rw [he] at he'; cases he'
    have := c hc h; omega
  · exact I.cur j e' (by omega) he' hc h
theorem RInv.next {s : TSpace} {gs : List Int} {r : Nat} {out : List Int} (I : RInv s gs r s.Edges.length out) : RInv s gs (r + 1) 0 out := by
  refine { I with hi := fun k => by have := I.hi k; omega, hi0 := fun _ k => by have := I.hi k; omega, old := fun u v h1 h2 h3 h4 h5 => ?_, cur := fun j e' hj => by omega }
  by_cases c : av out v < r
  · exact I.old u v h1 h2 h3 h4 c
  · obtain ⟨e, e1, rfl, rfl⟩ := mem_es.1 h1
    obtain ⟨j, hj⟩ := List.mem_iff_getElem?.1 e1
    have h6 := I.cur j e (List.getElem?_eq_some_iff.1 hj).1 hj (cnt_iff.2 ⟨h2, h3⟩) (by omega)
    have := I.hi e.From
    omega

theorem refRound_spec {s : TSpace} {gs : List Int} {r : Nat} {out : List Int} (h : FewS s) (hr : r ≤ 1000) (I : RInv s gs r 0 out) : ∃ out', loopM (fun st : Int × List Int => F_ref16_Far_l9 s (r : Int) st.1 st.2) (0, out) = some out' ∧ RInv s gs r s.Edges.length out' := by
  refine loop_up s.Edges.length (fun i st => st.1 = (i : Int) ∧ RInv s gs r i st.2) _ (fun i st hi hs => .inl ?_) (fun st hs => ?_) (0, out) ⟨rfl, I⟩
  · obtain ⟨j, o⟩ := st
    obtain ⟨hj, I⟩ := hs
    simp only at hj I
    subst hj
    have hi' : (i : Int) < s.Edges.length := by omega
    have he : s.Edges[i]? = some s.Edges[i] := List.getElem?_eq_getElem hi
    unfold F_ref16_Far_l9 F_ref16_Far_g7 F_ref16_Far_k8 F_ref16_Far_k6
    simp only [hi', decide_true, cond_true, idx_nat, he, Option.bind_some, there_spec, w64_succ hi h.ok.2.1]
    cases c1 : cnt s s.Edges[i] with
    | false => exact ⟨_, rfl, rfl, I.stay he fun h => by rw [c1] at h; cases h⟩
    | true =>
      obtain ⟨hr1, hr2⟩ := cnt_iff.1 c1
      have g1 := get_av (out := o) (k := s.Edges[i].To) (by rw [I.len]; exact hr2)
      have g2 := get_av (out := o) (k := s.Edges[i].From) (by rw [I.len]; exact hr1)
      simp only [cond_true, idx_pos hr1.1, idx_pos hr2.1, g1, g2, Option.bind_some]
      by_cases c2 : av o s.Edges[i].To = r
      · rw [show (av o s.Edges[i].To == (r : Int)) = true by simpa using c2]
        simp only [cond_true, Option.bind_some]
        by_cases c3 : av o s.Edges[i].From < 0
        · simp only [c3, decide_true, cond_true, Option.bind_some]
          rw [w64_in (show -9223372036854775808 ≤ (r : Int) + 1 ∧ (r : Int) + 1 ≤ 9223372036854775807 by omega)]
          exact ⟨_, rfl, rfl, I.step he c1 c2 c3⟩
        · simp only [c3, decide_false, cond_false]
          exact ⟨_, rfl, rfl, I.stay he fun _ _ => c3⟩
      · rw [show (av o s.Edges[i].To == (r : Int)) = false by simpa using c2]
        exact ⟨_, rfl, rfl, I.stay he fun _ h => absurd h c2⟩
  · obtain ⟨j, o⟩ := st
    obtain ⟨hj, I⟩ := hs
    simp only at hj I
    subst hj
    exact ⟨o, by simp [F_ref16_Far_l9], I⟩

theorem refFar_spec {s : TSpace} {gs : List Int} (h : FewS s) (hg : gs.length ≤ 1000) : ∃ out, F_ref16_Far s gs = some out ∧ IsFar s.States.length (es s) gs out := by
  have hst := h.st
  unfold F_ref16_Far
  rw [chk_t (by simp; omega)]
  simp only [Option.bind_some]
  rw [refInit_spec h]
  simp only [Option.bind_some]
  unfold F_ref16_Far_c14
  have k1 : ∃ o, loopM (fun st : Int × List Int => F_ref16_Far_l5 gs st.1 st.2) (0, List.replicate s.States.length (-1)) = some o ∧ RInv s gs 0 0 o := by
    refine loop_up gs.length (fun i st => st.1 = (i : Int) ∧ st.2.length = s.States.length ∧ ∀ k, (av st.2 k = -1 ∨ av st.2 k = 0) ∧ (av st.2 k = 0 ↔ k ∈ gs.take i ∧ inR s.States.length k)) _ (fun i st hi hs => .inl ?_) (fun st hs => ?_) _ ⟨rfl, by simp, fun k => ⟨.inl (av_rep _ _), by rw [av_rep]; simp⟩⟩
    · obtain ⟨j, o⟩ := st
      obtain ⟨hj, h1, h2⟩ := hs
      simp only at hj h1 h2
      subst hj
      have hi' : (i : Int) < gs.length := by omega
      have he : gs[i]? = some gs[i] := List.getElem?_eq_getElem hi
      unfold F_ref16_Far_l5 F_ref16_Far_g3 F_ref16_Far_k4 F_ref16_Far_k2
      simp only [hi', decide_true, cond_true, idx_nat, he, Option.bind_some, w64_succ hi (show gs.length ≤ maxLen by unfold maxLen; omega)]
      have hgs : gs.take (i + 1) = gs.take i ++ [gs[i]] := List.take_succ_eq_append_getElem hi
      have hstay : ¬ inR s.States.length gs[i] → ∀ k, (k ∈ gs.take i ∧ inR s.States.length k) ↔ (k ∈ gs.take (i + 1) ∧ inR s.States.length k) := fun hn k => by
        rw [hgs, List.mem_append, List.mem_singleton]
        constructor
        · rintro ⟨a, b⟩; exact ⟨.inl a, b⟩
        · rintro ⟨a | a, b⟩
          · exact ⟨a, b⟩
          · subst a; exact absurd b hn
      by_cases c1 : 0 ≤ gs[i]
      · simp only [c1, decide_true, cond_true, Option.bind_some]
        by_cases c2 : gs[i] < o.length
        · have hr : inR o.length gs[i] := ⟨c1, c2⟩
          simp only [c2, decide_true, cond_true, Option.bind_some, idx_pos c1, get_av hr]
          refine ⟨_, rfl, rfl, by simpa using h1, fun k => ?_⟩
          simp only [av_set 0 hr]
          rw [hgs, List.mem_append, List.mem_singleton]
          by_cases c : k = gs[i]
          · rw [if_pos c]
            refine ⟨.inr rfl, fun _ => ⟨.inr c, ?_⟩, fun _ => rfl⟩
            rw [c, ← h1]; exact hr
          · rw [if_neg c]
            obtain ⟨a, b⟩ := h2 k
            refine ⟨a, b.trans ⟨fun ⟨x, y⟩ => ⟨.inl x, y⟩, ?_⟩⟩
            rintro ⟨x | x, y⟩
            · exact ⟨x, y⟩
            · exact absurd x c
        · simp only [c2, decide_false, cond_false, Option.bind_some]
          refine ⟨_, rfl, rfl, h1, fun k => ⟨(h2 k).1, (h2 k).2.trans (hstay (fun hr => c2 ?_) k)⟩⟩
          rw [h1]; exact hr.2
      · simp only [c1, decide_false, cond_false, Option.bind_some]
        exact ⟨_, rfl, rfl, h1, fun k => ⟨(h2 k).1, (h2 k).2.trans (hstay (fun hr => c1 hr.1) k)⟩⟩
    · obtain ⟨j, o⟩ := st
      obtain ⟨hj, h1, h2⟩ := hs
      simp only at hj h1 h2
      subst hj
      rw [List.take_length] at h2
      refine ⟨o, by simp [F_ref16_Far_l5], { len := h1, lo := fun k => by rcases (h2 k).1 with h | h <;> omega, goal := fun g a b => (h2 g).2.2 ⟨a, b⟩, back := fun k hk => .inl ?_, hi := fun k => by rcases (h2 k).1 with h | h <;> omega, hi0 := fun _ k => by rcases (h2 k).1 with h | h <;> omega, old := fun u v _ _ _ a b => by omega, cur := fun j _ hj => by omega }⟩
      have e : av o k = 0 := by rcases (h2 k).1 with h | h <;> omega
      exact ⟨e, ((h2 k).2.1 e).1⟩
  obtain ⟨o, o1, o2⟩ := k1
  rw [o1]
  simp only [Option.bind_some]
  unfold F_ref16_Far_c13
  have k2 : ∃ r, loopM (fun st : Int × List Int => F_ref16_Far_l11 s st.1 st.2) (0, o) = some r ∧ RInv s gs s.States.length 0 r := by
    refine loop_up s.States.length (fun i st => st.1 = (i : Int) ∧ RInv s gs i 0 st.2) _ (fun i st hi hs => .inl ?_) (fun st hs => ?_) _ ⟨rfl, o2⟩
    · obtain ⟨j, o⟩ := st
      obtain ⟨hj, I⟩ := hs
      simp only at hj I
      subst hj
      obtain ⟨o', h1, h2⟩ := refRound_spec h (by omega) I
      have hi' : (i : Int) < (o.length : Int) := by rw [I.len]; omega
      unfold F_ref16_Far_l11 F_ref16_Far_c10
      simp only [hi', decide_true, cond_true, h1, Option.bind_some, w64_succ hi h.ok.1]
      exact ⟨_, rfl, rfl, h2.next⟩
    · obtain ⟨j, o⟩ := st
      obtain ⟨hj, I⟩ := hs
      simp only at hj I
      subst hj
      exact ⟨o, by simp [F_ref16_Far_l11, I.len], I⟩
  obtain ⟨r, r1, I⟩ := k2
  refine ⟨r, by rw [r1]; rfl, { len := I.len, lo := I.lo, goal := I.goal, edge := fun u v h1 h2 h3 h4 => ?_, back := I.back }⟩
  refine I.old u v h1 h2 h3 h4 ?_
  rcases lt_of I.len I.back v with h | h
  · exact h
  · unfold inR at h3; omega
theorem farSame {s : TSpace} {gs : List Int} (h : FewS s) (hg : gs.length ≤ 1000) : ∃ out, F_rank_Far s gs = some out ∧ F_ref16_Far s gs = some out ∧ IsFar s.States.length (es s) gs out := by
  obtain ⟨a, a1, a2⟩ := far_spec h hg
  obtain ⟨b, b1, b2⟩ := refFar_spec h hg
  obtain rfl := a2.unique b2
  exact ⟨a, a1, b1, a2⟩
end Go.Proofs
