/- A part of the proof; what it holds is told at each theorem. -/
import Derived.Test.YtidpjdkldadlpaaGreatSpF
set_option linter.unusedVariables false
set_option linter.unusedSimpArgs false
set_option linter.unusedSectionVars false
set_option linter.deprecated false
noncomputable section
namespace Go.Proofs
open Go Go.RowKit Go.Vm Go.Rk

theorem spIn_spec {s : TSpace} {k : Int} : F_space_far_1 k s = some (decide (inR s.States.length k)) := by
  unfold F_space_far_1
  refine congrArg some ?_
  rw [Bool.eq_iff_iff, decide_eq_true_iff, Bool.and_eq_true, decide_eq_true_iff, decide_eq_true_iff]; exact Iff.rfl
theorem spCnt_spec {s : TSpace} {e : TEdge} : F_space_far_g2 e s = some (cnt s e) := by
  unfold F_space_far_g2 cnt
  rw [spIn_spec, spIn_spec, Option.bind_some]
  by_cases h : inR s.States.length e.From
  · have h1 := h.1; have h2 := h.2
    simp only [h, h1, h2, decide_true, cond_true, Option.bind_some, Bool.true_and]
    refine congrArg some ?_
    rw [Bool.eq_iff_iff, decide_eq_true_iff, Bool.and_eq_true, decide_eq_true_iff, decide_eq_true_iff]; exact Iff.rfl
  · simp only [h, decide_false, cond_false]
    refine congrArg some ?_
    have : (decide (0 ≤ e.From) && decide (e.From < (s.States.length : Int))) = false := by
      rw [← Bool.not_eq_true, Bool.and_eq_true, decide_eq_true_iff, decide_eq_true_iff]; exact h
    rw [this]; rfl
theorem spInto_spec {s : TSpace} (h : FewS s) : ∃ m, loopM (fun st : Int × List (Int × List Int) => F_space_far_l4 s st.1 st.2) (0, []) = some m ∧ ∀ k, (mget m k).getD [] = froms (s.Edges.filter (cnt s)) k := by
  have hed := h.ed
  refine loop_up s.Edges.length (fun i st => st.1 = (i : Int) ∧ ∀ k, (mget st.2 k).getD [] = froms ((s.Edges.take i).filter (cnt s)) k) _ (fun i st hi hs => ?_) (fun st hs => ?_) (0, []) ⟨rfl, fun k => by simp [froms, mget]⟩
  · obtain ⟨j, m⟩ := st
    obtain ⟨hj, hm⟩ := hs
    simp only at hj hm
    subst hj
    left
    have h1 : (i : Int) < s.Edges.length := by omega
    have ht : s.Edges.take (i + 1) = s.Edges.take i ++ [s.Edges[i]] := List.take_succ_eq_append_getElem hi
    unfold F_space_far_l4 F_space_far_k3 F_space_far_k1
    simp only [h1, decide_true, cond_true, idx_nat, List.getElem?_eq_getElem hi, Option.bind_some, spCnt_spec, w64_succ hi h.ok.2.1]
    cases hc : cnt s s.Edges[i] with
    | false =>
      refine ⟨_, rfl, rfl, fun k => ?_⟩
      rw [ht, List.filter_append, List.filter_cons, hc]
      simpa using hm k
    | true =>
      have hlen : (froms ((s.Edges.take i).filter (cnt s)) s.Edges[i].To).length ≤ 200 := by
        unfold froms
        rw [List.length_map]
        refine Nat.le_trans (List.length_filter_le _ _) (Nat.le_trans (List.length_filter_le _ _) ?_)
        rw [List.length_take]; omega
      simp only [cond_true, hm]
      rw [chk_d (show (froms ((s.Edges.take i).filter (cnt s)) s.Edges[i].To).length + ([s.Edges[i].From] : List Int).length ≤ 4294967296 by simp only [List.length_singleton]; omega)]
      refine ⟨_, rfl, rfl, fun k => ?_⟩
      simp only [mget_mset]
      have e : froms ((s.Edges.take (i + 1)).filter (cnt s)) k = froms ((s.Edges.take i).filter (cnt s)) k ++ (if s.Edges[i].To = k then [s.Edges[i].From] else []) := by
        rw [ht, List.filter_append, List.filter_cons, hc]
        unfold froms
        by_cases c : s.Edges[i].To = k <;> simp [c]
      rw [e]
      by_cases c : k = s.Edges[i].To
      · subst c; simp
      · rw [if_neg c, if_neg (fun e => c e.symm), hm k]; simp
  · obtain ⟨j, m⟩ := st
    obtain ⟨hj, hm⟩ := hs
    simp only at hj hm
    subst hj
    refine ⟨m, by simp [F_space_far_l4], fun k => ?_⟩
    rw [hm k, List.take_length]

/-- How many states are not told of. -/
def left (N : Nat) (m : List (Int × Int)) : Nat := (List.range N).countP fun j : Nat => (mget m (j : Int)).isNone
theorem left_set {N : Nat} {m : List (Int × Int)} {u v : Int} (hu : inR N u) (hn : mget m u = none) : left N m = left N (mset ltI m u v) + 1 := by
  unfold left
  have h1 : (List.range N).countP (fun j : Nat => decide ((j : Int) = u)) = 1 := by
    obtain ⟨n, rfl⟩ : ∃ n : Nat, u = (n : Int) := ⟨u.toNat, by have := hu.1; omega⟩
    have hlt : n < N := by have := hu.2; omega
    have : (fun j : Nat => decide ((j : Int) = (n : Int))) = fun j => j == n := by
      funext j; rw [Bool.eq_iff_iff, decide_eq_true_iff, beq_iff_eq]; omega
    rw [this, ← List.count_eq_countP]
    have := List.nodup_range (n := N)
    rw [List.Nodup.count this, if_pos (List.mem_range.2 hlt)]
  rw [← h1]
  refine countP_split fun j _ => ?_
  rw [mget_mset]
  by_cases c : (j : Int) = u
  · left; subst c; simp [hn]
  · rw [if_neg c]
    cases mget m (j : Int) with
    | none => left; simp [c]
    | some x => right; simp [c]

structure BInv (s : TSpace) (k : Int) (m : List (Int × Int)) (w : List Int) : Prop where
  rng : ∀ j d, mget m j = some d → inR s.States.length j ∧ 0 ≤ d ∧ d + (left s.States.length m : Int) ≤ s.States.length
  goal : mget m k = some 0
  back : ∀ j d, mget m j = some d → (d = 0 ∧ j = k) ∨ ∃ v d', (j, v) ∈ es s ∧ inR s.States.length v ∧ mget m v = some d' ∧ d = d' + 1
  wait : ∀ x, x ∈ w → ∃ d, mget m x = some d
  edge : ∀ u v d, (u, v) ∈ es s → inR s.States.length u → inR s.States.length v → mget m v = some d → v ∈ w ∨ ∃ c, mget m u = some c ∧ c ≤ d + 1
  sort : w.Pairwise fun x y => ∀ a b, mget m x = some a → mget m y = some b → a ≤ b
  near : ∀ x r, w = x :: r → ∀ j d a, mget m j = some d → mget m x = some a → d ≤ a + 1
  few : w.length + left s.States.length m ≤ s.States.length + 1

structure BIn (s : TSpace) (m0 : List (Int × Int)) (w0 : List Int) (x dx : Int) (i : Nat) (m : List (Int × Int)) (w : List Int) : Prop where
  mono : ∀ j d, mget m0 j = some d → mget m j = some d
  new : ∀ j d, mget m j = some d → mget m0 j = some d ∨ (mget m0 j = none ∧ d = dx + 1 ∧ (j, x) ∈ es s ∧ inR s.States.length j ∧ j ∈ w)
  app : ∃ ws, w = w0 ++ ws ∧ ∀ y, y ∈ ws → mget m y = some (dx + 1)
  done : ∀ u, u ∈ (froms (s.Edges.filter (cnt s)) x).take i → ∃ c, mget m u = some c
  sz : w.length + left s.States.length m = w0.length + left s.States.length m0

theorem bfsIn_spec {s : TSpace} {k : Int} {mi : List (Int × List Int)} {m0 : List (Int × Int)} {x : Int} {r : List Int} {dx : Int} (h : FewS s) (hmi : ∀ k, (mget mi k).getD [] = froms (s.Edges.filter (cnt s)) k) (I : BInv s k m0 (x :: r)) (hx : mget m0 x = some dx) :
    ∃ q, loopM (fun st : Int × List (Int × Int) × List Int => F_space_far_l6 mi x st.1 st.2.1 st.2.2) (0, m0, x :: r) = some q ∧ BIn s m0 (x :: r) x dx (froms (s.Edges.filter (cnt s)) x).length q.1 q.2 := by
  have hst := h.st; have hed := h.ed
  have hfl : (froms (s.Edges.filter (cnt s)) x).length ≤ 200 := by
    unfold froms
    rw [List.length_map]
    exact Nat.le_trans (List.length_filter_le _ _) (Nat.le_trans (List.length_filter_le _ _) hed)
  refine loop_up (froms (s.Edges.filter (cnt s)) x).length (fun i st => st.1 = (i : Int) ∧ BIn s m0 (x :: r) x dx i st.2.1 st.2.2) _ (fun i st hi hs => .inl ?_) (fun st hs => ?_) (0, m0, x :: r)
    ⟨rfl, fun j d h => h, fun j d h => .inl h, ⟨[], by simp, by simp⟩, by simp, rfl⟩
  · obtain ⟨j, m, w⟩ := st
    obtain ⟨hj, J⟩ := hs
    simp only at hj J
    subst hj
    have hi' : (i : Int) < (froms (s.Edges.filter (cnt s)) x).length := by omega
    have hgu := List.getElem?_eq_getElem hi
    generalize hu : (froms (s.Edges.filter (cnt s)) x)[i] = u at hgu
    have hum : u ∈ froms (s.Edges.filter (cnt s)) x := by rw [← hu]; exact List.getElem_mem _
    obtain ⟨hue, hur, _⟩ := mem_froms.1 hum
    have htk : (froms (s.Edges.filter (cnt s)) x).take (i + 1) = (froms (s.Edges.filter (cnt s)) x).take i ++ [u] := by rw [List.take_succ_eq_append_getElem hi, hu]
    obtain ⟨ws, hw, hws⟩ := J.app
    have hsz := J.sz
    have hfew := I.few
    unfold F_space_far_l6 F_space_far_k5
    simp only [hmi, hi', decide_true, cond_true, idx_nat, hgu, Option.bind_some, w64_succ hi (show (froms (s.Edges.filter (cnt s)) x).length ≤ maxLen by unfold maxLen; omega)]
    cases hmu : mget m u with
    | some c =>
      simp only [Option.isSome_some, Bool.not_true, cond_false]
      refine ⟨_, rfl, rfl, { J with done := fun y hy => ?_ }⟩
      rw [htk, List.mem_append, List.mem_singleton] at hy
      rcases hy with hy | rfl
      · exact J.done y hy
      · exact ⟨c, hmu⟩
    | none =>
      have hw0 : w[0]? = some x := by rw [hw]; rfl
      have hd := (I.rng x dx hx).2
      have e1 : w64 ((mget m x).getD 0 + 1) = dx + 1 := by rw [J.mono x dx hx]; exact w64_in (by simp only [Option.getD_some]; omega)
      have e2 : idx w 0 = some x := by rw [show (0 : Int) = ((0 : Nat) : Int) from rfl, idx_nat]; exact hw0
      simp only [Option.isSome_none, Bool.not_false, cond_true, e1, e2, Option.bind_some]
      have hls := left_set (v := dx + 1) hur hmu
      have hwl : w.length = (x :: r).length + ws.length := by rw [hw, List.length_append]
      have hll : left s.States.length m0 ≤ s.States.length := by unfold left; refine Nat.le_trans List.countP_le_length ?_; simp
      have hw2 : w.length ≤ 200 := by omega
      rw [chk_d (by simp only [List.length_singleton]; omega)]
      refine ⟨_, rfl, rfl, { mono := fun j d hjd => ?_, new := fun j d hjd => ?_, app := ⟨ws ++ [u], by rw [hw]; simp, fun y hy => ?_⟩, done := fun y hy => ?_, sz := ?_ }⟩
      · simp only [mget_mset]
        by_cases c : j = u
        · subst c; rw [J.mono j d hjd] at hmu; cases hmu
        · rw [if_neg c]; exact J.mono j d hjd
      · simp only [mget_mset] at hjd
        by_cases c : j = u
        · subst c
          rw [if_pos rfl] at hjd; cases hjd
          right
          refine ⟨?_, rfl, hue, hur, by simp⟩
          cases h0 : mget m0 j with
          | none => rfl
          | some d => rw [J.mono j d h0] at hmu; cases hmu
        · rw [if_neg c] at hjd
          rcases J.new j d hjd with h | ⟨a, b, c1, c2, c3⟩
          · exact .inl h
          · exact .inr ⟨a, b, c1, c2, List.mem_append_left _ c3⟩
      · simp only [mget_mset]
        by_cases c : y = u
        · rw [if_pos c]
        · rw [if_neg c]
          rcases List.mem_append.1 hy with h | h
          · exact hws y h
          · exact absurd (List.mem_singleton.1 h) c
      · rw [htk, List.mem_append, List.mem_singleton] at hy
        simp only [mget_mset]
        by_cases c : y = u
        · exact ⟨_, if_pos c⟩
        · rw [if_neg c]
          rcases hy with hy | hy
          · exact J.done y hy
          · exact absurd hy c
      · simp only [List.length_append, List.length_singleton]; omega
  · obtain ⟨j, m, w⟩ := st
    obtain ⟨hj, J⟩ := hs
    simp only at hj J
    subst hj
    exact ⟨(m, w), by simp [F_space_far_l6, hmi], J⟩

theorem bfs_round {s : TSpace} {k : Int} {mi : List (Int × List Int)} {m : List (Int × Int)} {w : List Int} (h : FewS s) (hmi : ∀ k, (mget mi k).getD [] = froms (s.Edges.filter (cnt s)) k) (I : BInv s k m w) (hw : w ≠ []) :
    ∃ m' w', F_space_far_l8 mi m w = some (.inl (m', w')) ∧ BInv s k m' w' ∧ w'.length + left s.States.length m' < w.length + left s.States.length m := by
  cases w with
  | nil => exact absurd rfl hw
  | cons x r =>
    obtain ⟨dx, hx⟩ := I.wait x List.mem_cons_self
    obtain ⟨⟨m', w'⟩, h1, J⟩ := bfsIn_spec h hmi I hx
    simp only at J
    obtain ⟨ws, hws, hwd⟩ := J.app
    have hsz := J.sz
    have hfew := I.few
    have hdx := I.rng x dx hx
    have hnear := I.near x r rfl
    have hall : ∀ j d, mget m' j = some d → d ≤ dx + 1 := fun j d hj => by
      rcases J.new j d hj with h | ⟨_, h, _⟩
      · exact hnear j d dx h hx
      · omega
    have hx' := J.mono x dx hx
    refine ⟨m', r ++ ws, ?_, ?_, by rw [hws] at hsz; simp at hsz ⊢; omega⟩
    · unfold F_space_far_l8 F_space_far_c7
      have e0 : (0 : Int) < ((x :: r).length : Int) := by simp only [List.length_cons]; omega
      have e2 : idx (x :: r) 0 = some x := by rw [show (0 : Int) = ((0 : Nat) : Int) from rfl, idx_nat]; rfl
      simp only [e0, decide_true, cond_true, e2, Option.bind_some, h1]
      rw [chk_t (by rw [hws]; simp)]
      simp [hws]
    · have old : ∀ y, y ∈ r → ∃ d, mget m y = some d := fun y hy => I.wait y (List.mem_cons_of_mem _ hy)
      have hs := List.pairwise_cons.1 I.sort
      refine { rng := fun j d hj => ?_, goal := J.mono _ _ I.goal, back := fun j d hj => ?_, wait := fun y hy => ?_, edge := fun u v d q1 q2 q3 q4 => ?_, sort := ?_, near := fun y q hq j d a hj ha => ?_, few := ?_ }
      · have hl : left s.States.length m' ≤ left s.States.length m := by rw [hws] at hsz; simp at hsz; omega
        rcases J.new j d hj with h | ⟨a, b, c, e, f⟩
        · obtain ⟨p, q, t⟩ := I.rng j d h; exact ⟨p, q, by omega⟩
        · refine ⟨e, by omega, ?_⟩
          have hwl : 1 ≤ ws.length := by
            rw [hws] at f
            rcases List.mem_append.1 f with g | g
            · obtain ⟨d', hd'⟩ := I.wait j g; rw [a] at hd'; cases hd'
            · exact List.length_pos_of_mem g
          rw [hws] at hsz; simp only [List.length_append] at hsz; omega
      · rcases J.new j d hj with h | ⟨a, b, c, e, f⟩
        · rcases I.back j d h with h | ⟨v, d', p, q, t, u⟩
          · exact .inl h
          · exact .inr ⟨v, d', p, q, J.mono _ _ t, u⟩
        · exact .inr ⟨x, dx, c, hdx.1, hx', b⟩
      · rcases List.mem_append.1 hy with h | h
        · obtain ⟨d, hd⟩ := old y h; exact ⟨d, J.mono _ _ hd⟩
        · exact ⟨_, hwd y h⟩
      · by_cases c : v = x
        · subst c
          right
          rw [hx'] at q4; cases q4
          obtain ⟨c, hc⟩ := J.done u (by rw [List.take_length]; exact mem_froms.2 ⟨q1, q2, q3⟩)
          exact ⟨c, hc, hall u c hc⟩
        · rcases J.new v d q4 with h | ⟨a, b, _, _, f⟩
          · rcases I.edge u v d q1 q2 q3 h with g | ⟨c', g1, g2⟩
            · rcases List.mem_cons.1 g with g | g
              · exact absurd g c
              · exact .inl (List.mem_append_left _ g)
            · exact .inr ⟨c', J.mono _ _ g1, g2⟩
          · left
            rw [hws] at f
            rcases List.mem_append.1 f with g | g
            · obtain ⟨d', hd'⟩ := I.wait v g; rw [a] at hd'; cases hd'
            · exact List.mem_append_right _ g
      · rw [List.pairwise_append]
        refine ⟨(hs.2).imp_of_mem fun {a b} ha hb hab p q hp hq => ?_, ?_, fun a ha b hb p q hp hq => ?_⟩
        · obtain ⟨p', hp'⟩ := old a ha
          obtain ⟨q', hq'⟩ := old b hb
          rw [J.mono _ _ hp'] at hp; rw [J.mono _ _ hq'] at hq; cases hp; cases hq
          exact hab _ _ hp' hq'
        · refine List.pairwise_of_forall_mem_list fun a ha b hb p q hp hq => ?_
          rw [hwd a ha] at hp; rw [hwd b hb] at hq; cases hp; cases hq; exact Int.le_refl _
        · rw [hwd b hb] at hq; cases hq
          exact hall a p hp
      · have h5 : dx ≤ a := by
          have hym : y ∈ r ++ ws := by rw [hq]; exact List.mem_cons_self
          rcases List.mem_append.1 hym with h | h
          · obtain ⟨a', ha'⟩ := old y h
            rw [J.mono _ _ ha'] at ha; cases ha
            exact hs.1 y h dx _ hx ha'
          · rw [hwd y h] at ha; cases ha; omega
        have := hall j d hj; omega
      · rw [hws] at hsz; simp only [List.length_append, List.length_cons] at hsz hfew ⊢; omega

/-- What the search finds is how far it is. -/
theorem bfs_spec {s : TSpace} {k : Int} (h : FewS s) (hk : inR s.States.length k) {f : List Int} (hf : IsFar s.States.length (es s) [k] f) : ∃ m, F_space_far s k = some m ∧ (∀ j, mget m j = if 0 ≤ av f j then some (av f j) else none) := by
  obtain ⟨mi, m1, m2⟩ := spInto_spec h
  have hst := h.st
  unfold F_space_far
  rw [spIn_spec, Option.bind_some]
  simp only [hk, decide_true, Bool.not_true, cond_false, m1, Option.bind_some]
  unfold F_space_far_c10
  have g0 : ∀ j, mget (mset ltI ([] : List (Int × Int)) k 0) j = if j = k then some 0 else none := fun j => by rw [mget_mset]; rfl
  have gk : mget (mset ltI ([] : List (Int × Int)) k 0) k = some 0 := by rw [g0, if_pos rfl]
  have gs : ∀ j d, mget (mset ltI ([] : List (Int × Int)) k 0) j = some d → j = k ∧ d = 0 := fun j d hj => by
    rw [g0] at hj
    split at hj
    · rename_i e; cases hj; exact ⟨e, rfl⟩
    · cases hj
  have hleft : left s.States.length (mset ltI ([] : List (Int × Int)) k 0) + 1 = s.States.length := by
    rw [← left_set (m := []) hk rfl]
    unfold left
    have e : (fun j : Nat => (mget ([] : List (Int × Int)) (j : Int)).isNone) = fun _ => true := rfl
    rw [e]; simp
  have key : ∃ r, loopM (fun st : List (Int × Int) × List Int => F_space_far_l8 mi st.1 st.2) (mset ltI [] k 0, [k]) = some r ∧ BInv s k r [] := by
    refine loopM_inv (fun st : List (Int × Int) × List Int => BInv s k st.1 st.2) (fun st : List (Int × Int) × List Int => st.2.length + left s.States.length st.1) _ ?_ (mset ltI [] k 0, [k]) ?_
    · rintro ⟨m, w⟩ I
      simp only at I
      by_cases hw : w = []
      · subst hw; right; exact ⟨m, rfl, I⟩
      · left
        obtain ⟨m', w', a, b, c⟩ := bfs_round h m2 I hw
        exact ⟨(m', w'), a, b, c⟩
    · refine { rng := fun j d hj => ?_, goal := gk, back := fun j d hj => .inl ((gs j d hj).symm), wait := fun x hx => ?_, edge := fun u v d _ _ _ h4 => ?_, sort := List.pairwise_singleton _ _, near := fun x r hr j d a hj ha => ?_, few := by simp; omega }
      · obtain ⟨rfl, rfl⟩ := gs j d hj; exact ⟨hk, Int.le_refl _, by simp only; omega⟩
      · rw [List.mem_singleton] at hx; subst hx; exact ⟨0, gk⟩
      · left; rw [(gs v d h4).1]; exact List.mem_singleton.2 rfl
      · rw [(gs j d hj).2, (gs x a ha).2]; omega
  obtain ⟨m, r1, I⟩ := key
  refine ⟨m, by rw [r1]; rfl, ?_⟩
  -- the row that it stands for
  have hv : ∀ j, av ((List.range s.States.length).map fun j : Nat => (mget m (j : Int)).getD (-1)) j = (mget m j).getD (-1) := fun j => by
    by_cases hr : inR s.States.length j
    · obtain ⟨n, rfl⟩ : ∃ n : Nat, j = (n : Int) := ⟨j.toNat, by have := hr.1; omega⟩
      refine av_get (by omega) ?_
      rw [List.getElem?_map, List.getElem?_range (by have := hr.2; omega)]; rfl
    · rw [av_out (by simpa using hr)]
      cases hm : mget m j with
      | none => rfl
      | some d => exact absurd (I.rng j d hm).1 hr
  have hsome : ∀ j, 0 ≤ (mget m j).getD (-1) → mget m j = some ((mget m j).getD (-1)) := fun j hj => by
    cases hm : mget m j with
    | none => rw [hm] at hj; simp at hj
    | some d => rfl
  have hI : IsFar s.States.length (es s) [k] ((List.range s.States.length).map fun j : Nat => (mget m (j : Int)).getD (-1)) := by
    refine { len := by simp, lo := fun j => ?_, goal := fun g hg _ => ?_, edge := fun u v h1 h2 h3 h4 => ?_, back := fun j hj => ?_ }
    · rw [hv]
      cases hm : mget m j with
      | none => simp
      | some d => have := (I.rng j d hm).2; simp only [Option.getD_some]; omega
    · rw [List.mem_singleton] at hg; subst hg; rw [hv, I.goal]; rfl
    · rw [hv] at h4
      rw [hv, hv]
      rcases I.edge u v _ h1 h2 h3 (hsome v h4) with h | ⟨c, c1, c2⟩
      · cases h
      · rw [c1]; have := (I.rng u c c1).2; simp only [Option.getD_some]; omega
    · rw [hv] at hj
      rcases I.back j _ (hsome j hj) with ⟨h1, h2⟩ | ⟨v, d', a, b, c, e⟩
      · left; rw [hv]; exact ⟨h1, by rw [h2]; exact List.mem_singleton.2 rfl⟩
      · right
        refine ⟨v, a, b, ?_⟩
        rw [hv, hv, c]
        have := (I.rng v d' c).2
        simp only [Option.getD_some]; omega
  have := hf.unique hI
  intro j
  have e : av f j = (mget m j).getD (-1) := by rw [this]; exact hv j
  rw [e]
  cases hm : mget m j with
  | none => simp
  | some d => have := (I.rng j d hm).2.1; simp [this]

theorem out_spec {s : TSpace} (h : FewS s) (k : Int) : F_space_Out s k = some (idxs (fun e : TEdge => e.From == k) 0 s.Edges) := by
  have hed := h.ed
  unfold F_space_Out
  rw [loop_collect (l := s.Edges) (fun e : TEdge => e.From == k)]
  · rfl
  · intro i acc x ha hi hx
    have h1 : (i : Int) < s.Edges.length := by omega
    have hc : decide (acc.length + ([(i : Int)] : List Int).length ≤ 4294967296) = true := decide_eq_true (by simp; omega)
    simp only [F_space_Out_l2, F_space_Out_k1, h1, decide_true, cond_true, idx_nat, hx, Option.bind_some, w64_succ hi h.ok.2.1, chk_t hc]
    cases x.From == k <;> rfl
  · intro acc; simp [F_space_Out_l2]

end Go.Proofs
