/-
  SPACE, PLAIN: the ways to a state: what the program tells is what the document tells.
-/
import Derived.Test.YtidpjdkldadlpaaGreatSpP
set_option linter.unusedVariables false
set_option linter.unusedSimpArgs false
set_option linter.unusedSectionVars false
set_option linter.deprecated false
noncomputable section
namespace Go.Proofs
open Go Go.RowKit Go.Vm Go.Rk

theorem idxs_len {α : Type} (p : α → Bool) : ∀ (l : List α) k, (idxs p k l).length ≤ l.length := by
  intro l
  induction l with
  | nil => intro k; simp [idxs]
  | cons x l ih =>
    intro k
    rw [idxs]
    have := ih (k + 1)
    cases p x
    · simp; omega
    · simp; omega

/-- A loop that looks for the first that fits, and goes on once more. -/
theorem loop_find2 {α ρ σ : Type} {body : σ → Option (σ ⊕ ρ)} {l : List α} (mk mk2 : Nat → σ) (p : Nat → α → Bool) (r1 : Nat → ρ) (r2 : ρ)
    (hs : ∀ i x, i < l.length → l[i]? = some x → body (mk i) = some (.inl (bif p i x then mk2 i else mk (i + 1))))
    (hd : ∀ i x, i < l.length → l[i]? = some x → body (mk2 i) = some (.inr (r1 i)))
    (hf : body (mk l.length) = some (.inr r2)) {s0 : σ} (h0 : s0 = mk 0) : loopM body s0 = some ((seekI p 0 l).elim r2 r1) := by
  subst h0
  have key : ∀ k i, i + k = l.length → loopM body (mk i) = some ((seekI p i (l.drop i)).elim r2 r1) := by
    intro k
    induction k with
    | zero =>
      intro i hk
      obtain rfl : i = l.length := by omega
      rw [loopM_eq, hf, List.drop_length]; rfl
    | succ k ih =>
      intro i hk
      have hi : i < l.length := by omega
      have hx := List.getElem?_eq_getElem hi
      rw [loopM_eq, hs i _ hi hx, List.drop_eq_getElem_cons hi, seekI]
      cases hp : p i l[i] with
      | true =>
        show loopM body (mk2 i) = _
        rw [loopM_eq, hd i _ hi hx]; rfl
      | false => exact ih (i + 1) (by omega)
  exact key l.length 0 (by omega)

/-- Does an edge, told by its number, lead nearer? -/
def nearP (s : TSpace) (f : List Int) (a : Int) (_ : Nat) (x : Int) : Bool := ((s.Edges[x.toNat]?).map fun e => decide (0 ≤ av f e.To) && (av f e.To == av f a - 1)).getD false
/-- The first that does. -/
def nx (s : TSpace) (f : List Int) (a : Int) : Option TEdge := (seekI (nearP s f a) 0 (idxs (fun e : TEdge => e.From == a) 0 s.Edges)).bind fun i => ((idxs (fun e : TEdge => e.From == a) 0 s.Edges)[i]?).bind fun x => s.Edges[x.toNat]?
/-- The first of the shortest ways. -/
def pathOf (s : TSpace) (f : List Int) : Nat → Int → List TMode
  | 0, _ => []
  | d + 1, a => match nx s f a with
    | some e => e.Mode :: pathOf s f d e.To
    | none => []

section
variable {s : TSpace} {k : Int} {f : List Int}
theorem from_idxs {a : Int} {i : Nat} {x : Int} (hx : (idxs (fun e : TEdge => e.From == a) 0 s.Edges)[i]? = some x) : ∃ j e, x = ((j : Nat) : Int) ∧ s.Edges[j]? = some e ∧ e.From = a := by
  obtain ⟨j, e, h1, h2, h3⟩ := mem_idxs.1 (List.mem_of_getElem? hx)
  exact ⟨j, e, by rw [h3]; simp, h1, by simpa using h2⟩
theorem nearP_nat {a : Int} {n j : Nat} {e : TEdge} (he : s.Edges[j]? = some e) : nearP s f a n ((j : Nat) : Int) = (decide (0 ≤ av f e.To) && (av f e.To == av f a - 1)) := by
  unfold nearP
  rw [Int.toNat_natCast, he]; rfl
theorem nx_spec (hf : IsFar s.States.length (es s) [k] f) {a : Int} (hp : 0 < av f a) : ∃ n j e, seekI (nearP s f a) 0 (idxs (fun e : TEdge => e.From == a) 0 s.Edges) = some n ∧ (idxs (fun e : TEdge => e.From == a) 0 s.Edges)[n]? = some ((j : Nat) : Int) ∧
    s.Edges[j]? = some e ∧ nx s f a = some e ∧ 0 ≤ av f e.To ∧ av f e.To = av f a - 1 := by
  cases hs : seekI (nearP s f a) 0 (idxs (fun e : TEdge => e.From == a) 0 s.Edges) with
  | none =>
    exfalso
    rcases hf.back a (by omega) with ⟨h1, _⟩ | ⟨v, h1, h2, h3, h4⟩
    · omega
    · obtain ⟨e, e1, e2, rfl⟩ := mem_es.1 h1
      obtain ⟨j, hj⟩ := List.mem_iff_getElem?.1 e1
      have hm : ((j : Nat) : Int) ∈ idxs (fun e : TEdge => e.From == a) 0 s.Edges := mem_idxs.2 ⟨j, e, hj, by simpa using e2, by simp⟩
      obtain ⟨i, hi⟩ := List.mem_iff_getElem?.1 hm
      have := seekI_none hs i _ hi
      rw [nearP_nat hj] at this
      have h5 : (decide (0 ≤ av f e.To) && (av f e.To == av f a - 1)) = true := by
        simp only [Bool.and_eq_true, decide_eq_true_eq, beq_iff_eq]; omega
      rw [h5] at this; cases this
  | some n =>
    obtain ⟨i, x, h1, h2, h3⟩ := seekI_some hs
    obtain rfl : n = i := by omega
    obtain ⟨j, e, rfl, h4, h5⟩ := from_idxs h2
    rw [nearP_nat h4] at h3
    simp only [Bool.and_eq_true, decide_eq_true_eq, beq_iff_eq] at h3
    refine ⟨n, j, e, rfl, h2, h4, ?_, h3.1, h3.2⟩
    unfold nx
    rw [hs, Option.bind_some, h2, Option.bind_some, Int.toNat_natCast, h4]
theorem pathOf_next (hf : IsFar s.States.length (es s) [k] f) {a : Int} (hp : 0 < av f a) {e : TEdge} (he : nx s f a = some e) (h2 : av f e.To = av f a - 1) : pathOf s f (av f a).toNat a = e.Mode :: pathOf s f (av f e.To).toNat e.To := by
  have : (av f a).toNat = (av f e.To).toNat + 1 := by omega
  rw [this, pathOf, he]
theorem pathOf_len : ∀ (d : Nat) (a : Int), (pathOf s f d a).length ≤ d := by
  intro d
  induction d with
  | zero => intro a; simp [pathOf]
  | succ d ih =>
    intro a
    rw [pathOf]
    cases nx s f a with
    | none => simp
    | some e => simpa using ih e.To

theorem path_exact (h : FewS s) (hk : inR s.States.length k) (hf : IsFar s.States.length (es s) [k] f) : F_space_Path s k = some (pathOf s f (av f 0).toNat 0) := by
  obtain ⟨m, m1, m2⟩ := bfs_spec h hk hf
  have hst := h.st; have hed := h.ed
  have hle : ∀ j, av f j ≤ 40 := fun j => by
    rcases hf.lt j with h | h
    · omega
    · unfold inR at hk; omega
  unfold F_space_Path
  rw [m1, Option.bind_some]
  by_cases h0 : 0 ≤ av f 0
  · have e0 : mget m 0 = some (av f 0) := by rw [m2, if_pos h0]
    simp only [e0, Option.isSome_some, Bool.not_true, cond_false]
    have key : ∃ r, loopM (fun st : List TMode × Int => F_space_Path_l1 m s st.1 st.2) ([], 0) = some r ∧ r = pathOf s f (av f 0).toNat 0 := by
      refine loopM_inv (fun st : List TMode × Int => 0 ≤ av f st.2 ∧ st.1 ++ pathOf s f (av f st.2).toNat st.2 = pathOf s f (av f 0).toNat 0 ∧ (st.1.length : Int) + av f st.2 = av f 0) (fun st : List TMode × Int => (av f st.2).toNat) _ ?_ ([], 0) ⟨h0, by simp, by simp⟩
      rintro ⟨out, a⟩ ⟨ha, hl, hlen⟩
      simp only at ha hl hlen
      have ea : mget m a = some (av f a) := by rw [m2, if_pos ha]
      unfold F_space_Path_l1
      simp only [ea, Option.getD_some]
      by_cases hp : 0 < av f a
      · left
        have hla := hle a
        obtain ⟨n, j, e, n1, n2, n3, n4, n5, n6⟩ := nx_spec hf hp
        have hfind : F_slices_IndexFunc_int_int_v4 (idxs (fun e : TEdge => e.From == a) 0 s.Edges) m s a = some (n : Int) := by
          have hll := idxs_len (fun e : TEdge => e.From == a) s.Edges 0
          unfold F_slices_IndexFunc_int_int_v4
          rw [loop_find (l := idxs (fun e : TEdge => e.From == a) 0 s.Edges) (s0 := 0) (fun i => (i : Int)) (nearP s f a) (fun i => Sum.inl (i : Int)) (Sum.inr ()) ?_ ?_ rfl]
          · rw [n1]; rfl
          · intro i x hi hx
            have h1 : (i : Int) < (idxs (fun e : TEdge => e.From == a) 0 s.Edges).length := by omega
            obtain ⟨j, e, rfl, h3, h4⟩ := from_idxs hx
            unfold F_slices_IndexFunc_int_int_v4_l1 F_space_Path_1
            simp only [h1, decide_true, cond_true, idx_nat, hx, h3, Option.bind_some, ea, Option.getD_some, w64_in (show -9223372036854775808 ≤ av f a - 1 ∧ av f a - 1 ≤ 9223372036854775807 by omega), w64_succ hi (show (idxs (fun e : TEdge => e.From == a) 0 s.Edges).length ≤ maxLen by unfold maxLen; omega)]
            rw [nearP_nat h3]
            have : ((mget m e.To).isSome && ((mget m e.To).getD 0 == av f a - 1)) = (decide (0 ≤ av f e.To) && (av f e.To == av f a - 1)) := by
              rw [m2]
              by_cases c : 0 ≤ av f e.To
              · simp [c]
              · simp [c]
            rw [← this]
            cases ((mget m e.To).isSome && ((mget m e.To).getD 0 == av f a - 1)) <;> rfl
          · simp [F_slices_IndexFunc_int_int_v4_l1]
        refine ⟨(out ++ [e.Mode], e.To), ?_, ⟨n5, ?_, by simp; omega⟩, by simp only; omega⟩
        · have h0' := hle 0
          simp only [hp, decide_true, cond_true, out_spec h, Option.bind_some, hfind, idx_nat, n2, n3]
          rw [chk_d (by simp; omega)]; rfl
        · rw [← hl, pathOf_next hf hp n4 n6]; simp
      · right
        refine ⟨out, by simp [hp], ?_⟩
        rw [← hl, show (av f a).toNat = 0 by omega]; simp [pathOf]
    obtain ⟨r, r1, r2⟩ := key
    rw [r1, r2]; rfl
  · have e0 : mget m 0 = none := by rw [m2, if_neg h0]
    have := hf.lo 0
    rw [show (av f 0).toNat = 0 by omega]
    simp [e0, pathOf]

theorem refOut_spec (h : FewS s) (k : Int) : F_ref15_Out s k = some (idxs (fun e : TEdge => e.From == k) 0 s.Edges) := by
  have hed := h.ed
  unfold F_ref15_Out
  rw [loop_collect (l := s.Edges) (fun e : TEdge => e.From == k)]
  · rfl
  · intro i acc x ha hi hx
    have h1 : (i : Int) < s.Edges.length := by omega
    have hc : decide (acc.length + ([(i : Int)] : List Int).length ≤ 4294967296) = true := decide_eq_true (by simp; omega)
    simp only [F_ref15_Out_l2, F_ref15_Out_k1, h1, decide_true, cond_true, idx_nat, hx, Option.bind_some, w64_succ hi h.ok.2.1, chk_t hc]
    cases x.From == k <;> rfl
  · intro acc; simp [F_ref15_Out_l2]

theorem refPath_loop (h : FewS s) (hN : 0 < s.States.length) (hf : IsFar s.States.length (es s) [k] f) (h0 : 0 ≤ av f 0) : loopM (fun st : Int × List TMode => F_ref15_Path_l7 f s st.1 st.2) (0, []) = some (.inr (pathOf s f (av f 0).toNat 0)) := by
  have hst := h.st; have hed := h.ed
  have hle : ∀ j, av f j ≤ 40 := fun j => by
    rcases hf.lt j with h | h
    · omega
    · omega
  have key : ∃ r, loopM (fun st : Int × List TMode => F_ref15_Path_l7 f s st.1 st.2) (0, []) = some r ∧ r = .inr (pathOf s f (av f 0).toNat 0) := by
    refine loopM_inv (fun st : Int × List TMode => 0 ≤ av f st.1 ∧ st.2 ++ pathOf s f (av f st.1).toNat st.1 = pathOf s f (av f 0).toNat 0 ∧ (st.2.length : Int) + av f st.1 = av f 0) (fun st : Int × List TMode => (av f st.1).toNat) _ ?_ (0, []) ⟨h0, by simp, by simp⟩
    rintro ⟨a, out⟩ ⟨ha, hl, hlen⟩
    simp only at ha hl hlen
    have hra := hf.rng ha
    have ga := get_av (out := f) (k := a) (by rw [hf.len]; exact hra)
    unfold F_ref15_Path_l7
    simp only [idx_pos hra.1, ga, Option.bind_some]
    by_cases hp : 0 < av f a
    · left
      have hla := hle a
      obtain ⟨n, j, e, n1, n2, n3, n4, n5, n6⟩ := nx_spec hf hp
      have hfind : loopM (fun st : Int × Int => F_ref15_Path_l5 (idxs (fun e : TEdge => e.From == a) 0 s.Edges) s f a st.1 st.2) (-1, 0) = some ((j : Nat) : Int) := by
        have hll := idxs_len (fun e : TEdge => e.From == a) s.Edges 0
        rw [loop_find2 (l := idxs (fun e : TEdge => e.From == a) 0 s.Edges) (s0 := ((-1 : Int), (0 : Int))) (fun i => ((-1 : Int), (i : Int))) (fun i => (((idxs (fun e : TEdge => e.From == a) 0 s.Edges)[i]?).getD 0, ((i + 1 : Nat) : Int))) (nearP s f a) (fun i => ((idxs (fun e : TEdge => e.From == a) 0 s.Edges)[i]?).getD 0) (-1) ?_ ?_ ?_ rfl]
        · rw [n1]; simp [n2]
        · intro i x hi hx
          have h1 : (i : Int) < (idxs (fun e : TEdge => e.From == a) 0 s.Edges).length := by omega
          obtain ⟨j, e, rfl, h3, h4⟩ := from_idxs hx
          unfold F_ref15_Path_l5 F_ref15_Path_k4 F_ref15_Path_k2
          have hg : F_ref15_Path_g3 e f a = some (decide (0 ≤ av f e.To) && (av f e.To == av f a - 1)) := by
            unfold F_ref15_Path_g3
            by_cases c1 : 0 ≤ e.To
            · by_cases c2 : e.To < (f.length : Int)
              · simp only [c1, c2, decide_true, cond_true, idx_pos c1, get_av (show inR f.length e.To from ⟨c1, c2⟩), idx_pos hra.1, ga, Option.bind_some, w64_in (show -9223372036854775808 ≤ av f a - 1 ∧ av f a - 1 ≤ 9223372036854775807 by omega)]
                by_cases c3 : av f e.To = av f a - 1
                · have : 0 ≤ av f e.To := by omega
                  simp [c3]; omega
                · simp [c3]
              · have : av f e.To = -1 := av_out fun hr => c2 hr.2
                simp [c1, c2, this]
            · have : av f e.To = -1 := av_out fun hr => c1 hr.1
              simp [c1, this]
          have hi2 := w64_succ hi (show (idxs (fun e : TEdge => e.From == a) 0 s.Edges).length ≤ maxLen by unfold maxLen; omega)
          simp only [h1, decide_true, Bool.true_and, show decide ((-1 : Int) < 0) = true from rfl, cond_true, idx_nat, hx, h3, Option.bind_some, hg, hi2, nearP_nat h3, Option.getD_some]
          cases (decide (0 ≤ av f e.To) && (av f e.To == av f a - 1)) <;> rfl
        · intro i x hi hx
          obtain ⟨j, e, rfl, h3, h4⟩ := from_idxs hx
          unfold F_ref15_Path_l5
          have : ¬ ((j : Nat) : Int) < 0 := by omega
          simp [hx, this]
        · unfold F_ref15_Path_l5; simp
      refine ⟨(e.To, out ++ [e.Mode]), ?_, ⟨n5, ?_, by simp; omega⟩, by simp only; omega⟩
      · have h0' := hle 0
        unfold F_ref15_Path_c6
        have : ¬ ((j : Nat) : Int) < 0 := by omega
        simp only [hp, decide_true, cond_true, refOut_spec h, Option.bind_some, hfind, this, decide_false, cond_false, idx_nat, n3]
        rw [chk_d (by simp; omega)]; rfl
      · simp only; rw [← hl, pathOf_next hf hp n4 n6]; simp
    · right
      refine ⟨.inr out, by simp [hp], ?_⟩
      rw [← hl, show (av f a).toNat = 0 by omega]; simp [pathOf]
  obtain ⟨r, r1, r2⟩ := key
  rw [r1, r2]

theorem refPath_exact (h : FewS s) : ∃ f, IsFar s.States.length (es s) [k] f ∧ F_ref15_Path s k = some (pathOf s f (av f 0).toNat 0) := by
  obtain ⟨f, f1, hf⟩ := refFar_spec k h
  refine ⟨f, hf, ?_⟩
  unfold F_ref15_Path
  rw [f1, Option.bind_some]
  unfold F_ref15_Path_g1
  by_cases hN : f.length = 0
  · have : av f 0 = -1 := av_out fun hr => by unfold inR at hr; omega
    rw [hN, this]; rfl
  · have hr0 : inR f.length 0 := ⟨Int.le_refl _, by omega⟩
    have e1 : ((f.length : Int) == 0) = false := by
      cases hc : ((f.length : Int) == 0) with
      | false => rfl
      | true => have := beq_iff_eq.1 hc; omega
    simp only [e1, cond_false, idx_pos (Int.le_refl 0), get_av hr0, Option.bind_some]
    unfold F_ref15_Path_k10
    by_cases h0 : 0 ≤ av f 0
    · have : ¬ av f 0 < 0 := by omega
      simp only [this, decide_false, cond_false]
      rw [refPath_loop h (by have := hf.len; omega) hf h0]; rfl
    · have : av f 0 < 0 := by omega
      simp only [this, decide_true, cond_true]
      rw [show (av f 0).toNat = 0 by omega]; rfl

/-- A number of no state: there is no way, for either. -/
theorem path_out (h : FewS s) (hk : ¬ inR s.States.length k) : F_space_Path s k = some [] := by
  unfold F_space_Path F_space_far
  rw [spIn_spec, Option.bind_some]
  simp only [hk, decide_false, Bool.not_false, cond_true, Option.bind_some]
  simp [mget]
theorem path_same (h : FewS s) : ∃ p, F_space_Path s k = some p ∧ F_ref15_Path s k = some p ∧ p.length ≤ 100 := by
  obtain ⟨f, hf, h2⟩ := refPath_exact (k := k) h
  have hst := h.st
  by_cases hk : inR s.States.length k
  · refine ⟨_, path_exact h hk hf, h2, ?_⟩
    have := pathOf_len (s := s) (f := f) (av f 0).toNat 0
    have := hf.lt 0
    unfold inR at hk
    omega
  · have hz : av f 0 ≤ 0 := by
      apply Classical.byContradiction
      intro hn
      have key : ∀ d : Nat, ∀ a, av f a = d → False := by
        intro d
        induction d with
        | zero =>
          intro a ha
          rcases hf.back a (by omega) with ⟨_, h3⟩ | ⟨v, _, _, h3, h4⟩
          · exact hk (List.mem_singleton.1 h3 ▸ hf.rng (k := a) (by omega))
          · omega
        | succ d ih =>
          intro a ha
          rcases hf.back a (by omega) with ⟨h3, _⟩ | ⟨v, _, _, h3, h4⟩
          · omega
          · exact ih v (by omega)
      exact key (av f 0).toNat 0 (by omega)
    refine ⟨[], path_out h hk, ?_, by simp⟩
    rw [h2, show (av f 0).toNat = 0 by omega]; rfl
end
end Go.Proofs
