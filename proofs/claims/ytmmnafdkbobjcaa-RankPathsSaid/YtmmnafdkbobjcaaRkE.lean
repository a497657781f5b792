/- A part of the proof; what it holds is told at each theorem. -/
import Derived.Test.YtmmnafdkbobjcaaRkD
set_option linter.unusedVariables false
set_option linter.unusedSimpArgs false
set_option linter.unusedSectionVars false
set_option linter.deprecated false
noncomputable section
namespace Go.Proofs
open Go Go.RowKit Go.Vm Go.Rk

def cnt (s : TSpace) (e : TEdge) : Bool := (decide (0 ≤ e.From) && decide (e.From < (s.States.length : Int))) && (decide (0 ≤ e.To) && decide (e.To < (s.States.length : Int)))
theorem cnt_iff {s : TSpace} {e : TEdge} : cnt s e = true ↔ inR s.States.length e.From ∧ inR s.States.length e.To := by
  unfold cnt inR; simp only [Bool.and_eq_true, decide_eq_true_eq]
theorem in_spec {s : TSpace} {k : Int} : F_rank_in s k = some (decide (inR s.States.length k)) := by
  unfold F_rank_in
  refine congrArg some ?_
  rw [Bool.eq_iff_iff, decide_eq_true_iff, Bool.and_eq_true, decide_eq_true_iff, decide_eq_true_iff]; exact Iff.rfl
theorem counts_spec {s : TSpace} {e : TEdge} : F_rank_counts s e = some (cnt s e) := by
  unfold F_rank_counts F_rank_counts_g1 F_rank_counts_k2 F_rank_in cnt
  cases (decide (0 ≤ e.From) && decide (e.From < (s.States.length : Int))) <;> rfl
def froms (l : List TEdge) (k : Int) : List Int := (l.filter fun e => e.To == k).map (·.From)
def es (s : TSpace) : List (Int × Int) := s.Edges.map fun e => (e.From, e.To)
theorem mem_es {s : TSpace} {u v : Int} : (u, v) ∈ es s ↔ ∃ e ∈ s.Edges, e.From = u ∧ e.To = v := by
  unfold es; rw [List.mem_map]; simp only [Prod.mk.injEq]
theorem mem_froms {s : TSpace} {u k : Int} : u ∈ froms (s.Edges.filter (cnt s)) k ↔ (u, k) ∈ es s ∧ inR s.States.length u ∧ inR s.States.length k := by
  unfold froms
  rw [mem_es, List.mem_map]
  constructor
  · rintro ⟨e, he, rfl⟩
    rw [List.mem_filter, List.mem_filter, cnt_iff] at he
    obtain ⟨⟨h1, h2, h3⟩, h4⟩ := he
    have h4 : e.To = k := by simpa using h4
    exact ⟨⟨e, h1, rfl, h4⟩, h2, h4 ▸ h3⟩
  · rintro ⟨⟨e, h1, rfl, rfl⟩, h2, h3⟩
    exact ⟨e, by rw [List.mem_filter, List.mem_filter, cnt_iff]; exact ⟨⟨h1, h2, h3⟩, by simp⟩, rfl⟩

theorem into_spec {s : TSpace} (h : FewS s) : ∃ m, loopM (fun st : Int × List (Int × List Int) => F_rank_Far_l2 s st.1 st.2) (0, []) = some m ∧ ∀ k, (mget m k).getD [] = froms (s.Edges.filter (cnt s)) k := by
  have hed := h.ed
  refine loop_up s.Edges.length (fun i st => st.1 = (i : Int) ∧ ∀ k, (mget st.2 k).getD [] = froms ((s.Edges.take i).filter (cnt s)) k) _ (fun i st hi hs => ?_) (fun st hs => ?_) (0, []) ⟨rfl, fun k => by simp [froms, mget]⟩
  · obtain ⟨j, m⟩ := st
    obtain ⟨hj, hm⟩ := hs
    simp only at hj hm
    subst hj
    left
    have h1 : (i : Int) < s.Edges.length := by omega
    have ht : s.Edges.take (i + 1) = s.Edges.take i ++ [s.Edges[i]] := List.take_succ_eq_append_getElem hi
    unfold F_rank_Far_l2 F_rank_Far_k1
    simp only [h1, decide_true, cond_true, idx_nat, List.getElem?_eq_getElem hi, Option.bind_some, counts_spec, w64_succ hi h.ok.2.1]
    cases hc : cnt s s.Edges[i] with
    | false =>
      refine ⟨_, rfl, rfl, fun k => ?_⟩
      rw [ht, List.filter_append, List.filter_cons, hc]
      simpa using hm k
    | true =>
      have hlen : (froms ((s.Edges.take i).filter (cnt s)) s.Edges[i].To).length ≤ 200 := by
        unfold froms
        rw [List.length_map]
        refine Nat.le_trans (List.length_filter_le _ _) (Nat.le_trans (List.length_filter_le _ _) ?_)
        rw [List.length_take]; omega
      simp only [cond_true, hm]
      rw [chk_d (show (froms ((s.Edges.take i).filter (cnt s)) s.Edges[i].To).length + ([s.Edges[i].From] : List Int).length ≤ 4294967296 by simp only [List.length_singleton]; omega)]
      refine ⟨_, rfl, rfl, fun k => ?_⟩
      simp only [mget_mset]
      have e : froms ((s.Edges.take (i + 1)).filter (cnt s)) k = froms ((s.Edges.take i).filter (cnt s)) k ++ (if s.Edges[i].To = k then [s.Edges[i].From] else []) := by
        rw [ht, List.filter_append, List.filter_cons, hc]
        unfold froms
        by_cases c : s.Edges[i].To = k <;> simp [c]
      rw [e]
      by_cases c : k = s.Edges[i].To
      · subst c; simp
      · rw [if_neg c, if_neg (fun e => c e.symm), hm k]; simp
  · obtain ⟨j, m⟩ := st
    obtain ⟨hj, hm⟩ := hs
    simp only at hj hm
    subst hj
    refine ⟨m, by simp [F_rank_Far_l2], fun k => ?_⟩
    rw [hm k, List.take_length]

theorem init_spec {s : TSpace} (h : FewS s) : loopM (fun st : Int × List Int => F_rank_Far_l3 s st.1 st.2) (0, List.replicate (s.States.length : Int).toNat 0) = some (List.replicate s.States.length (-1)) := by
  have key : ∃ r, loopM (fun st : Int × List Int => F_rank_Far_l3 s st.1 st.2) (0, List.replicate (s.States.length : Int).toNat 0) = some r ∧ r = List.replicate s.States.length (-1) := by
    refine loop_up s.States.length (fun i st => st = ((i : Int), List.replicate i (-1) ++ List.replicate (s.States.length - i) 0)) _ (fun i st hi hs => ?_) (fun st hs => ?_) _ (by simp)
    · subst hs
      left
      have h1 : (i : Int) < ((List.replicate (s.States.length : Int).toNat (0 : Int)).length : Int) := by simp; omega
      have e : s.States.length - i = (s.States.length - (i + 1)) + 1 := by omega
      have hx : (List.replicate i (-1 : Int) ++ List.replicate (s.States.length - i) (0 : Int))[i]? = some 0 := by
        rw [List.getElem?_append_right (by simp), e]; simp
      refine ⟨(((i + 1 : Nat) : Int), List.replicate (i + 1) (-1) ++ List.replicate (s.States.length - (i + 1)) 0), ?_, rfl⟩
      unfold F_rank_Far_l3
      simp only [h1, decide_true, cond_true, idx_nat, hx, Option.bind_some, w64_succ hi h.ok.1]
      rw [show ((i : Int)).toNat = i from rfl, List.set_append_right _ _ (by simp), e]
      simp [List.replicate_succ' (n := i), List.replicate_succ]
    · subst hs
      refine ⟨_, ?_, rfl⟩
      unfold F_rank_Far_l3
      simp
  obtain ⟨r, h1, h2⟩ := key
  rw [h1, h2]

/-- What holds at each round. -/
structure FInv (s : TSpace) (gs : List Int) (M : Nat) (out : List Int) (w : List Sp) : Prop where
  len : out.length = s.States.length
  lo : ∀ k, -1 ≤ av out k
  hp : Heap fk w w.length
  goal : ∀ g, g ∈ gs → inR s.States.length g → av out g = 0 ∨ Trank_stop.mk g 0 ∈ w
  edge : ∀ u v, (u, v) ∈ es s → inR s.States.length u → inR s.States.length v → 0 ≤ av out v → (0 ≤ av out u ∧ av out u ≤ av out v + 1) ∨ Trank_stop.mk u (av out v + 1) ∈ w
  back : ∀ k, 0 ≤ av out k → (av out k = 0 ∧ k ∈ gs) ∨ ∃ v, (k, v) ∈ es s ∧ inR s.States.length v ∧ 0 ≤ av out v ∧ av out k = av out v + 1
  wt : ∀ x, x ∈ w → inR s.States.length x.state ∧ ((x.far = 0 ∧ x.state ∈ gs) ∨ ∃ v, (x.state, v) ∈ es s ∧ inR s.States.length v ∧ 0 ≤ av out v ∧ x.far = av out v + 1)
  ord : ∀ k x, x ∈ w → av out k ≤ x.far
  bnd : ∀ x, x ∈ w → x.far + ((w.length + ((s.Edges.filter (cnt s)).countP fun e => decide (av out e.To < 0)) : Nat) : Int) ≤ M
  sz : w.length + ((s.Edges.filter (cnt s)).countP fun e => decide (av out e.To < 0)) ≤ M

theorem countP_split {α : Type} {p p' q : α → Bool} : ∀ {l : List α}, (∀ e ∈ l, (p e = true ∧ ((p' e = true ∧ q e = false) ∨ (p' e = false ∧ q e = true))) ∨ (p e = false ∧ p' e = false ∧ q e = false)) → l.countP p = l.countP p' + l.countP q := by
  intro l
  induction l with
  | nil => intro _; rfl
  | cons x l ih =>
    intro h
    have h1 := ih fun e he => h e (List.mem_cons_of_mem _ he)
    rw [List.countP_cons, List.countP_cons, List.countP_cons, h1]
    rcases h x List.mem_cons_self with ⟨a, ⟨b, c⟩ | ⟨b, c⟩⟩ | ⟨a, b, c⟩ <;> simp [a, b, c] <;> omega

theorem inner_spec {m : List (Int × List Int)} {x : Sp} {w0 : List Sp} (r : List Sp) (fr : List Int) (hm : (mget m x.state).getD [] = fr) (hw : Heap fk r r.length) (hb : r.length + fr.length < 1000000) (hx : 0 ≤ x.far ∧ x.far ≤ 1000000) :
    ∃ l, loopM (fun st : Int × List Sp => F_rank_Far_l6 m (x, w0) st.1 st.2) (0, r) = some l ∧ Heap fk l l.length ∧ l.length = r.length + fr.length ∧ ∀ y, y ∈ l ↔ y ∈ r ∨ ∃ u ∈ fr, y = Trank_stop.mk u (x.far + 1) := by
  refine loop_up fr.length (fun i st => st.1 = (i : Int) ∧ Heap fk st.2 st.2.length ∧ st.2.length = r.length + i ∧ ∀ y, y ∈ st.2 ↔ y ∈ r ∨ ∃ u ∈ fr.take i, y = Trank_stop.mk u (x.far + 1)) _ (fun i st hi hs => ?_) (fun st hs => ?_) (0, r) ⟨rfl, hw, rfl, by simp⟩
  · obtain ⟨j, l⟩ := st
    obtain ⟨hj, h1, h2, h3⟩ := hs
    simp only at hj h1 h2 h3
    subst hj
    left
    have hi' : (i : Int) < fr.length := by omega
    obtain ⟨l', p1, p2, p3⟩ := push_spec (Trank_stop.mk fr[i] (x.far + 1)) h1 (by omega)
    unfold F_rank_Far_l6
    simp only [hm, hi', decide_true, cond_true, idx_nat, List.getElem?_eq_getElem hi, Option.bind_some, w64_in (show -9223372036854775808 ≤ x.far + 1 ∧ x.far + 1 ≤ 9223372036854775807 by omega), p1, w64_succ hi (show fr.length ≤ maxLen by unfold maxLen; omega)]
    refine ⟨_, rfl, rfl, p3, by rw [p2.length_eq]; simp; omega, fun y => ?_⟩
    rw [p2.mem_iff, List.mem_cons, h3, List.take_succ_eq_append_getElem hi]
    simp only [List.mem_append, List.mem_singleton]
    constructor
    · rintro (h | h | ⟨u, hu, h⟩)
      · exact .inr ⟨_, .inr rfl, h⟩
      · exact .inl h
      · exact .inr ⟨u, .inl hu, h⟩
    · rintro (h | ⟨u, hu | hu, h⟩)
      · exact .inr (.inl h)
      · exact .inr (.inr ⟨u, hu, h⟩)
      · subst hu; exact .inl h
  · obtain ⟨j, l⟩ := st
    obtain ⟨hj, h1, h2, h3⟩ := hs
    simp only at hj h1 h2 h3
    subst hj
    refine ⟨l, ?_, h1, h2, fun y => by rw [h3, List.take_length]⟩
    unfold F_rank_Far_l6
    simp [hm]

theorem FInv.round {s : TSpace} {gs : List Int} {M : Nat} {m : List (Int × List Int)} (hM : M ≤ 100000) (hm : ∀ k, (mget m k).getD [] = froms (s.Edges.filter (cnt s)) k) {out : List Int} {w : List Sp} (I : FInv s gs M out w) (hw : w ≠ []) :
    ∃ out' w', F_rank_Far_l8 m out w = some (.inl (out', w')) ∧ FInv s gs M out' w' ∧ w'.length + ((s.Edges.filter (cnt s)).countP fun e => decide (av out' e.To < 0)) < w.length + ((s.Edges.filter (cnt s)).countP fun e => decide (av out e.To < 0)) := by
  have hsz := I.sz
  have hpos := List.length_pos_iff.2 hw
  obtain ⟨x, r, p1, p2, p3, p4⟩ := pop_spec I.hp hw (by omega)
  have hxm : x ∈ w := p2.symm.subset List.mem_cons_self
  have hrm : ∀ y ∈ r, y ∈ w := fun y hy => p2.symm.subset (List.mem_cons_of_mem _ hy)
  have hmem : ∀ y, y ∈ w → y = x ∨ y ∈ r := fun y hy => List.mem_cons.1 (p2.subset hy)
  have hlen : w.length = r.length + 1 := by rw [p2.length_eq]; rfl
  obtain ⟨hxr, hxw⟩ := I.wt x hxm
  have hxr' : inR out.length x.state := by rw [I.len]; exact hxr
  have hx0 : 0 ≤ x.far := by
    rcases hxw with ⟨h, _⟩ | ⟨v, _, _, h1, h2⟩ <;> omega
  have hxb := I.bnd x hxm
  have hgo := get_av hxr'
  unfold F_rank_Far_l8 F_rank_stops_Len_v2
  have hwl : (0 : Int) < w.length := by omega
  simp only [Option.bind_some, hwl, decide_true, cond_true, p1, idx_pos hxr.1, hgo]
  by_cases hs : 0 ≤ av out x.state
  · -- it is there already
    refine ⟨out, r, by simp [hs], ?_, by omega⟩
    have hle := I.ord x.state x hxm
    refine { len := I.len, lo := I.lo, hp := p3, goal := fun g hg hr => ?_, edge := fun u v h1 h2 h3 h4 => ?_, back := I.back, wt := fun y hy => I.wt y (hrm y hy), ord := fun k y hy => I.ord k y (hrm y hy), bnd := fun y hy => by have := I.bnd y (hrm y hy); omega, sz := by omega }
    · rcases I.goal g hg hr with h | h
      · exact .inl h
      · rcases hmem _ h with h | h
        · subst h; left; simp only at hs hle; omega
        · exact .inr h
    · rcases I.edge u v h1 h2 h3 h4 with h | h
      · exact .inl h
      · rcases hmem _ h with h | h
        · subst h; left; simp only at hs hle; exact ⟨hs, hle⟩
        · exact .inr h
  · -- it is settled
    have hold : av out x.state = -1 := by have := I.lo x.state; omega
    have hset : ∀ k, av (out.set x.state.toNat x.far) k = if k = x.state then x.far else av out k := av_set x.far hxr'
    have hne : ∀ k, 0 ≤ av out k → k ≠ x.state := fun k hk e => by subst e; omega
    have hcount : (s.Edges.filter (cnt s)).countP (fun e => decide (av out e.To < 0)) = (s.Edges.filter (cnt s)).countP (fun e => decide (av (out.set x.state.toNat x.far) e.To < 0)) + (froms (s.Edges.filter (cnt s)) x.state).length := by
      unfold froms
      rw [List.length_map, ← List.countP_eq_length_filter]
      refine countP_split fun e he => ?_
      rw [hset]
      by_cases c : e.To = x.state
      · left; refine ⟨by rw [c]; simp; omega, .inr ⟨by rw [if_pos c]; simp; omega, by simp [c]⟩⟩
      · rw [if_neg c]
        by_cases c2 : av out e.To < 0
        · left; exact ⟨by simp [c2], .inl ⟨by simp [c2], by simp [c]⟩⟩
        · right; exact ⟨by simp [c2], by simp [c2], by simp [c]⟩
    obtain ⟨l, q1, q2, q3, q4⟩ := inner_spec (m := m) (x := x) (w0 := r) r _ (hm x.state) p3 (by omega) ⟨hx0, by omega⟩
    refine ⟨out.set x.state.toNat x.far, l, by simp only [hs, decide_false, cond_false]; rw [q1]; rfl, ?_, by omega⟩
    have hadd : ∀ u, u ∈ froms (s.Edges.filter (cnt s)) x.state → Trank_stop.mk u (x.far + 1) ∈ l := fun u hu => (q4 _).2 (.inr ⟨u, hu, rfl⟩)
    have hkeep : ∀ y, y ∈ r → y ∈ l := fun y hy => (q4 _).2 (.inl hy)
    have hall : ∀ k, av (out.set x.state.toNat x.far) k ≤ x.far := fun k => by
      rw [hset]; split
      · exact Int.le_refl _
      · exact I.ord k x hxm
    refine { len := by simpa using I.len, lo := fun k => ?_, hp := q2, goal := fun g hg hr => ?_, edge := fun u v h1 h2 h3 h4 => ?_, back := fun k hk => ?_, wt := fun y hy => ?_, ord := fun k y hy => ?_, bnd := fun y hy => ?_, sz := by omega }
    · rw [hset]; split
      · omega
      · exact I.lo k
    · rw [hset]
      by_cases c : g = x.state
      · rw [if_pos c]
        rcases I.goal g hg hr with h | h
        · rw [c] at h; omega
        · have h5 := I.ord x.state _ h
          rcases hmem _ h with h | h
          · rw [← h]; exact .inl rfl
          · have := p4 _ h
            simp only [fk] at this
            left; omega
      · rw [if_neg c]
        rcases I.goal g hg hr with h | h
        · exact .inl h
        · rcases hmem _ h with h | h
          · rw [← h] at c; exact absurd rfl c
          · exact .inr (hkeep _ h)
    · rw [hset, hset]
      rw [hset] at h4
      by_cases cv : v = x.state
      · rw [if_pos cv]
        right
        exact hadd u (mem_froms.2 ⟨cv ▸ h1, h2, hxr⟩)
      · rw [if_neg cv] at h4 ⊢
        rcases I.edge u v h1 h2 h3 h4 with ⟨h5, h6⟩ | h
        · rw [if_neg (hne u h5)]; exact .inl ⟨h5, h6⟩
        · rcases hmem _ h with h | h
          · left
            have e1 : x.state = u := by rw [← h]
            have e2 : x.far = av out v + 1 := by rw [← h]
            rw [if_pos e1.symm]; omega
          · exact .inr (hkeep _ h)
    · rw [hset] at hk ⊢
      by_cases c : k = x.state
      · rw [if_pos c]
        subst c
        rcases hxw with ⟨h1, h2⟩ | ⟨v, h1, h2, h3, h4⟩
        · exact .inl ⟨h1, h2⟩
        · exact .inr ⟨v, h1, h2, by rw [hset, if_neg (hne v h3)]; exact ⟨h3, h4⟩⟩
      · rw [if_neg c] at hk ⊢
        rcases I.back k hk with h | ⟨v, h1, h2, h3, h4⟩
        · exact .inl h
        · exact .inr ⟨v, h1, h2, by rw [hset, if_neg (hne v h3)]; exact ⟨h3, h4⟩⟩
    · rcases (q4 y).1 hy with h | ⟨u, hu, rfl⟩
      · obtain ⟨h1, h2⟩ := I.wt y (hrm y h)
        refine ⟨h1, ?_⟩
        rcases h2 with h | ⟨v, h1, h2, h3, h4⟩
        · exact .inl h
        · exact .inr ⟨v, h1, h2, by rw [hset, if_neg (hne v h3)]; exact ⟨h3, h4⟩⟩
      · obtain ⟨h1, h2, h3⟩ := mem_froms.1 hu
        exact ⟨h2, .inr ⟨x.state, h1, h3, by rw [hset, if_pos rfl]; exact ⟨hx0, rfl⟩⟩⟩
    · have := hall k
      rcases (q4 y).1 hy with h | ⟨u, hu, rfl⟩
      · have := p4 y h; unfold fk at this; omega
      · simp only; omega
    · rcases (q4 y).1 hy with h | ⟨u, hu, rfl⟩
      · have := I.bnd y (hrm y h); omega
      · simp only; omega

theorem far_spec {s : TSpace} {gs : List Int} (h : FewS s) (hg : gs.length ≤ 1000) : ∃ out, F_rank_Far s gs = some out ∧ IsFar s.States.length (es s) gs out := by
  obtain ⟨m, m1, m2⟩ := into_spec h
  have hed := h.ed
  unfold F_rank_Far
  rw [m1]
  simp only [Option.bind_some]
  unfold F_rank_Far_c12
  rw [chk_t (by have := h.st; simp; omega)]
  simp only [Option.bind_some]
  rw [init_spec h]
  simp only [Option.bind_some]
  unfold F_rank_Far_c11
  have hav : ∀ k, av (List.replicate s.States.length (-1)) k = -1 := fun k => by
    by_cases hr : inR (List.replicate s.States.length (-1 : Int)).length k
    · have h1 := get_av hr
      rw [List.getElem?_replicate] at h1
      split at h1
      · exact (Option.some.inj h1).symm
      · cases h1
    · exact av_out hr
  have hcp : ∀ l : List TEdge, l.countP (fun e => decide (av (List.replicate s.States.length (-1)) e.To < 0)) = l.length := fun l => by
    rw [List.countP_eq_length]; intro e _; rw [hav]; rfl
  have hce : (s.Edges.filter (cnt s)).length ≤ s.Edges.length := List.length_filter_le _ _
  have k1 : ∃ w, loopM (fun st : Int × List Sp => F_rank_Far_l5 gs s st.1 st.2) (0, []) = some w ∧ FInv s gs 1200 (List.replicate s.States.length (-1)) w := by
    refine loop_up gs.length (fun i st => st.1 = (i : Int) ∧ Heap fk st.2 st.2.length ∧ st.2.length ≤ i ∧ ∀ y, y ∈ st.2 ↔ ∃ g ∈ gs.take i, inR s.States.length g ∧ y = Trank_stop.mk g 0) _ (fun i st hi hs => ?_) (fun st hs => ?_) (0, []) ⟨rfl, fun i _ h => by simp at h, Nat.le_refl _, by simp⟩
    · obtain ⟨j, l⟩ := st
      obtain ⟨hj, h1, h2, h3⟩ := hs
      simp only at hj h1 h2 h3
      subst hj
      left
      have hi' : (i : Int) < gs.length := by omega
      unfold F_rank_Far_l5 F_rank_Far_k4
      simp only [hi', decide_true, cond_true, idx_nat, List.getElem?_eq_getElem hi, Option.bind_some, in_spec, w64_succ hi (show gs.length ≤ maxLen by unfold maxLen; omega)]
      by_cases c : inR s.States.length gs[i]
      · obtain ⟨l', p1, p2, p3⟩ := push_spec (Trank_stop.mk gs[i] 0) h1 (by omega)
        simp only [c, decide_true, cond_true, p1, Option.bind_some]
        refine ⟨(((i + 1 : Nat) : Int), l'), rfl, rfl, p3, by rw [p2.length_eq]; simp; omega, fun y => ?_⟩
        rw [p2.mem_iff, List.mem_cons, h3, List.take_succ_eq_append_getElem hi]
        simp only [List.mem_append, List.mem_singleton]
        constructor
        · rintro (h | ⟨g, hg, h⟩)
          · exact ⟨_, .inr rfl, c, h⟩
          · exact ⟨g, .inl hg, h⟩
        · rintro ⟨g, hg | hg, h1, h2⟩
          · exact .inr ⟨g, hg, h1, h2⟩
          · subst hg; exact .inl h2
      · simp only [c, decide_false, cond_false]
        refine ⟨(((i + 1 : Nat) : Int), l), rfl, rfl, h1, by simp only; omega, fun y => ?_⟩
        rw [h3, List.take_succ_eq_append_getElem hi]
        simp only [List.mem_append, List.mem_singleton]
        constructor
        · rintro ⟨g, hg, h⟩; exact ⟨g, .inl hg, h⟩
        · rintro ⟨g, hg | hg, h1, h2⟩
          · exact ⟨g, hg, h1, h2⟩
          · subst hg; exact absurd h1 c
    · obtain ⟨j, l⟩ := st
      obtain ⟨hj, h1, h2, h3⟩ := hs
      simp only at hj h1 h2 h3
      subst hj
      rw [List.take_length] at h3
      refine ⟨l, by simp [F_rank_Far_l5], ?_⟩
      have hm : ∀ y, y ∈ l → inR s.States.length y.state ∧ y.state ∈ gs ∧ y.far = 0 := fun y hy => by
        obtain ⟨g, g1, g2, rfl⟩ := (h3 y).1 hy; exact ⟨g2, g1, rfl⟩
      refine { len := by simp, lo := fun k => by rw [hav]; omega, hp := h1, goal := fun g hg hr => .inr ((h3 _).2 ⟨g, hg, hr, rfl⟩), edge := fun u v _ _ _ h => by rw [hav] at h; omega, back := fun k hk => by rw [hav] at hk; omega, wt := fun y hy => ⟨(hm y hy).1, .inl ⟨(hm y hy).2.2, (hm y hy).2.1⟩⟩, ord := fun k y hy => by rw [hav, (hm y hy).2.2]; omega, bnd := fun y hy => ?_, sz := ?_ }
      · rw [(hm y hy).2.2, hcp]; omega
      · rw [hcp]; omega
  obtain ⟨w, w1, w2⟩ := k1
  rw [w1]
  simp only [Option.bind_some]
  unfold F_rank_Far_c10
  have k2 : ∃ r, loopM (fun st : List Int × List Sp => F_rank_Far_l8 m st.1 st.2) (List.replicate s.States.length (-1), w) = some r ∧ IsFar s.States.length (es s) gs r := by
    refine loopM_inv (fun st : List Int × List Sp => FInv s gs 1200 st.1 st.2) (fun st : List Int × List Sp => st.2.length + ((s.Edges.filter (cnt s)).countP fun e => decide (av st.1 e.To < 0))) _ ?_ _ w2
    rintro ⟨out, w⟩ I
    simp only at I
    by_cases hw : w = []
    · right
      subst hw
      refine ⟨out, rfl, { len := I.len, lo := I.lo, goal := fun g h1 h2 => ?_, edge := fun u v h1 h2 h3 h4 => ?_, back := I.back }⟩
      · rcases I.goal g h1 h2 with h | h
        · exact h
        · cases h
      · rcases I.edge u v h1 h2 h3 h4 with h | h
        · exact h
        · cases h
    · left
      obtain ⟨out', w', h1, h2, h3⟩ := I.round (by omega) m2 hw
      exact ⟨(out', w'), h1, h2, h3⟩
  obtain ⟨r, r1, r2⟩ := k2
  exact ⟨r, by rw [r1]; rfl, r2⟩
end Go.Proofs
