/-
  SPACE, PLAIN: SpaceAsks answers true.
-/
import Derived.Test.YtidpjdkldadlpaaGreatSpT
import Derived.Test.YtidpjdkldadlpaaGreatSpW
set_option linter.unusedVariables false
set_option linter.unusedSimpArgs false
set_option linter.unusedSectionVars false
set_option linter.deprecated false
noncomputable section
namespace Go.Proofs
open Go Go.RowKit Go.Vm Go.Rk

set_option maxRecDepth 100000 in
theorem small_true : F_law15_small = some true := by kernel_rfl

def okMd (o : TMode) : Prop := o.Vars.length ≤ maxLen ∧ o.Ins.length ≤ maxLen ∧ o.Outs.length ≤ maxLen
theorem modeSame_spec {o : TMode} (h : okMd o) : F_ref10_Same o o = some true := by
  unfold F_ref10_Same F_ref10_Same_g1 F_ref10_Same_k2
  simp only [beq_self_eq_true, cond_true, ints_spec h.1, ints_spec h.2.1, ints_spec h.2.2, decide_true, Option.bind_some]
theorem lists_spec {p : List TMode} (hp : p.length ≤ 1000) (h : ∀ o ∈ p, okMd o) : F_ref10_Lists p p = some true := by
  unfold F_ref10_Lists
  have h0 : ((p.length : Int) != (p.length : Int)) = false := by simp
  rw [h0, cond_false, loop_eq2 (a := p) (b := p) rfl (fun _ _ => true) ?_ ?_]
  · rw [all2_true (fun _ => rfl)]; rfl
  · intro i x y hi hx hy
    rw [hx] at hy; cases hy
    have h1 : (i : Int) < p.length := by omega
    unfold F_ref10_Lists_l1
    simp only [h1, decide_true, cond_true, idx_nat, hx, Option.bind_some, w64_succ hi (show p.length ≤ maxLen by unfold maxLen; omega), modeSame_spec (h x (List.mem_of_getElem? hx))]
    rfl
  · unfold F_ref10_Lists_l1; simp

theorem pathOf_mem {s : TSpace} {f : List Int} : ∀ (d : Nat) (a : Int), ∀ o ∈ pathOf s f d a, ∃ e ∈ s.Edges, o = e.Mode := by
  intro d
  induction d with
  | zero => intro a o h; simp [pathOf] at h
  | succ d ih =>
    intro a o h
    rw [pathOf] at h
    cases hn : nx s f a with
    | none => rw [hn] at h; simp at h
    | some e =>
      rw [hn] at h
      rcases List.mem_cons.1 h with rfl | h
      · refine ⟨e, ?_, rfl⟩
        unfold nx at hn
        obtain ⟨i, _, hn⟩ := Option.bind_eq_some_iff.1 hn
        obtain ⟨x, _, hn⟩ := Option.bind_eq_some_iff.1 hn
        exact List.mem_of_getElem? hn
      · exact ih e.To o h

theorem asks_true (s : TSpace) (m : Mk) (k : Int) (hs : okSp s) (hm : okM m) (he : ∀ e ∈ s.Edges, okMd e.Mode) : F_law15_SpaceAsks s m k = some true := by
  unfold F_law15_SpaceAsks
  rw [small_true, Option.bind_some]
  by_cases hg : (40 : Int) < s.States.length ∨ (200 : Int) < s.Edges.length ∨ (20 : Int) < m.length
  · have : ((decide ((40 : Int) < (s.States.length : Int))) || ((decide ((200 : Int) < (s.Edges.length : Int))) || (decide ((20 : Int) < (m.length : Int))))) = true := by
      simp only [Bool.or_eq_true, decide_eq_true_eq]; exact hg
    rw [this]; rfl
  · have : ((decide ((40 : Int) < (s.States.length : Int))) || ((decide ((200 : Int) < (s.Edges.length : Int))) || (decide ((20 : Int) < (m.length : Int))))) = false := by
      simp only [Bool.or_eq_false_iff, decide_eq_false_iff_not]; omega
    rw [this, cond_false]
    have h : FewS s := ⟨hs, by omega, by omega⟩
    have hed := h.ed
    obtain ⟨t, t1, t2, t3⟩ := tasks_same h
    obtain ⟨f, hf, p2⟩ := refPath_exact (s := s) (k := k) h
    obtain ⟨p, p1, p3, p4⟩ := path_same (s := s) (k := k) h
    have hp : p = pathOf s f (av f 0).toNat 0 := by rw [p3] at p2; exact Option.some.inj p2
    have hpm : ∀ o ∈ p, okMd o := fun o ho => by
      rw [hp] at ho
      obtain ⟨e, h1, rfl⟩ := pathOf_mem _ _ o ho
      exact he e h1
    have hol := idxs_len (fun e : TEdge => e.From == k) s.Edges 0
    unfold F_law15_SpaceAsks_g1 F_law15_SpaceAsks_k2
    simp only [cond_true, find_spec hs hm, refFind_spec hs hm, beq_self_eq_true, out_spec h, refOut_spec h, Option.bind_some,
      ints_spec (show (idxs (fun e : TEdge => e.From == k) 0 s.Edges).length ≤ maxLen by unfold maxLen; omega), decide_true, t1, t2, ints_spec (show t.length ≤ maxLen by unfold maxLen; omega), p1, p3, lists_spec (show p.length ≤ 1000 by omega) hpm]
end Go.Proofs
