/- RankPaths, as it is given: of any space and number it answers true, with no condition but what its row asks of all calls. -/
import Derived.Test.YtmmnafdkbobjcaaRkP
import Derived.Test.YtmmnafdkbobjcaaT2
import Derived.Test.YtmmnafdkbobjcaaXVmU
import Derived.Test.YtmmnafdkbobjcaaRows
import Derived.WalkKit
import Derived.ProofKit
import Derived.OpenShut
set_option linter.unusedVariables false
set_option linter.unusedSimpArgs false
set_option linter.unusedSectionVars false
set_option linter.deprecated false
noncomputable section
namespace Go.Proofs.Ytmmnafdkbobjcaa
open Go Go.RowKit Go.Vm Go.ChangeShapes Go.WideShapes Go.ChangeAt
theorem rd_3 {H : Type} {enc : TypeId × Value → H} {w : World} (N : Nat) : Rd enc Try.prog w N 3 row_I (fun x _ => (okI .i64) x) := (Rd.int (by kernel_rfl)).map id (fun _ => rfl) fun _ _ h => okI_of h
def ok_A2I (x : (Int × Int)) : Prop := (okI .i64) x.1 ∧ (okI .i64) x.2
theorem rd_54 {H : Type} {enc : TypeId × Value → H} {w : World} (N : Nat) : Rd enc Try.prog w N 54 row_A2I (fun x _ => ok_A2I x) := by
  have h0 := (Rd.array (e := 3) (n := 2) (tot := 2) (fs := [(3, 0), (3, 1)]) (N := N) (t := 54) (P := Try.prog) (w := w) (enc := enc) (by kernel_rfl) (RdF.cons 3 0 1 (by kernel_rfl) (rd_3 N) (RdF.cons 3 1 1 (by kernel_rfl) (rd_3 N) RdF.nil)))
  exact (h0.map (fun x => ⟨x.1, x.2.1⟩) (fun _ => rfl) (fun x d h => by obtain ⟨_, rfl, h⟩ := h; obtain ⟨_, _, rfl, a0, h⟩ := h; obtain ⟨_, _, rfl, a1, h⟩ := h; exact ⟨a0, a1⟩)).mono (Nat.le_succ N)
theorem rd_56 {H : Type} {enc : TypeId × Value → H} {w : World} (N : Nat) : Rd enc Try.prog w N 56 row_LA2I (fun x _ => (okL ok_A2I) x) := (Rd.slice (e := 54) (z := 2) (by kernel_rfl) (by kernel_rfl) (by decide) (fun x => okRowB rfl) (rd_54 N)).map id (fun _ => rfl) fun _ _ h => okL_of h
theorem rd_47 {H : Type} {enc : TypeId × Value → H} {w : World} (N : Nat) : Rd enc Try.prog w N 47 row_LLA2I (fun x _ => (okL (okL ok_A2I)) x) := (Rd.slice (e := 56) (z := 1) (by kernel_rfl) (by kernel_rfl) (by decide) (fun x => okRowB rfl) (rd_56 N)).map id (fun _ => rfl) fun _ _ h => okL_of h
theorem rd_27 {H : Type} {enc : TypeId × Value → H} {w : World} (N : Nat) : Rd enc Try.prog w N 27 row_LLLA2I (fun x _ => (okL (okL (okL ok_A2I))) x) := (Rd.slice (e := 47) (z := 1) (by kernel_rfl) (by kernel_rfl) (by decide) (fun x => okRowB rfl) (rd_47 N)).map id (fun _ => rfl) fun _ _ h => okL_of h
theorem rd_31 {H : Type} {enc : TypeId × Value → H} {w : World} (N : Nat) : Rd enc Try.prog w N 31 row_LI (fun x _ => (okL (okI .i64)) x) := (Rd.slice (e := 3) (z := 1) (by kernel_rfl) (by kernel_rfl) (by decide) (fun x => okRowB rfl) (rd_3 N)).map id (fun _ => rfl) fun _ _ h => okL_of h
def ok_TMode (x : TMode) : Prop := (okI .i64) x.Task ∧ (okL (okI .i64)) x.Vars ∧ (okL (okI .i64)) x.Ins ∧ (okL (okI .i64)) x.Outs
theorem rd_42 {H : Type} {enc : TypeId × Value → H} {w : World} (N : Nat) : Rd enc Try.prog w N 42 row_TMode (fun x _ => ok_TMode x) := by
  have h0 := (Rd.struct (fs := [(3, 0), (31, 1), (31, 2), (31, 3)]) (tot := 4) (N := N) (t := 42) (P := Try.prog) (w := w) (enc := enc) (by kernel_rfl) (RdF.cons 3 0 1 (by kernel_rfl) (rd_3 N) (RdF.cons 31 1 1 (by kernel_rfl) (rd_31 N) (RdF.cons 31 2 1 (by kernel_rfl) (rd_31 N) (RdF.cons 31 3 1 (by kernel_rfl) (rd_31 N) RdF.nil)))))
  exact (h0.map (fun x => ⟨x.1, x.2.1, x.2.2.1, x.2.2.2.1⟩) (fun _ => rfl) (fun x d h => by obtain ⟨_, rfl, h⟩ := h; obtain ⟨_, _, rfl, a0, h⟩ := h; obtain ⟨_, _, rfl, a1, h⟩ := h; obtain ⟨_, _, rfl, a2, h⟩ := h; obtain ⟨_, _, rfl, a3, h⟩ := h; exact ⟨a0, a1, a2, a3⟩)).mono (Nat.le_succ N)
def ok_TEdge (x : TEdge) : Prop := (okI .i64) x.From ∧ (okI .i64) x.To ∧ ok_TMode x.Mode
theorem rd_44 {H : Type} {enc : TypeId × Value → H} {w : World} (N : Nat) : Rd enc Try.prog w N 44 row_TEdge (fun x _ => ok_TEdge x) := by
  have h0 := (Rd.struct (fs := [(3, 0), (3, 1), (42, 2)]) (tot := 6) (N := N) (t := 44) (P := Try.prog) (w := w) (enc := enc) (by kernel_rfl) (RdF.cons 3 0 1 (by kernel_rfl) (rd_3 N) (RdF.cons 3 1 1 (by kernel_rfl) (rd_3 N) (RdF.cons 42 2 4 (by kernel_rfl) (rd_42 N) RdF.nil))))
  exact (h0.map (fun x => ⟨x.1, x.2.1, x.2.2.1⟩) (fun _ => rfl) (fun x d h => by obtain ⟨_, rfl, h⟩ := h; obtain ⟨_, _, rfl, a0, h⟩ := h; obtain ⟨_, _, rfl, a1, h⟩ := h; obtain ⟨_, _, rfl, a2, h⟩ := h; exact ⟨a0, a1, a2⟩)).mono (Nat.le_succ N)
theorem rd_28 {H : Type} {enc : TypeId × Value → H} {w : World} (N : Nat) : Rd enc Try.prog w N 28 row_LTEdge (fun x _ => (okL ok_TEdge) x) := (Rd.slice (e := 44) (z := 6) (by kernel_rfl) (by kernel_rfl) (by decide) (fun x => okRowB rfl) (rd_44 N)).map id (fun _ => rfl) fun _ _ h => okL_of h
theorem rd_4 {H : Type} {enc : TypeId × Value → H} {w : World} (N : Nat) : Rd enc Try.prog w N 4 row_B (fun x _ => (fun _ => True) x) := (Rd.bool (by kernel_rfl)).map id (fun _ => rfl) fun _ _ _ => trivial
def ok_TSpace (x : TSpace) : Prop := (okL (okL (okL ok_A2I))) x.States ∧ (okL ok_TEdge) x.Edges ∧ (fun _ => True) x.Full
theorem rd_30 {H : Type} {enc : TypeId × Value → H} {w : World} (N : Nat) : Rd enc Try.prog w N 30 row_TSpace (fun x _ => ok_TSpace x) := by
  have h0 := (Rd.struct (fs := [(27, 0), (28, 1), (4, 2)]) (tot := 3) (N := N) (t := 30) (P := Try.prog) (w := w) (enc := enc) (by kernel_rfl) (RdF.cons 27 0 1 (by kernel_rfl) (rd_27 N) (RdF.cons 28 1 1 (by kernel_rfl) (rd_28 N) (RdF.cons 4 2 1 (by kernel_rfl) (rd_4 N) RdF.nil))))
  exact (h0.map (fun x => ⟨x.1, x.2.1, x.2.2.1⟩) (fun _ => rfl) (fun x d h => by obtain ⟨_, rfl, h⟩ := h; obtain ⟨_, _, rfl, a0, h⟩ := h; obtain ⟨_, _, rfl, a1, h⟩ := h; obtain ⟨_, _, rfl, a2, h⟩ := h; exact ⟨a0, a1, a2⟩)).mono (Nat.le_succ N)
namespace LawRankPaths
theorem own : ownKnob Try.prog.godebug = none := by kernel_rfl
theorem laidOut : laidOutB Try.prog = true := by kernel_rfl
theorem readable : ∀ t ∈ Try.f7.params.toList, Try.prog.readableRec t = true ∧ t < Try.prog.types.size := by
  have h : (Try.f7.params.toList.all fun t => Try.prog.readableRec t && decide (t < Try.prog.types.size)) = true := by kernel_rfl
  intro t ht
  have := List.all_eq_true.1 h t ht
  rw [Bool.and_eq_true, decide_eq_true_eq] at this
  exact this
set_option maxRecDepth 100000 in
theorem lifted (hF : ∀ (a0 : TSpace) (a1 : Int), ok_TSpace a0 → (okI .i64) a1 → F_law16_RankPaths a0 a1 = some true) (os : Os) (started : os.Started) (H : Type) (enc : TypeId × Value → H) :
    ReturnsInHanded {} Try.checked os 7 .any (Rows.rankPathsSpec.pre6 enc Try.prog Try.f7 Rows.rankPathsRow.domain false) (Rows.rankPathsSpec.post enc Try.prog Try.f7 false true false false) := by
  refine returnsInHanded_of_change (C := Try.checked) own started (by kernel_rfl) Try.func7
    (ChangeSpec.witness6 (enc := enc) (C := Try.checked) false ⟨#[], #[.agg #[.slice none 0 0, .slice none 0 0, .bool false], .int .i64 0], []⟩ 8 (by kernel_rfl) (by kernel_rfl) (by kernel_rfl) (by kernel_rfl)) ?_
  intro W base args ds gs before hval0 hW hcnd _
  have hval : ∀ (j : Nat) t v, Try.f7.params[j]? = some t → args[j]? = some v → Value.okWide Try.prog W .any base t v := hval0
  have hW1 := hW
  obtain ⟨p, q, hA0, hV, _, _, _⟩ := hW
  obtain ⟨rfl, _⟩ := trodVars_none hV
  have hA : DataW.TrodAll enc Try.prog W 0 (fun _ => true) true Try.f7.params.toList args.toList ds p := hA0
  rw [Try.params7] at hA hval
  obtain ⟨v0, vs0, d0, ds0, p0, q0, hargs, rfl, _, h0, r0⟩ := trodAll_cons hA
  obtain ⟨v1, vs1, d1, ds1, p1, q1, rfl, rfl, _, h1, r1⟩ := trodAll_cons r0
  obtain ⟨rfl, rfl, _⟩ := trodAll_nil r1
  obtain rfl : args = #[v0, v1] := by cases args; simp_all
  obtain ⟨a0, w0, c0⟩ := Rd.open (fun N => rd_30 N) h0
  obtain ⟨_, rfl⟩ := okStruct (P := Try.prog) (t := 30) (fs := [(27, 0), (28, 1), (4, 2)]) (tot := 3) (by kernel_rfl) (hval 0 30 v0 rfl rfl)
  have e0 := c0.argS
  obtain ⟨a1, w1, c1⟩ := Rd.open (fun N => rd_3 N) h1
  obtain ⟨_, rfl⟩ := okWide_int Try.underlying3 (hval 1 3 v1 rfl rfl)
  have e1 := (Cl.arg1 rfl c1)
  refine (ACalls.law (us := [.agg (row_TSpace a0), .i .i64 a1]) (F_law16_RankPaths_ok a0 a1 (hF a0 a1 w0 w1)) rfl (fun j x v hx hv => ?_)).mono fun e W2 ⟨he, hb⟩ => ?_
  · match j with
    | 0 => cases hx; cases hv; exact e0
    | 1 => cases hx; cases hv; exact e1
    | j + 2 => simp at hx
  · subst he
    exact ⟨_, rfl, law_post laidOut readable hW1 rfl hb rfl Try.underlying4 rfl rfl rfl⟩
theorem proved_of (hF : ∀ (a0 : TSpace) (a1 : Int), ok_TSpace a0 → (okI .i64) a1 → F_law16_RankPaths a0 a1 = some true) : Rows.RankPathsSaid :=
  OpenClaim.holds_of_wide 7 Try.f7 rfl rfl rfl rfl rfl rfl rfl ⟨rfl, rfl, rfl, rfl, rfl⟩ rfl rfl rfl rfl rfl (by kernel_rfl) Try.func7 (by kernel_rfl)
    (of_decide_eq_true (by kernel_rfl)) (by unfold Func.isWrapper; first | (rw [if_pos (by decide +kernel)]; kernel_rfl) | (rw [if_neg (by decide +kernel)]; exact ⟨rfl, rfl⟩))
    (fun os started H enc _ => lifted hF os started H enc)
end LawRankPaths
theorem okSp_of {s : TSpace} (h : ok_TSpace s) : okSp s := ⟨h.1.1, h.2.1.1, fun m hm => ⟨(h.1.2 m hm).1, fun b hb => ((h.1.2 m hm).2 b hb).1⟩⟩
theorem proved : Rows.RankPathsSaid := LawRankPaths.proved_of fun a0 a1 h0 _ => paths_true a0 a1 (okSp_of h0)
end Go.Proofs.Ytmmnafdkbobjcaa
