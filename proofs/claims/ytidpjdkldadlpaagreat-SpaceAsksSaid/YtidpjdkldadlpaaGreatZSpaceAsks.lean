/- SpaceAsks, as it is given: of any space, marking and number it answers true, with no condition but what its row asks of all calls. -/
import Derived.Test.YtidpjdkldadlpaaGreatSpZ
import Derived.Test.YtidpjdkldadlpaaGreatT3
import Derived.Test.YtidpjdkldadlpaaGreatXVmU
import Derived.Test.YtidpjdkldadlpaaGreatRows
import Derived.WalkKit
import Derived.ProofKit
import Derived.OpenShut
set_option linter.unusedVariables false
set_option linter.unusedSimpArgs false
set_option linter.unusedSectionVars false
set_option linter.deprecated false
noncomputable section
namespace Go.Proofs.YtidpjdkldadlpaaGreat
open Go Go.RowKit Go.Vm Go.ChangeShapes Go.WideShapes Go.ChangeAt
theorem rd_3 {H : Type} {enc : TypeId × Value → H} {w : World} (N : Nat) : Rd enc Tryz.prog w N 3 row_I (fun x _ => (okI .i64) x) := (Rd.int (by kernel_rfl)).map id (fun _ => rfl) fun _ _ h => okI_of h
def ok_A2I (x : (Int × Int)) : Prop := (okI .i64) x.1 ∧ (okI .i64) x.2
theorem rd_45 {H : Type} {enc : TypeId × Value → H} {w : World} (N : Nat) : Rd enc Tryz.prog w N 45 row_A2I (fun x _ => ok_A2I x) := by
  have h0 := (Rd.array (e := 3) (n := 2) (tot := 2) (fs := [(3, 0), (3, 1)]) (N := N) (t := 45) (P := Tryz.prog) (w := w) (enc := enc) (by kernel_rfl) (RdF.cons 3 0 1 (by kernel_rfl) (rd_3 N) (RdF.cons 3 1 1 (by kernel_rfl) (rd_3 N) RdF.nil)))
  exact (h0.map (fun x => ⟨x.1, x.2.1⟩) (fun _ => rfl) (fun x d h => by obtain ⟨_, rfl, h⟩ := h; obtain ⟨_, _, rfl, a0, h⟩ := h; obtain ⟨_, _, rfl, a1, h⟩ := h; exact ⟨a0, a1⟩)).mono (Nat.le_succ N)
theorem rd_47 {H : Type} {enc : TypeId × Value → H} {w : World} (N : Nat) : Rd enc Tryz.prog w N 47 row_LA2I (fun x _ => (okL ok_A2I) x) := (Rd.slice (e := 45) (z := 2) (by kernel_rfl) (by kernel_rfl) (by decide) (fun x => okRowB rfl) (rd_45 N)).map id (fun _ => rfl) fun _ _ h => okL_of h
theorem rd_27 {H : Type} {enc : TypeId × Value → H} {w : World} (N : Nat) : Rd enc Tryz.prog w N 27 row_LLA2I (fun x _ => (okL (okL ok_A2I)) x) := (Rd.slice (e := 47) (z := 1) (by kernel_rfl) (by kernel_rfl) (by decide) (fun x => okRowB rfl) (rd_47 N)).map id (fun _ => rfl) fun _ _ h => okL_of h
theorem rd_22 {H : Type} {enc : TypeId × Value → H} {w : World} (N : Nat) : Rd enc Tryz.prog w N 22 row_LLLA2I (fun x _ => (okL (okL (okL ok_A2I))) x) := (Rd.slice (e := 27) (z := 1) (by kernel_rfl) (by kernel_rfl) (by decide) (fun x => okRowB rfl) (rd_27 N)).map id (fun _ => rfl) fun _ _ h => okL_of h
theorem rd_31 {H : Type} {enc : TypeId × Value → H} {w : World} (N : Nat) : Rd enc Tryz.prog w N 31 row_LI (fun x _ => (okL (okI .i64)) x) := (Rd.slice (e := 3) (z := 1) (by kernel_rfl) (by kernel_rfl) (by decide) (fun x => okRowB rfl) (rd_3 N)).map id (fun _ => rfl) fun _ _ h => okL_of h
def ok_TMode (x : TMode) : Prop := (okI .i64) x.Task ∧ (okL (okI .i64)) x.Vars ∧ (okL (okI .i64)) x.Ins ∧ (okL (okI .i64)) x.Outs
theorem rd_52 {H : Type} {enc : TypeId × Value → H} {w : World} (N : Nat) : Rd enc Tryz.prog w N 52 row_TMode (fun x _ => ok_TMode x) := by
  have h0 := (Rd.struct (fs := [(3, 0), (31, 1), (31, 2), (31, 3)]) (tot := 4) (N := N) (t := 52) (P := Tryz.prog) (w := w) (enc := enc) (by kernel_rfl) (RdF.cons 3 0 1 (by kernel_rfl) (rd_3 N) (RdF.cons 31 1 1 (by kernel_rfl) (rd_31 N) (RdF.cons 31 2 1 (by kernel_rfl) (rd_31 N) (RdF.cons 31 3 1 (by kernel_rfl) (rd_31 N) RdF.nil)))))
  exact (h0.map (fun x => ⟨x.1, x.2.1, x.2.2.1, x.2.2.2.1⟩) (fun _ => rfl) (fun x d h => by obtain ⟨_, rfl, h⟩ := h; obtain ⟨_, _, rfl, a0, h⟩ := h; obtain ⟨_, _, rfl, a1, h⟩ := h; obtain ⟨_, _, rfl, a2, h⟩ := h; obtain ⟨_, _, rfl, a3, h⟩ := h; exact ⟨a0, a1, a2, a3⟩)).mono (Nat.le_succ N)
def ok_TEdge (x : TEdge) : Prop := (okI .i64) x.From ∧ (okI .i64) x.To ∧ ok_TMode x.Mode
theorem rd_54 {H : Type} {enc : TypeId × Value → H} {w : World} (N : Nat) : Rd enc Tryz.prog w N 54 row_TEdge (fun x _ => ok_TEdge x) := by
  have h0 := (Rd.struct (fs := [(3, 0), (3, 1), (52, 2)]) (tot := 6) (N := N) (t := 54) (P := Tryz.prog) (w := w) (enc := enc) (by kernel_rfl) (RdF.cons 3 0 1 (by kernel_rfl) (rd_3 N) (RdF.cons 3 1 1 (by kernel_rfl) (rd_3 N) (RdF.cons 52 2 4 (by kernel_rfl) (rd_52 N) RdF.nil))))
  exact (h0.map (fun x => ⟨x.1, x.2.1, x.2.2.1⟩) (fun _ => rfl) (fun x d h => by obtain ⟨_, rfl, h⟩ := h; obtain ⟨_, _, rfl, a0, h⟩ := h; obtain ⟨_, _, rfl, a1, h⟩ := h; obtain ⟨_, _, rfl, a2, h⟩ := h; exact ⟨a0, a1, a2⟩)).mono (Nat.le_succ N)
theorem rd_23 {H : Type} {enc : TypeId × Value → H} {w : World} (N : Nat) : Rd enc Tryz.prog w N 23 row_LTEdge (fun x _ => (okL ok_TEdge) x) := (Rd.slice (e := 54) (z := 6) (by kernel_rfl) (by kernel_rfl) (by decide) (fun x => okRowB rfl) (rd_54 N)).map id (fun _ => rfl) fun _ _ h => okL_of h
theorem rd_4 {H : Type} {enc : TypeId × Value → H} {w : World} (N : Nat) : Rd enc Tryz.prog w N 4 row_B (fun x _ => (fun _ => True) x) := (Rd.bool (by kernel_rfl)).map id (fun _ => rfl) fun _ _ _ => trivial
def ok_TSpace (x : TSpace) : Prop := (okL (okL (okL ok_A2I))) x.States ∧ (okL ok_TEdge) x.Edges ∧ (fun _ => True) x.Full
theorem rd_25 {H : Type} {enc : TypeId × Value → H} {w : World} (N : Nat) : Rd enc Tryz.prog w N 25 row_TSpace (fun x _ => ok_TSpace x) := by
  have h0 := (Rd.struct (fs := [(22, 0), (23, 1), (4, 2)]) (tot := 3) (N := N) (t := 25) (P := Tryz.prog) (w := w) (enc := enc) (by kernel_rfl) (RdF.cons 22 0 1 (by kernel_rfl) (rd_22 N) (RdF.cons 23 1 1 (by kernel_rfl) (rd_23 N) (RdF.cons 4 2 1 (by kernel_rfl) (rd_4 N) RdF.nil))))
  exact (h0.map (fun x => ⟨x.1, x.2.1, x.2.2.1⟩) (fun _ => rfl) (fun x d h => by obtain ⟨_, rfl, h⟩ := h; obtain ⟨_, _, rfl, a0, h⟩ := h; obtain ⟨_, _, rfl, a1, h⟩ := h; obtain ⟨_, _, rfl, a2, h⟩ := h; exact ⟨a0, a1, a2⟩)).mono (Nat.le_succ N)
namespace LawSpaceAsks
theorem own : ownKnob Tryz.prog.godebug = none := by kernel_rfl
theorem laidOut : laidOutB Tryz.prog = true := by kernel_rfl
theorem readable : ∀ t ∈ Tryz.f3.params.toList, Tryz.prog.readableRec t = true ∧ t < Tryz.prog.types.size := by
  have h : (Tryz.f3.params.toList.all fun t => Tryz.prog.readableRec t && decide (t < Tryz.prog.types.size)) = true := by kernel_rfl
  intro t ht
  have := List.all_eq_true.1 h t ht
  rw [Bool.and_eq_true, decide_eq_true_eq] at this
  exact this
set_option maxRecDepth 100000 in
theorem lifted (hF : ∀ (a0 : TSpace) (a1 : (List (List (Int × Int)))) (a2 : Int), ok_TSpace a0 → (okL (okL ok_A2I)) a1 → (okI .i64) a2 → F_law15_SpaceAsks a0 a1 a2 = some true) (os : Os) (started : os.Started) (H : Type) (enc : TypeId × Value → H) :
    ReturnsInHanded {} Tryz.checked os 3 .any (Rows.spaceAsksSpec.pre6 enc Tryz.prog Tryz.f3 Rows.spaceAsksRow.domain false) (Rows.spaceAsksSpec.post enc Tryz.prog Tryz.f3 false true false false) := by
  refine returnsInHanded_of_change (C := Tryz.checked) own started (by kernel_rfl) Tryz.func3
    (ChangeSpec.witness6 (enc := enc) (C := Tryz.checked) false ⟨#[], #[.agg #[.slice none 0 0, .slice none 0 0, .bool false], .slice none 0 0, .int .i64 0], []⟩ 8 (by kernel_rfl) (by kernel_rfl) (by kernel_rfl) (by kernel_rfl)) ?_
  intro W base args ds gs before hval0 hW hcnd _
  have hval : ∀ (j : Nat) t v, Tryz.f3.params[j]? = some t → args[j]? = some v → Value.okWide Tryz.prog W .any base t v := hval0
  have hW1 := hW
  obtain ⟨p, q, hA0, hV, _, _, _⟩ := hW
  obtain ⟨rfl, _⟩ := trodVars_none hV
  have hA : DataW.TrodAll enc Tryz.prog W 0 (fun _ => true) true Tryz.f3.params.toList args.toList ds p := hA0
  rw [Tryz.params3] at hA hval
  obtain ⟨v0, vs0, d0, ds0, p0, q0, hargs, rfl, _, h0, r0⟩ := trodAll_cons hA
  obtain ⟨v1, vs1, d1, ds1, p1, q1, rfl, rfl, _, h1, r1⟩ := trodAll_cons r0
  obtain ⟨v2, vs2, d2, ds2, p2, q2, rfl, rfl, _, h2, r2⟩ := trodAll_cons r1
  obtain ⟨rfl, rfl, _⟩ := trodAll_nil r2
  obtain rfl : args = #[v0, v1, v2] := by cases args; simp_all
  obtain ⟨a0, w0, c0⟩ := Rd.open (fun N => rd_25 N) h0
  obtain ⟨_, rfl⟩ := okStruct (P := Tryz.prog) (t := 25) (fs := [(22, 0), (23, 1), (4, 2)]) (tot := 3) (by kernel_rfl) (hval 0 25 v0 rfl rfl)
  have e0 := c0.argS
  obtain ⟨a1, w1, c1⟩ := Rd.open (fun N => rd_27 N) h1
  obtain ⟨_, _, _, rfl⟩ := okWide_slice Tryz.underlying27 (hval 1 27 v1 rfl rfl)
  have e1 := (Cl.arg1 rfl c1)
  obtain ⟨a2, w2, c2⟩ := Rd.open (fun N => rd_3 N) h2
  obtain ⟨_, rfl⟩ := okWide_int Tryz.underlying3 (hval 2 3 v2 rfl rfl)
  have e2 := (Cl.arg1 rfl c2)
  refine (ACalls.law (us := [.agg (row_TSpace a0), .sl 1 (a1.map row_LA2I), .i .i64 a2]) (F_law15_SpaceAsks_ok a0 a1 a2 (hF a0 a1 a2 w0 w1 w2)) rfl (fun j x v hx hv => ?_)).mono fun e W2 ⟨he, hb⟩ => ?_
  · match j with
    | 0 => cases hx; cases hv; exact e0
    | 1 => cases hx; cases hv; exact e1
    | 2 => cases hx; cases hv; exact e2
    | j + 3 => simp at hx
  · subst he
    exact ⟨_, rfl, law_post laidOut readable hW1 rfl hb rfl Tryz.underlying4 rfl rfl rfl⟩
theorem proved_of (hF : ∀ (a0 : TSpace) (a1 : (List (List (Int × Int)))) (a2 : Int), ok_TSpace a0 → (okL (okL ok_A2I)) a1 → (okI .i64) a2 → F_law15_SpaceAsks a0 a1 a2 = some true) : Rows.SpaceAsksSaid :=
  OpenClaim.holds_of_wide 3 Tryz.f3 rfl rfl rfl rfl rfl rfl rfl ⟨rfl, rfl, rfl, rfl, rfl⟩ rfl rfl rfl rfl rfl (by kernel_rfl) Tryz.func3 (by kernel_rfl)
    (of_decide_eq_true (by kernel_rfl)) (by unfold Func.isWrapper; first | (rw [if_pos (by decide +kernel)]; kernel_rfl) | (rw [if_neg (by decide +kernel)]; exact ⟨rfl, rfl⟩))
    (fun os started H enc _ => lifted hF os started H enc)
end LawSpaceAsks
theorem proved : Rows.SpaceAsksSaid := LawSpaceAsks.proved_of fun a0 a1 a2 h0 h1 _ => asks_true a0 a1 a2 ⟨h0.1.1, h0.2.1.1, fun m hm => ⟨(h0.1.2 m hm).1, fun b hb => ((h0.1.2 m hm).2 b hb).1⟩⟩ ⟨h1.1, fun b hb => (h1.2 b hb).1⟩ fun e he => ⟨((h0.2.1.2 e he).2.2).2.1.1, ((h0.2.1.2 e he).2.2).2.2.1.1, ((h0.2.1.2 e he).2.2).2.2.2.1⟩
end Go.Proofs.YtidpjdkldadlpaaGreat
