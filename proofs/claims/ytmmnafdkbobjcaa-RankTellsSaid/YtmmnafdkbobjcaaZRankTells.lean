/- RankTells, as it is given: of any net, space, goals and number it answers true, with no condition but what its row asks of all calls. -/
import Derived.Test.YtmmnafdkbobjcaaRkT
import Derived.Test.YtmmnafdkbobjcaaT2
import Derived.Test.YtmmnafdkbobjcaaXVmU
import Derived.Test.YtmmnafdkbobjcaaRows
import Derived.WalkKit
import Derived.ProofKit
import Derived.OpenShut
set_option linter.unusedVariables false
set_option linter.unusedSimpArgs false
set_option linter.unusedSectionVars false
set_option linter.deprecated false
noncomputable section
namespace Go.Proofs.Ytmmnafdkbobjcaa
open Go Go.RowKit Go.Vm Go.ChangeShapes Go.WideShapes Go.ChangeAt
theorem rd_9 {H : Type} {enc : TypeId × Value → H} {w : World} (N : Nat) : Rd enc Try.prog w N 9 row_S (fun x _ => okS x) := (Rd.string (by kernel_rfl)).map id (fun _ => rfl) fun _ _ h => h.1
theorem rd_3 {H : Type} {enc : TypeId × Value → H} {w : World} (N : Nat) : Rd enc Try.prog w N 3 row_I (fun x _ => (okI .i64) x) := (Rd.int (by kernel_rfl)).map id (fun _ => rfl) fun _ _ h => okI_of h
theorem rd_109 {H : Type} {enc : TypeId × Value → H} {w : World} (N : Nat) : Rd enc Try.prog w N 109 row_LS (fun x _ => (okL okS) x) := (Rd.slice (e := 9) (z := 1) (by kernel_rfl) (by kernel_rfl) (by decide) (fun x => okRowB rfl) (rd_9 N)).map id (fun _ => rfl) fun _ _ h => okL_of h
def ok_TColour (x : TColour) : Prop := okS x.Name ∧ (okI .i64) x.Kind ∧ (okI .i64) x.Lo ∧ (okI .i64) x.Hi ∧ (okL okS) x.Names ∧ (okI .i64) x.First ∧ (okI .i64) x.Then
theorem rd_111 {H : Type} {enc : TypeId × Value → H} {w : World} (N : Nat) : Rd enc Try.prog w N 111 row_TColour (fun x _ => ok_TColour x) := by
  have h0 := (Rd.struct (fs := [(9, 0), (3, 1), (3, 2), (3, 3), (109, 4), (3, 5), (3, 6)]) (tot := 7) (N := N) (t := 111) (P := Try.prog) (w := w) (enc := enc) (by kernel_rfl) (RdF.cons 9 0 1 (by kernel_rfl) (rd_9 N) (RdF.cons 3 1 1 (by kernel_rfl) (rd_3 N) (RdF.cons 3 2 1 (by kernel_rfl) (rd_3 N) (RdF.cons 3 3 1 (by kernel_rfl) (rd_3 N) (RdF.cons 109 4 1 (by kernel_rfl) (rd_109 N) (RdF.cons 3 5 1 (by kernel_rfl) (rd_3 N) (RdF.cons 3 6 1 (by kernel_rfl) (rd_3 N) RdF.nil))))))))
  exact (h0.map (fun x => ⟨x.1, x.2.1, x.2.2.1, x.2.2.2.1, x.2.2.2.2.1, x.2.2.2.2.2.1, x.2.2.2.2.2.2.1⟩) (fun _ => rfl) (fun x d h => by obtain ⟨_, rfl, h⟩ := h; obtain ⟨_, _, rfl, a0, h⟩ := h; obtain ⟨_, _, rfl, a1, h⟩ := h; obtain ⟨_, _, rfl, a2, h⟩ := h; obtain ⟨_, _, rfl, a3, h⟩ := h; obtain ⟨_, _, rfl, a4, h⟩ := h; obtain ⟨_, _, rfl, a5, h⟩ := h; obtain ⟨_, _, rfl, a6, h⟩ := h; exact ⟨a0, a1, a2, a3, a4, a5, a6⟩)).mono (Nat.le_succ N)
theorem rd_22 {H : Type} {enc : TypeId × Value → H} {w : World} (N : Nat) : Rd enc Try.prog w N 22 row_LTColour (fun x _ => (okL ok_TColour) x) := (Rd.slice (e := 111) (z := 7) (by kernel_rfl) (by kernel_rfl) (by decide) (fun x => okRowB rfl) (rd_111 N)).map id (fun _ => rfl) fun _ _ h => okL_of h
def ok_A2I (x : (Int × Int)) : Prop := (okI .i64) x.1 ∧ (okI .i64) x.2
theorem rd_54 {H : Type} {enc : TypeId × Value → H} {w : World} (N : Nat) : Rd enc Try.prog w N 54 row_A2I (fun x _ => ok_A2I x) := by
  have h0 := (Rd.array (e := 3) (n := 2) (tot := 2) (fs := [(3, 0), (3, 1)]) (N := N) (t := 54) (P := Try.prog) (w := w) (enc := enc) (by kernel_rfl) (RdF.cons 3 0 1 (by kernel_rfl) (rd_3 N) (RdF.cons 3 1 1 (by kernel_rfl) (rd_3 N) RdF.nil)))
  exact (h0.map (fun x => ⟨x.1, x.2.1⟩) (fun _ => rfl) (fun x d h => by obtain ⟨_, rfl, h⟩ := h; obtain ⟨_, _, rfl, a0, h⟩ := h; obtain ⟨_, _, rfl, a1, h⟩ := h; exact ⟨a0, a1⟩)).mono (Nat.le_succ N)
theorem rd_56 {H : Type} {enc : TypeId × Value → H} {w : World} (N : Nat) : Rd enc Try.prog w N 56 row_LA2I (fun x _ => (okL ok_A2I) x) := (Rd.slice (e := 54) (z := 2) (by kernel_rfl) (by kernel_rfl) (by decide) (fun x => okRowB rfl) (rd_54 N)).map id (fun _ => rfl) fun _ _ h => okL_of h
def ok_TPlace (x : TPlace) : Prop := okS x.Name ∧ (okI .i64) x.Colour ∧ (okL ok_A2I) x.First
theorem rd_79 {H : Type} {enc : TypeId × Value → H} {w : World} (N : Nat) : Rd enc Try.prog w N 79 row_TPlace (fun x _ => ok_TPlace x) := by
  have h0 := (Rd.struct (fs := [(9, 0), (3, 1), (56, 2)]) (tot := 3) (N := N) (t := 79) (P := Try.prog) (w := w) (enc := enc) (by kernel_rfl) (RdF.cons 9 0 1 (by kernel_rfl) (rd_9 N) (RdF.cons 3 1 1 (by kernel_rfl) (rd_3 N) (RdF.cons 56 2 1 (by kernel_rfl) (rd_56 N) RdF.nil))))
  exact (h0.map (fun x => ⟨x.1, x.2.1, x.2.2.1⟩) (fun _ => rfl) (fun x d h => by obtain ⟨_, rfl, h⟩ := h; obtain ⟨_, _, rfl, a0, h⟩ := h; obtain ⟨_, _, rfl, a1, h⟩ := h; obtain ⟨_, _, rfl, a2, h⟩ := h; exact ⟨a0, a1, a2⟩)).mono (Nat.le_succ N)
theorem rd_23 {H : Type} {enc : TypeId × Value → H} {w : World} (N : Nat) : Rd enc Try.prog w N 23 row_LTPlace (fun x _ => (okL ok_TPlace) x) := (Rd.slice (e := 79) (z := 3) (by kernel_rfl) (by kernel_rfl) (by decide) (fun x => okRowB rfl) (rd_79 N)).map id (fun _ => rfl) fun _ _ h => okL_of h
def ok_TVar (x : TVar) : Prop := okS x.Name ∧ (okI .i64) x.Colour
theorem rd_123 {H : Type} {enc : TypeId × Value → H} {w : World} (N : Nat) : Rd enc Try.prog w N 123 row_TVar (fun x _ => ok_TVar x) := by
  have h0 := (Rd.struct (fs := [(9, 0), (3, 1)]) (tot := 2) (N := N) (t := 123) (P := Try.prog) (w := w) (enc := enc) (by kernel_rfl) (RdF.cons 9 0 1 (by kernel_rfl) (rd_9 N) (RdF.cons 3 1 1 (by kernel_rfl) (rd_3 N) RdF.nil)))
  exact (h0.map (fun x => ⟨x.1, x.2.1⟩) (fun _ => rfl) (fun x d h => by obtain ⟨_, rfl, h⟩ := h; obtain ⟨_, _, rfl, a0, h⟩ := h; obtain ⟨_, _, rfl, a1, h⟩ := h; exact ⟨a0, a1⟩)).mono (Nat.le_succ N)
theorem rd_112 {H : Type} {enc : TypeId × Value → H} {w : World} (N : Nat) : Rd enc Try.prog w N 112 row_LTVar (fun x _ => (okL ok_TVar) x) := (Rd.slice (e := 123) (z := 2) (by kernel_rfl) (by kernel_rfl) (by decide) (fun x => okRowB rfl) (rd_123 N)).map id (fun _ => rfl) fun _ _ h => okL_of h
theorem rowx_TExpr (x : TExpr) : row_TExpr x = [.i .i64 x.Kind, .i .i64 x.Num, .sl 3 (rowL_TExpr x.Kids)] := by cases x; rw [row_TExpr]
def ok_TExpr (x : TExpr) : Prop := True
theorem rd_115 {H : Type} {enc : TypeId × Value → H} {w : World} (N : Nat) : Rd enc Try.prog w N 115 row_TExpr (fun x _ => ok_TExpr x) := by
  induction N with
  | zero => exact Rd.zero
  | succ N ih =>
    have h0 := (Rd.struct (fs := [(3, 0), (3, 1), (113, 2)]) (tot := 3) (N := N) (t := 115) (P := Try.prog) (w := w) (enc := enc) (by kernel_rfl) (RdF.cons 3 0 1 (by kernel_rfl) (rd_3 N) (RdF.cons 3 1 1 (by kernel_rfl) (rd_3 N) (RdF.cons 113 2 1 (by kernel_rfl) (Rd.slice (e := 115) (z := 3) (by kernel_rfl) (by kernel_rfl) (by decide) (fun x => okRowB (by cases x; rfl)) ih) RdF.nil))))
    exact h0.map (fun x => ⟨x.1, x.2.1, x.2.2.1⟩) (fun x => by simp only [row_TExpr]; rw [rowL_TExpr_map]; rfl) (fun _ _ _ => trivial)
def ok_TArc (x : TArc) : Prop := (okI .i64) x.Place ∧ ok_TExpr x.Expr
theorem rd_125 {H : Type} {enc : TypeId × Value → H} {w : World} (N : Nat) : Rd enc Try.prog w N 125 row_TArc (fun x _ => ok_TArc x) := by
  have h0 := (Rd.struct (fs := [(3, 0), (115, 1)]) (tot := 4) (N := N) (t := 125) (P := Try.prog) (w := w) (enc := enc) (by kernel_rfl) (RdF.cons 3 0 1 (by kernel_rfl) (rd_3 N) (RdF.cons 115 1 3 (by kernel_rfl) (rd_115 N) RdF.nil)))
  exact (h0.map (fun x => ⟨x.1, x.2.1⟩) (fun x => by rw [rowx_TExpr]; rfl) (fun x d h => by obtain ⟨_, rfl, h⟩ := h; obtain ⟨_, _, rfl, a0, h⟩ := h; obtain ⟨_, _, rfl, a1, h⟩ := h; exact ⟨a0, a1⟩)).mono (Nat.le_succ N)
theorem rd_116 {H : Type} {enc : TypeId × Value → H} {w : World} (N : Nat) : Rd enc Try.prog w N 116 row_LTArc (fun x _ => (okL ok_TArc) x) := (Rd.slice (e := 125) (z := 4) (by kernel_rfl) (by kernel_rfl) (by decide) (fun x => okRowB rfl) (rd_125 N)).map id (fun _ => rfl) fun _ _ h => okL_of h
theorem rd_31 {H : Type} {enc : TypeId × Value → H} {w : World} (N : Nat) : Rd enc Try.prog w N 31 row_LI (fun x _ => (okL (okI .i64)) x) := (Rd.slice (e := 3) (z := 1) (by kernel_rfl) (by kernel_rfl) (by decide) (fun x => okRowB rfl) (rd_3 N)).map id (fun _ => rfl) fun _ _ h => okL_of h
def ok_A3I (x : (Int × Int × Int)) : Prop := (okI .i64) x.1 ∧ (okI .i64) x.2.1 ∧ (okI .i64) x.2.2
theorem rd_117 {H : Type} {enc : TypeId × Value → H} {w : World} (N : Nat) : Rd enc Try.prog w N 117 row_A3I (fun x _ => ok_A3I x) := by
  have h0 := (Rd.array (e := 3) (n := 3) (tot := 3) (fs := [(3, 0), (3, 1), (3, 2)]) (N := N) (t := 117) (P := Try.prog) (w := w) (enc := enc) (by kernel_rfl) (RdF.cons 3 0 1 (by kernel_rfl) (rd_3 N) (RdF.cons 3 1 1 (by kernel_rfl) (rd_3 N) (RdF.cons 3 2 1 (by kernel_rfl) (rd_3 N) RdF.nil))))
  exact (h0.map (fun x => ⟨x.1, x.2.1, x.2.2.1⟩) (fun _ => rfl) (fun x d h => by obtain ⟨_, rfl, h⟩ := h; obtain ⟨_, _, rfl, a0, h⟩ := h; obtain ⟨_, _, rfl, a1, h⟩ := h; obtain ⟨_, _, rfl, a2, h⟩ := h; exact ⟨a0, a1, a2⟩)).mono (Nat.le_succ N)
def ok_TTask (x : TTask) : Prop := okS x.Name ∧ (okL ok_TVar) x.Vars ∧ ok_TExpr x.Guard ∧ (okI .i64) x.Join ∧ (okI .i64) x.Split ∧ (okL ok_TArc) x.Ins ∧ (okL ok_TArc) x.Outs ∧ (okL (okI .i64)) x.Cancel ∧ (okI .i64) x.After ∧ ok_A3I x.Many
theorem rd_119 {H : Type} {enc : TypeId × Value → H} {w : World} (N : Nat) : Rd enc Try.prog w N 119 row_TTask (fun x _ => ok_TTask x) := by
  have h0 := (Rd.struct (fs := [(9, 0), (112, 1), (115, 2), (3, 5), (3, 6), (116, 7), (116, 8), (31, 9), (3, 10), (117, 11)]) (tot := 14) (N := N) (t := 119) (P := Try.prog) (w := w) (enc := enc) (by kernel_rfl) (RdF.cons 9 0 1 (by kernel_rfl) (rd_9 N) (RdF.cons 112 1 1 (by kernel_rfl) (rd_112 N) (RdF.cons 115 2 3 (by kernel_rfl) (rd_115 N) (RdF.cons 3 5 1 (by kernel_rfl) (rd_3 N) (RdF.cons 3 6 1 (by kernel_rfl) (rd_3 N) (RdF.cons 116 7 1 (by kernel_rfl) (rd_116 N) (RdF.cons 116 8 1 (by kernel_rfl) (rd_116 N) (RdF.cons 31 9 1 (by kernel_rfl) (rd_31 N) (RdF.cons 3 10 1 (by kernel_rfl) (rd_3 N) (RdF.cons 117 11 3 (by kernel_rfl) (rd_117 N) RdF.nil)))))))))))
  exact (h0.map (fun x => ⟨x.1, x.2.1, x.2.2.1, x.2.2.2.1, x.2.2.2.2.1, x.2.2.2.2.2.1, x.2.2.2.2.2.2.1, x.2.2.2.2.2.2.2.1, x.2.2.2.2.2.2.2.2.1, x.2.2.2.2.2.2.2.2.2.1⟩) (fun x => by rw [rowx_TExpr]; rfl) (fun x d h => by obtain ⟨_, rfl, h⟩ := h; obtain ⟨_, _, rfl, a0, h⟩ := h; obtain ⟨_, _, rfl, a1, h⟩ := h; obtain ⟨_, _, rfl, a2, h⟩ := h; obtain ⟨_, _, rfl, a3, h⟩ := h; obtain ⟨_, _, rfl, a4, h⟩ := h; obtain ⟨_, _, rfl, a5, h⟩ := h; obtain ⟨_, _, rfl, a6, h⟩ := h; obtain ⟨_, _, rfl, a7, h⟩ := h; obtain ⟨_, _, rfl, a8, h⟩ := h; obtain ⟨_, _, rfl, a9, h⟩ := h; exact ⟨a0, a1, a2, a3, a4, a5, a6, a7, a8, a9⟩)).mono (Nat.le_succ N)
theorem rd_24 {H : Type} {enc : TypeId × Value → H} {w : World} (N : Nat) : Rd enc Try.prog w N 24 row_LTTask (fun x _ => (okL ok_TTask) x) := (Rd.slice (e := 119) (z := 14) (by kernel_rfl) (by kernel_rfl) (by decide) (fun x => okRowB rfl) (rd_119 N)).map id (fun _ => rfl) fun _ _ h => okL_of h
def ok_TNet (x : TNet) : Prop := (okL ok_TColour) x.Colours ∧ (okL ok_TPlace) x.Places ∧ (okL ok_TTask) x.Tasks ∧ (okI .i64) x.From ∧ (okI .i64) x.To
theorem rd_26 {H : Type} {enc : TypeId × Value → H} {w : World} (N : Nat) : Rd enc Try.prog w N 26 row_TNet (fun x _ => ok_TNet x) := by
  have h0 := (Rd.struct (fs := [(22, 0), (23, 1), (24, 2), (3, 3), (3, 4)]) (tot := 5) (N := N) (t := 26) (P := Try.prog) (w := w) (enc := enc) (by kernel_rfl) (RdF.cons 22 0 1 (by kernel_rfl) (rd_22 N) (RdF.cons 23 1 1 (by kernel_rfl) (rd_23 N) (RdF.cons 24 2 1 (by kernel_rfl) (rd_24 N) (RdF.cons 3 3 1 (by kernel_rfl) (rd_3 N) (RdF.cons 3 4 1 (by kernel_rfl) (rd_3 N) RdF.nil))))))
  exact (h0.map (fun x => ⟨x.1, x.2.1, x.2.2.1, x.2.2.2.1, x.2.2.2.2.1⟩) (fun _ => rfl) (fun x d h => by obtain ⟨_, rfl, h⟩ := h; obtain ⟨_, _, rfl, a0, h⟩ := h; obtain ⟨_, _, rfl, a1, h⟩ := h; obtain ⟨_, _, rfl, a2, h⟩ := h; obtain ⟨_, _, rfl, a3, h⟩ := h; obtain ⟨_, _, rfl, a4, h⟩ := h; exact ⟨a0, a1, a2, a3, a4⟩)).mono (Nat.le_succ N)
theorem rd_47 {H : Type} {enc : TypeId × Value → H} {w : World} (N : Nat) : Rd enc Try.prog w N 47 row_LLA2I (fun x _ => (okL (okL ok_A2I)) x) := (Rd.slice (e := 56) (z := 1) (by kernel_rfl) (by kernel_rfl) (by decide) (fun x => okRowB rfl) (rd_56 N)).map id (fun _ => rfl) fun _ _ h => okL_of h
theorem rd_27 {H : Type} {enc : TypeId × Value → H} {w : World} (N : Nat) : Rd enc Try.prog w N 27 row_LLLA2I (fun x _ => (okL (okL (okL ok_A2I))) x) := (Rd.slice (e := 47) (z := 1) (by kernel_rfl) (by kernel_rfl) (by decide) (fun x => okRowB rfl) (rd_47 N)).map id (fun _ => rfl) fun _ _ h => okL_of h
def ok_TMode (x : TMode) : Prop := (okI .i64) x.Task ∧ (okL (okI .i64)) x.Vars ∧ (okL (okI .i64)) x.Ins ∧ (okL (okI .i64)) x.Outs
theorem rd_42 {H : Type} {enc : TypeId × Value → H} {w : World} (N : Nat) : Rd enc Try.prog w N 42 row_TMode (fun x _ => ok_TMode x) := by
  have h0 := (Rd.struct (fs := [(3, 0), (31, 1), (31, 2), (31, 3)]) (tot := 4) (N := N) (t := 42) (P := Try.prog) (w := w) (enc := enc) (by kernel_rfl) (RdF.cons 3 0 1 (by kernel_rfl) (rd_3 N) (RdF.cons 31 1 1 (by kernel_rfl) (rd_31 N) (RdF.cons 31 2 1 (by kernel_rfl) (rd_31 N) (RdF.cons 31 3 1 (by kernel_rfl) (rd_31 N) RdF.nil)))))
  exact (h0.map (fun x => ⟨x.1, x.2.1, x.2.2.1, x.2.2.2.1⟩) (fun _ => rfl) (fun x d h => by obtain ⟨_, rfl, h⟩ := h; obtain ⟨_, _, rfl, a0, h⟩ := h; obtain ⟨_, _, rfl, a1, h⟩ := h; obtain ⟨_, _, rfl, a2, h⟩ := h; obtain ⟨_, _, rfl, a3, h⟩ := h; exact ⟨a0, a1, a2, a3⟩)).mono (Nat.le_succ N)
def ok_TEdge (x : TEdge) : Prop := (okI .i64) x.From ∧ (okI .i64) x.To ∧ ok_TMode x.Mode
theorem rd_44 {H : Type} {enc : TypeId × Value → H} {w : World} (N : Nat) : Rd enc Try.prog w N 44 row_TEdge (fun x _ => ok_TEdge x) := by
  have h0 := (Rd.struct (fs := [(3, 0), (3, 1), (42, 2)]) (tot := 6) (N := N) (t := 44) (P := Try.prog) (w := w) (enc := enc) (by kernel_rfl) (RdF.cons 3 0 1 (by kernel_rfl) (rd_3 N) (RdF.cons 3 1 1 (by kernel_rfl) (rd_3 N) (RdF.cons 42 2 4 (by kernel_rfl) (rd_42 N) RdF.nil))))
  exact (h0.map (fun x => ⟨x.1, x.2.1, x.2.2.1⟩) (fun _ => rfl) (fun x d h => by obtain ⟨_, rfl, h⟩ := h; obtain ⟨_, _, rfl, a0, h⟩ := h; obtain ⟨_, _, rfl, a1, h⟩ := h; obtain ⟨_, _, rfl, a2, h⟩ := h; exact ⟨a0, a1, a2⟩)).mono (Nat.le_succ N)
theorem rd_28 {H : Type} {enc : TypeId × Value → H} {w : World} (N : Nat) : Rd enc Try.prog w N 28 row_LTEdge (fun x _ => (okL ok_TEdge) x) := (Rd.slice (e := 44) (z := 6) (by kernel_rfl) (by kernel_rfl) (by decide) (fun x => okRowB rfl) (rd_44 N)).map id (fun _ => rfl) fun _ _ h => okL_of h
theorem rd_4 {H : Type} {enc : TypeId × Value → H} {w : World} (N : Nat) : Rd enc Try.prog w N 4 row_B (fun x _ => (fun _ => True) x) := (Rd.bool (by kernel_rfl)).map id (fun _ => rfl) fun _ _ _ => trivial
def ok_TSpace (x : TSpace) : Prop := (okL (okL (okL ok_A2I))) x.States ∧ (okL ok_TEdge) x.Edges ∧ (fun _ => True) x.Full
theorem rd_30 {H : Type} {enc : TypeId × Value → H} {w : World} (N : Nat) : Rd enc Try.prog w N 30 row_TSpace (fun x _ => ok_TSpace x) := by
  have h0 := (Rd.struct (fs := [(27, 0), (28, 1), (4, 2)]) (tot := 3) (N := N) (t := 30) (P := Try.prog) (w := w) (enc := enc) (by kernel_rfl) (RdF.cons 27 0 1 (by kernel_rfl) (rd_27 N) (RdF.cons 28 1 1 (by kernel_rfl) (rd_28 N) (RdF.cons 4 2 1 (by kernel_rfl) (rd_4 N) RdF.nil))))
  exact (h0.map (fun x => ⟨x.1, x.2.1, x.2.2.1⟩) (fun _ => rfl) (fun x d h => by obtain ⟨_, rfl, h⟩ := h; obtain ⟨_, _, rfl, a0, h⟩ := h; obtain ⟨_, _, rfl, a1, h⟩ := h; obtain ⟨_, _, rfl, a2, h⟩ := h; exact ⟨a0, a1, a2⟩)).mono (Nat.le_succ N)
namespace LawRankTells
theorem own : ownKnob Try.prog.godebug = none := by kernel_rfl
theorem laidOut : laidOutB Try.prog = true := by kernel_rfl
theorem readable : ∀ t ∈ Try.f3.params.toList, Try.prog.readableRec t = true ∧ t < Try.prog.types.size := by
  have h : (Try.f3.params.toList.all fun t => Try.prog.readableRec t && decide (t < Try.prog.types.size)) = true := by kernel_rfl
  intro t ht
  have := List.all_eq_true.1 h t ht
  rw [Bool.and_eq_true, decide_eq_true_eq] at this
  exact this
set_option maxRecDepth 100000 in
theorem lifted (hF : ∀ (a0 : TNet) (a1 : TSpace) (a2 : (List Int)) (a3 : Int), ok_TNet a0 → ok_TSpace a1 → (okL (okI .i64)) a2 → (okI .i64) a3 → F_law16_RankTells a0 a1 a2 a3 = some true) (os : Os) (started : os.Started) (H : Type) (enc : TypeId × Value → H) :
    ReturnsInHanded {} Try.checked os 3 .any (Rows.rankTellsSpec.pre6 enc Try.prog Try.f3 Rows.rankTellsRow.domain false) (Rows.rankTellsSpec.post enc Try.prog Try.f3 false true false false) := by
  refine returnsInHanded_of_change (C := Try.checked) own started (by kernel_rfl) Try.func3
    (ChangeSpec.witness6 (enc := enc) (C := Try.checked) false ⟨#[], #[.agg #[.slice none 0 0, .slice none 0 0, .slice none 0 0, .int .i64 0, .int .i64 0], .agg #[.slice none 0 0, .slice none 0 0, .bool false], .slice none 0 0, .int .i64 0], []⟩ 8 (by kernel_rfl) (by kernel_rfl) (by kernel_rfl) (by kernel_rfl)) ?_
  intro W base args ds gs before hval0 hW hcnd _
  have hval : ∀ (j : Nat) t v, Try.f3.params[j]? = some t → args[j]? = some v → Value.okWide Try.prog W .any base t v := hval0
  have hW1 := hW
  obtain ⟨p, q, hA0, hV, _, _, _⟩ := hW
  obtain ⟨rfl, _⟩ := trodVars_none hV
  have hA : DataW.TrodAll enc Try.prog W 0 (fun _ => true) true Try.f3.params.toList args.toList ds p := hA0
  rw [Try.params3] at hA hval
  obtain ⟨v0, vs0, d0, ds0, p0, q0, hargs, rfl, _, h0, r0⟩ := trodAll_cons hA
  obtain ⟨v1, vs1, d1, ds1, p1, q1, rfl, rfl, _, h1, r1⟩ := trodAll_cons r0
  obtain ⟨v2, vs2, d2, ds2, p2, q2, rfl, rfl, _, h2, r2⟩ := trodAll_cons r1
  obtain ⟨v3, vs3, d3, ds3, p3, q3, rfl, rfl, _, h3, r3⟩ := trodAll_cons r2
  obtain ⟨rfl, rfl, _⟩ := trodAll_nil r3
  obtain rfl : args = #[v0, v1, v2, v3] := by cases args; simp_all
  obtain ⟨a0, w0, c0⟩ := Rd.open (fun N => rd_26 N) h0
  obtain ⟨_, rfl⟩ := okStruct (P := Try.prog) (t := 26) (fs := [(22, 0), (23, 1), (24, 2), (3, 3), (3, 4)]) (tot := 5) (by kernel_rfl) (hval 0 26 v0 rfl rfl)
  have e0 := c0.argS
  obtain ⟨a1, w1, c1⟩ := Rd.open (fun N => rd_30 N) h1
  obtain ⟨_, rfl⟩ := okStruct (P := Try.prog) (t := 30) (fs := [(27, 0), (28, 1), (4, 2)]) (tot := 3) (by kernel_rfl) (hval 1 30 v1 rfl rfl)
  have e1 := c1.argS
  obtain ⟨a2, w2, c2⟩ := Rd.open (fun N => rd_31 N) h2
  obtain ⟨_, _, _, rfl⟩ := okWide_slice Try.underlying31 (hval 2 31 v2 rfl rfl)
  have e2 := (Cl.arg1 rfl c2)
  obtain ⟨a3, w3, c3⟩ := Rd.open (fun N => rd_3 N) h3
  obtain ⟨_, rfl⟩ := okWide_int Try.underlying3 (hval 3 3 v3 rfl rfl)
  have e3 := (Cl.arg1 rfl c3)
  refine (ACalls.law (us := [.agg (row_TNet a0), .agg (row_TSpace a1), .sl 1 (a2.map row_I), .i .i64 a3]) (F_law16_RankTells_ok a0 a1 a2 a3 (hF a0 a1 a2 a3 w0 w1 w2 w3)) rfl (fun j x v hx hv => ?_)).mono fun e W2 ⟨he, hb⟩ => ?_
  · match j with
    | 0 => cases hx; cases hv; exact e0
    | 1 => cases hx; cases hv; exact e1
    | 2 => cases hx; cases hv; exact e2
    | 3 => cases hx; cases hv; exact e3
    | j + 4 => simp at hx
  · subst he
    exact ⟨_, rfl, law_post laidOut readable hW1 rfl hb rfl Try.underlying4 rfl rfl rfl⟩
theorem proved_of (hF : ∀ (a0 : TNet) (a1 : TSpace) (a2 : (List Int)) (a3 : Int), ok_TNet a0 → ok_TSpace a1 → (okL (okI .i64)) a2 → (okI .i64) a3 → F_law16_RankTells a0 a1 a2 a3 = some true) : Rows.RankTellsSaid :=
  OpenClaim.holds_of_wide 3 Try.f3 rfl rfl rfl rfl rfl rfl rfl ⟨rfl, rfl, rfl, rfl, rfl⟩ rfl rfl rfl rfl rfl (by kernel_rfl) Try.func3 (by kernel_rfl)
    (of_decide_eq_true (by kernel_rfl)) (by unfold Func.isWrapper; first | (rw [if_pos (by decide +kernel)]; kernel_rfl) | (rw [if_neg (by decide +kernel)]; exact ⟨rfl, rfl⟩))
    (fun os started H enc _ => lifted hF os started H enc)
end LawRankTells
theorem okSp_of {s : TSpace} (h : ok_TSpace s) : okSp s := ⟨h.1.1, h.2.1.1, fun m hm => ⟨(h.1.2 m hm).1, fun b hb => ((h.1.2 m hm).2 b hb).1⟩⟩
theorem proved : Rows.RankTellsSaid := LawRankTells.proved_of fun a0 a1 a2 a3 _ h1 _ _ => tells_true a0 a1 a2 a3 (okSp_of h1)
end Go.Proofs.Ytmmnafdkbobjcaa
