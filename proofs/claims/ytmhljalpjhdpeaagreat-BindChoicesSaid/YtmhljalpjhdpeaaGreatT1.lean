/- What functions of the program do, as functions over plain data, and the walks that show it: printed by a program. -/
import Derived.Test.YtmhljalpjhdpeaaGreatXVm2
import Derived.Test.YtmhljalpjhdpeaaGreatProg
set_option linter.unusedVariables false
set_option linter.unusedSimpArgs false
set_option linter.unusedSectionVars false
set_option linter.deprecated false
noncomputable section
namespace Go.Proofs
open Go Go.RowKit Go.Vm
-- types
structure TColour where
  Name : ByteArray
  Kind : Int
  Lo : Int
  Hi : Int
  Names : (List ByteArray)
  First : Int
  Then : Int

structure TPlace where
  Name : ByteArray
  Colour : Int
  First : (List (Int × Int))

structure TVar where
  Name : ByteArray
  Colour : Int

structure TExpr where
  Kind : Int
  Num : Int
  Kids : (List TExpr)

structure TArc where
  Place : Int
  Expr : TExpr

structure TTask where
  Name : ByteArray
  Vars : (List TVar)
  Guard : TExpr
  Join : Int
  Split : Int
  Ins : (List TArc)
  Outs : (List TArc)
  Cancel : (List Int)
  After : Int
  Many : (Int × Int × Int)

structure TNet where
  Colours : (List TColour)
  Places : (List TPlace)
  Tasks : (List TTask)
  From : Int
  To : Int

structure TMode where
  Task : Int
  Vars : (List Int)
  Ins : (List Int)
  Outs : (List Int)

structure Tbind_binder where
  net : TNet
  m : (List (List (Int × Int)))
  task : TTask
  env : (List Int)

structure Tcolour_set where
  all : (List TColour)
  sizes : (List Int)
  k : Int

def row_S (x : ByteArray) : List V := [.s x]
theorem scaRows_S (l : List ByteArray) : ∀ r ∈ l.map row_S, ∀ v ∈ r, v.sca = true := scaRows (fun _ => rfl) l

def row_I (x : Int) : List V := [.i .i64 x]
theorem scaRows_I (l : List Int) : ∀ r ∈ l.map row_I, ∀ v ∈ r, v.sca = true := scaRows (fun _ => rfl) l

def row_LS (x : (List ByteArray)) : List V := [.sl 1 (x.map row_S)]

def row_TColour (x : TColour) : List V := [.s x.Name, .i .i64 x.Kind, .i .i64 x.Lo, .i .i64 x.Hi, .sl 1 (x.Names.map row_S), .i .i64 x.First, .i .i64 x.Then]

def row_LTColour (x : (List TColour)) : List V := [.sl 7 (x.map row_TColour)]

def row_A2I (x : (Int × Int)) : List V := [.i .i64 x.1, .i .i64 x.2]

def row_LA2I (x : (List (Int × Int))) : List V := [.sl 2 (x.map row_A2I)]

def row_TPlace (x : TPlace) : List V := [.s x.Name, .i .i64 x.Colour, .sl 2 (x.First.map row_A2I)]

def row_LTPlace (x : (List TPlace)) : List V := [.sl 3 (x.map row_TPlace)]

def row_TVar (x : TVar) : List V := [.s x.Name, .i .i64 x.Colour]

def row_LTVar (x : (List TVar)) : List V := [.sl 2 (x.map row_TVar)]

mutual
def rowX_TExpr : TExpr → List V
  | ⟨x0, x1, x2⟩ => [.i .i64 x0, .i .i64 x1, .sl 3 (rowL_TExpr x2)]
def rowL_TExpr : List TExpr → List (List V)
  | [] => []
  | e :: es => rowX_TExpr e :: rowL_TExpr es
end
def row_TExpr (x : TExpr) : List V := [.i .i64 x.Kind, .i .i64 x.Num, .sl 3 (rowL_TExpr x.Kids)]
theorem rowX_TExpr_eq : ∀ x : TExpr, rowX_TExpr x = row_TExpr x
  | ⟨x0, x1, x2⟩ => by rw [rowX_TExpr]; rfl
theorem rowL_TExpr_map : ∀ l : List TExpr, rowL_TExpr l = l.map row_TExpr
  | [] => by rw [rowL_TExpr]; rfl
  | e :: es => by rw [rowL_TExpr, rowL_TExpr_map es, rowX_TExpr_eq]; rfl
theorem lenR_TExpr (l : List TExpr) : (rowL_TExpr l).length = l.length := by rw [rowL_TExpr_map, List.length_map]
theorem idxR_TExpr {l : List TExpr} {j : Int} {x : TExpr} (h : idx l j = some x) : 0 ≤ j ∧ (rowL_TExpr l)[j.toNat]? = some (row_TExpr x) := by rw [rowL_TExpr_map]; exact idxM h
theorem getR_TExpr {l : List TExpr} {i : Nat} {x : TExpr} (h : l[i]? = some x) : (rowL_TExpr l)[i]? = some (row_TExpr x) := by rw [rowL_TExpr_map]; exact mapGet h
theorem appR_TExpr (l m : List TExpr) : rowL_TExpr l ++ rowL_TExpr m = rowL_TExpr (l ++ m) := by simp [rowL_TExpr_map]

def row_TArc (x : TArc) : List V := [.i .i64 x.Place, .i .i64 x.Expr.Kind, .i .i64 x.Expr.Num, .sl 3 (rowL_TExpr x.Expr.Kids)]

def row_LTArc (x : (List TArc)) : List V := [.sl 4 (x.map row_TArc)]

def row_LI (x : (List Int)) : List V := [.sl 1 (x.map row_I)]

def row_A3I (x : (Int × Int × Int)) : List V := [.i .i64 x.1, .i .i64 x.2.1, .i .i64 x.2.2]

def row_TTask (x : TTask) : List V := [.s x.Name, .sl 2 (x.Vars.map row_TVar), .i .i64 x.Guard.Kind, .i .i64 x.Guard.Num, .sl 3 (rowL_TExpr x.Guard.Kids), .i .i64 x.Join, .i .i64 x.Split, .sl 4 (x.Ins.map row_TArc), .sl 4 (x.Outs.map row_TArc), .sl 1 (x.Cancel.map row_I), .i .i64 x.After, .i .i64 x.Many.1, .i .i64 x.Many.2.1, .i .i64 x.Many.2.2]

def row_LTTask (x : (List TTask)) : List V := [.sl 14 (x.map row_TTask)]

def row_TNet (x : TNet) : List V := [.sl 7 (x.Colours.map row_TColour), .sl 3 (x.Places.map row_TPlace), .sl 14 (x.Tasks.map row_TTask), .i .i64 x.From, .i .i64 x.To]

def row_LTExpr (x : (List TExpr)) : List V := [.sl 3 (rowL_TExpr x)]

def row_TMode (x : TMode) : List V := [.i .i64 x.Task, .sl 1 (x.Vars.map row_I), .sl 1 (x.Ins.map row_I), .sl 1 (x.Outs.map row_I)]

def row_LLA2I (x : (List (List (Int × Int)))) : List V := [.sl 1 (x.map row_LA2I)]

def row_LLI (x : (List (List Int))) : List V := [.sl 1 (x.map row_LI)]

def row_Tbind_binder (x : Tbind_binder) : List V := [.sl 7 (x.net.Colours.map row_TColour), .sl 3 (x.net.Places.map row_TPlace), .sl 14 (x.net.Tasks.map row_TTask), .i .i64 x.net.From, .i .i64 x.net.To, .sl 1 (x.m.map row_LA2I), .s x.task.Name, .sl 2 (x.task.Vars.map row_TVar), .i .i64 x.task.Guard.Kind, .i .i64 x.task.Guard.Num, .sl 3 (rowL_TExpr x.task.Guard.Kids), .i .i64 x.task.Join, .i .i64 x.task.Split, .sl 4 (x.task.Ins.map row_TArc), .sl 4 (x.task.Outs.map row_TArc), .sl 1 (x.task.Cancel.map row_I), .i .i64 x.task.After, .i .i64 x.task.Many.1, .i .i64 x.task.Many.2.1, .i .i64 x.task.Many.2.2, .sl 1 (x.env.map row_I)]

def row_Tcolour_set (x : Tcolour_set) : List V := [.sl 7 (x.all.map row_TColour), .sl 1 (x.sizes.map row_I), .i .i64 x.k]

def row_LTMode (x : (List TMode)) : List V := [.sl 4 (x.map row_TMode)]

-- facts
noncomputable def LK_100_0 (fn : Nat) : LoopK := rfOf Tryz.f100 0 fn
noncomputable def LK_9_0 (fn : Nat) : LoopK := rfOf Tryz.f9 0 fn
theorem eq_34 (a0 a1 b0 b1 : Int) : EqT Tryz.prog 34 [.int .i64 a0, .int .i64 a1] [.int .i64 b0, .int .i64 b1] ((a0 == b0) && (a1 == b1)) := by
  refine ⟨by kernel_rfl, fun w => ?_⟩
  have u3 := Tryz.underlying3
  have g3 := Tryz.isAgg3
  have z3 := Tryz.sizeOf3
  show (Op.equalIn (9999 + 1) 34 (.agg #[.int .i64 a0, .int .i64 a1]) (.agg #[.int .i64 b0, .int .i64 b1])).run Tryz.prog w = _
  rw [Op.equalIn]
  simp only [Sem.run_bind, run_underlying Tryz.underlying34, Result.andThen_ok]
  simp only [Std.Legacy.Range.forIn_eq_forIn_range', Std.Legacy.Range.size, Nat.sub_zero, Nat.add_sub_cancel, Nat.div_one, List.range'_succ, List.range'_zero, List.forIn_cons, List.forIn_nil]
  go_simp
  by_cases h0 : a0 = b0 <;> by_cases h1 : a1 = b1 <;> simp [h0, h1]
theorem fi_54_1 : fieldT Tryz.prog 54 1 = some (1, false, 1) := by kernel_rfl
theorem fi_54_2 : fieldT Tryz.prog 54 2 = some (2, false, 1) := by kernel_rfl
theorem it_107 : intT Tryz.prog 107 .u64 = true := by kernel_rfl
theorem it_131 : intT Tryz.prog 131 .u64 = true := by kernel_rfl
theorem it_3 : intT Tryz.prog 3 .i64 = true := by kernel_rfl
theorem it_5 : intT Tryz.prog 5 .u8 = true := by kernel_rfl
theorem ky_3 : KeyOf Tryz.prog 3 (V.i .i64) (Value.int .i64) := KeyOf.int (by kernel_rfl)
theorem ky_9 : KeyOf Tryz.prog 9 V.s Value.string := KeyOf.str (by kernel_rfl)
theorem mixed : Tryz.prog.follows .mixedOrders = true := by kernel_rfl
theorem mt_111 : mapT Tryz.prog 111 = some (3, 3) := by kernel_rfl
theorem mt_138 : mapT Tryz.prog 138 = some (9, 4) := by kernel_rfl
theorem un_23 : Tryz.prog.underlying 23 = some (.slice 26) := by kernel_rfl
theorem un_26 : Tryz.prog.underlying 26 = some (.slice 3) := by kernel_rfl
theorem zi_3 : ZeroIs Tryz.prog 3 ((V.i .i64) 0) := ZeroIs.one (v := .int .i64 0) (by kernel_rfl)
theorem zi_4 : ZeroIs Tryz.prog 4 (V.b false) := ZeroIs.one (v := .bool false) (by kernel_rfl)
theorem zv_3 : zeroV Tryz.prog 3 = some [.i .i64 0] := by kernel_rfl
theorem zv_23 : zeroV Tryz.prog 23 = some [.lit (.slice none 0 0)] := by kernel_rfl
theorem zv_26 : zeroV Tryz.prog 26 = some [.lit (.slice none 0 0)] := by kernel_rfl
theorem zv_32 : zeroV Tryz.prog 32 = some [.lit (.slice none 0 0), .lit (.slice none 0 0), .lit (.slice none 0 0), .i .i64 0, .i .i64 0] := by kernel_rfl
theorem zv_34 : zeroV Tryz.prog 34 = some [.i .i64 0, .i .i64 0] := by kernel_rfl
theorem zv_36 : zeroV Tryz.prog 36 = some [.lit (.slice none 0 0)] := by kernel_rfl
theorem zv_39 : zeroV Tryz.prog 39 = some [.lit (.slice none 0 0)] := by kernel_rfl
theorem zv_42 : zeroV Tryz.prog 42 = some [.i .i64 0, .lit (.slice none 0 0), .lit (.slice none 0 0), .lit (.slice none 0 0)] := by kernel_rfl
theorem zv_51 : zeroV Tryz.prog 51 = some [.i .i64 0, .i .i64 0, .lit (.slice none 0 0)] := by kernel_rfl
theorem zv_54 : zeroV Tryz.prog 54 = some [.s (⟨#[]⟩ : ByteArray), .i .i64 0, .i .i64 0, .i .i64 0, .lit (.slice none 0 0), .i .i64 0, .i .i64 0] := by kernel_rfl
theorem zv_56 : zeroV Tryz.prog 56 = some [.s (⟨#[]⟩ : ByteArray), .i .i64 0, .lit (.slice none 0 0)] := by kernel_rfl
theorem zv_58 : zeroV Tryz.prog 58 = some [.s (⟨#[]⟩ : ByteArray), .i .i64 0] := by kernel_rfl
theorem zv_61 : zeroV Tryz.prog 61 = some [.i .i64 0, .i .i64 0, .i .i64 0, .lit (.slice none 0 0)] := by kernel_rfl
theorem zv_65 : zeroV Tryz.prog 65 = some [.s (⟨#[]⟩ : ByteArray), .lit (.slice none 0 0), .i .i64 0, .i .i64 0, .lit (.slice none 0 0), .i .i64 0, .i .i64 0, .lit (.slice none 0 0), .lit (.slice none 0 0), .lit (.slice none 0 0), .i .i64 0, .i .i64 0, .i .i64 0, .i .i64 0] := by kernel_rfl
theorem zv_70 : zeroV Tryz.prog 70 = some [.lit (.slice none 0 0), .lit (.slice none 0 0), .lit (.slice none 0 0), .i .i64 0, .i .i64 0, .lit (.slice none 0 0), .s (⟨#[]⟩ : ByteArray), .lit (.slice none 0 0), .i .i64 0, .i .i64 0, .lit (.slice none 0 0), .i .i64 0, .i .i64 0, .lit (.slice none 0 0), .lit (.slice none 0 0), .lit (.slice none 0 0), .i .i64 0, .i .i64 0, .i .i64 0, .i .i64 0, .lit (.slice none 0 0)] := by kernel_rfl
theorem zv_97 : zeroV Tryz.prog 97 = some [.lit (.slice none 0 0), .lit (.slice none 0 0), .i .i64 0] := by kernel_rfl
def tab : Tab := { ag := [(3, false), (9, false), (23, false), (26, false), (28, false), (29, false), (30, false), (32, true), (34, true), (36, false), (38, false), (39, false), (42, true), (49, false), (51, true), (52, false), (54, true), (58, true), (59, false), (62, false), (65, true), (70, true), (97, true), (111, false)], sz := [(3, 1), (23, 1), (26, 1), (32, 5), (34, 2), (36, 1), (39, 1), (42, 4), (51, 3), (54, 7), (58, 2), (65, 14), (70, 21), (97, 3)], fo := [(32, [0, 1, 2, 3, 4]), (42, [0, 1, 2, 3]), (51, [0, 1, 2]), (54, [0, 1, 2, 3, 4, 5, 6]), (56, [0, 1, 2]), (58, [0, 1]), (61, [0, 1]), (65, [0, 1, 2, 5, 6, 7, 8, 9, 10, 11]), (70, [0, 5, 6, 20]), (97, [0, 1, 2])], sp := [(32, [(0, 1), (1, 1), (2, 1), (3, 1), (4, 1)]), (42, [(0, 1), (1, 1), (2, 1), (3, 1)]), (51, [(0, 1), (1, 1), (2, 1)]), (54, [(0, 1), (1, 1), (2, 1), (3, 1), (4, 1), (5, 1), (6, 1)]), (56, [(0, 1), (1, 1), (2, 1)]), (58, [(0, 1), (1, 1)]), (61, [(0, 1), (1, 3)]), (65, [(0, 1), (1, 1), (2, 3), (5, 1), (6, 1), (7, 1), (8, 1), (9, 1), (10, 1), (11, 3)]), (70, [(0, 5), (5, 1), (6, 14), (20, 1)]), (97, [(0, 1), (1, 1), (2, 1)])], es := [(23, (26, 1, 24)), (26, (3, 1, 8)), (28, (54, 7, 80)), (29, (56, 3, 48)), (30, (65, 14, 200)), (36, (34, 2, 16)), (38, (36, 1, 24)), (39, (42, 4, 80)), (49, (51, 3, 40)), (52, (9, 1, 16)), (59, (58, 2, 24)), (62, (61, 4, 48)), (101, (3, 1, 8))], ar := [(34, (2, 1))], zv := [(3, [.i .i64 0]), (23, [.lit (.slice none 0 0)]), (26, [.lit (.slice none 0 0)]), (32, [.lit (.slice none 0 0), .lit (.slice none 0 0), .lit (.slice none 0 0), .i .i64 0, .i .i64 0]), (34, [.i .i64 0, .i .i64 0]), (36, [.lit (.slice none 0 0)]), (39, [.lit (.slice none 0 0)]), (42, [.i .i64 0, .lit (.slice none 0 0), .lit (.slice none 0 0), .lit (.slice none 0 0)]), (51, [.i .i64 0, .i .i64 0, .lit (.slice none 0 0)]), (54, [.s (⟨#[]⟩ : ByteArray), .i .i64 0, .i .i64 0, .i .i64 0, .lit (.slice none 0 0), .i .i64 0, .i .i64 0]), (56, [.s (⟨#[]⟩ : ByteArray), .i .i64 0, .lit (.slice none 0 0)]), (58, [.s (⟨#[]⟩ : ByteArray), .i .i64 0]), (61, [.i .i64 0, .i .i64 0, .i .i64 0, .lit (.slice none 0 0)]), (65, [.s (⟨#[]⟩ : ByteArray), .lit (.slice none 0 0), .i .i64 0, .i .i64 0, .lit (.slice none 0 0), .i .i64 0, .i .i64 0, .lit (.slice none 0 0), .lit (.slice none 0 0), .lit (.slice none 0 0), .i .i64 0, .i .i64 0, .i .i64 0, .i .i64 0]), (70, [.lit (.slice none 0 0), .lit (.slice none 0 0), .lit (.slice none 0 0), .i .i64 0, .i .i64 0, .lit (.slice none 0 0), .s (⟨#[]⟩ : ByteArray), .lit (.slice none 0 0), .i .i64 0, .i .i64 0, .lit (.slice none 0 0), .i .i64 0, .i .i64 0, .lit (.slice none 0 0), .lit (.slice none 0 0), .lit (.slice none 0 0), .i .i64 0, .i .i64 0, .i .i64 0, .i .i64 0, .lit (.slice none 0 0)]), (97, [.lit (.slice none 0 0), .lit (.slice none 0 0), .i .i64 0])], sb := [9], bo := [4], cc := [], en := [4, 5, 6, 7, 8, 9, 10, 11, 12, 13, 14, 15, 16, 17, 18, 19, 20, 21, 22, 23, 24, 25, 26, 27, 28, 29, 30, 31, 32, 33, 34, 35, 36, 37, 38, 39, 40, 41, 42, 43, 44, 45, 46, 47, 48, 49, 50, 51, 52, 53, 54, 55, 56, 57, 58, 59, 65, 69, 70, 71, 72, 73, 74, 75, 76, 77, 78, 79, 80, 81, 82, 83, 89, 90, 91, 92, 93, 94, 95, 96, 97, 98, 100, 101, 102, 103, 104, 105, 106, 107] }
theorem tab_ok : TabOk Tryz.prog tab := Tab.ok (by kernel_rfl) (List.forall_mem_cons.2 ⟨zv_3, List.forall_mem_cons.2 ⟨zv_23, List.forall_mem_cons.2 ⟨zv_26, List.forall_mem_cons.2 ⟨zv_32, List.forall_mem_cons.2 ⟨zv_34, List.forall_mem_cons.2 ⟨zv_36, List.forall_mem_cons.2 ⟨zv_39, List.forall_mem_cons.2 ⟨zv_42, List.forall_mem_cons.2 ⟨zv_51, List.forall_mem_cons.2 ⟨zv_54, List.forall_mem_cons.2 ⟨zv_56, List.forall_mem_cons.2 ⟨zv_58, List.forall_mem_cons.2 ⟨zv_61, List.forall_mem_cons.2 ⟨zv_65, List.forall_mem_cons.2 ⟨zv_70, List.forall_mem_cons.2 ⟨zv_97, fun _ h => (by cases h)⟩⟩⟩⟩⟩⟩⟩⟩⟩⟩⟩⟩⟩⟩⟩⟩)
-- 8 baldric/baldriclaw10.net
noncomputable def F_law10_net  : Option TNet :=
  some (TNet.mk ([(TColour.mk (⟨#[110]⟩ : ByteArray) 1 0 3 ([] : (List ByteArray)) 0 0)] : List TColour) ([(TPlace.mk (⟨#[97]⟩ : ByteArray) 0 ([] : (List (Int × Int)))), (TPlace.mk (⟨#[98]⟩ : ByteArray) 0 ([] : (List (Int × Int))))] : List TPlace) ([(TTask.mk (⟨#[116]⟩ : ByteArray) ([(TVar.mk (⟨#[120]⟩ : ByteArray) 0)] : List TVar) (TExpr.mk 1 1 ([] : (List TExpr))) 1 1 ([(TArc.mk 0 (TExpr.mk 2 0 ([] : (List TExpr))))] : List TArc) ([(TArc.mk 1 (TExpr.mk 5 1 ([(TExpr.mk 2 0 ([] : (List TExpr))), (TExpr.mk 1 1 ([] : (List TExpr)))] : List TExpr)))] : List TArc) ([] : (List Int)) 0 (0, 0, 0))] : List TTask) 0 1)

set_option maxRecDepth 100000 in
set_option maxHeartbeats 4000000 in
theorem F_law10_net_ok  {r : TNet} (h : F_law10_net  = some r) : ACalls Tryz.prog 8 [] [] (Gives (.agg (row_TNet r)) []) := by
  refine ACalls.walk 27 Tryz.func8 rfl Tryz.ntmps8 rfl fun C hC => ?_
  unfold F_law10_net at h
  refine AK.go tab_ok hC [.n 7, .v .no [none, none, some 3] (.agg (row_TExpr (TExpr.mk 2 0 ([] : (List TExpr))))), .n 2, .sayO 1 (.var (row_TExpr (TExpr.mk 2 0 ([] : (List TExpr))))), .n 4, .v .no [none, none, some 3] (.agg (row_TExpr (TExpr.mk 1 1 ([] : (List TExpr))))), .n 2, .sayO 2 (.var (row_TExpr (TExpr.mk 1 1 ([] : (List TExpr))))), .n 4, .v .no [] (.agg (row_TExpr (TExpr.mk 2 0 ([] : (List TExpr))))), .v .no [] (.agg (row_TExpr (TExpr.mk 1 1 ([] : (List TExpr))))), .v (.bd []) [] (.sl 3 (rowL_TExpr ([(TExpr.mk 2 0 ([] : (List TExpr))), (TExpr.mk 1 1 ([] : (List TExpr)))] : List TExpr))), .v .no [] (.agg (row_TExpr (TExpr.mk 5 1 ([(TExpr.mk 2 0 ([] : (List TExpr))), (TExpr.mk 1 1 ([] : (List TExpr)))] : List TExpr)))), .n 2, .sayO 3 (.var (row_TExpr (TExpr.mk 5 1 ([(TExpr.mk 2 0 ([] : (List TExpr))), (TExpr.mk 1 1 ([] : (List TExpr)))] : List TExpr)))), .n 4, .v .no [none, none, none, none, some 1, none, none] (.agg (row_TColour (TColour.mk (⟨#[110]⟩ : ByteArray) 1 0 3 ([] : (List ByteArray)) 0 0))), .v (.bd []) [] (.sl 7 (([(TColour.mk (⟨#[110]⟩ : ByteArray) 1 0 3 ([] : (List ByteArray)) 0 0)] : List TColour).map row_TColour)), .v .no [none, none, some 2] (.agg (row_TPlace (TPlace.mk (⟨#[97]⟩ : ByteArray) 0 ([] : (List (Int × Int)))))), .v .no [none, none, some 2] (.agg (row_TPlace (TPlace.mk (⟨#[98]⟩ : ByteArray) 0 ([] : (List (Int × Int)))))), .v (.bd []) [] (.sl 3 (([(TPlace.mk (⟨#[97]⟩ : ByteArray) 0 ([] : (List (Int × Int)))), (TPlace.mk (⟨#[98]⟩ : ByteArray) 0 ([] : (List (Int × Int))))] : List TPlace).map row_TPlace)), .v .no [] (.agg (row_TVar (TVar.mk (⟨#[120]⟩ : ByteArray) 0))), .v (.bd []) [] (.sl 2 (([(TVar.mk (⟨#[120]⟩ : ByteArray) 0)] : List TVar).map row_TVar)), .v .no [] (.agg (row_TExpr (TExpr.mk 1 1 ([] : (List TExpr))))), .v .no [] (.agg (row_TExpr (TExpr.mk 2 0 ([] : (List TExpr))))), .v .no [] (.agg (row_TArc (TArc.mk 0 (TExpr.mk 2 0 ([] : (List TExpr)))))), .v (.bd []) [] (.sl 4 (([(TArc.mk 0 (TExpr.mk 2 0 ([] : (List TExpr))))] : List TArc).map row_TArc)), .v .no [] (.agg (row_TExpr (TExpr.mk 5 1 ([(TExpr.mk 2 0 ([] : (List TExpr))), (TExpr.mk 1 1 ([] : (List TExpr)))] : List TExpr)))), .v .no [] (.agg (row_TArc (TArc.mk 1 (TExpr.mk 5 1 ([(TExpr.mk 2 0 ([] : (List TExpr))), (TExpr.mk 1 1 ([] : (List TExpr)))] : List TExpr))))), .v (.bd []) [] (.sl 4 (([(TArc.mk 1 (TExpr.mk 5 1 ([(TExpr.mk 2 0 ([] : (List TExpr))), (TExpr.mk 1 1 ([] : (List TExpr)))] : List TExpr)))] : List TArc).map row_TArc)), .v .no [none, none, none, none, none, none, none, none, none, some 1, none, none, none, none] (.agg (row_TTask (TTask.mk (⟨#[116]⟩ : ByteArray) ([(TVar.mk (⟨#[120]⟩ : ByteArray) 0)] : List TVar) (TExpr.mk 1 1 ([] : (List TExpr))) 1 1 ([(TArc.mk 0 (TExpr.mk 2 0 ([] : (List TExpr))))] : List TArc) ([(TArc.mk 1 (TExpr.mk 5 1 ([(TExpr.mk 2 0 ([] : (List TExpr))), (TExpr.mk 1 1 ([] : (List TExpr)))] : List TExpr)))] : List TArc) ([] : (List Int)) 0 (0, 0, 0)))), .v (.bd []) [] (.sl 14 (([(TTask.mk (⟨#[116]⟩ : ByteArray) ([(TVar.mk (⟨#[120]⟩ : ByteArray) 0)] : List TVar) (TExpr.mk 1 1 ([] : (List TExpr))) 1 1 ([(TArc.mk 0 (TExpr.mk 2 0 ([] : (List TExpr))))] : List TArc) ([(TArc.mk 1 (TExpr.mk 5 1 ([(TExpr.mk 2 0 ([] : (List TExpr))), (TExpr.mk 1 1 ([] : (List TExpr)))] : List TExpr)))] : List TArc) ([] : (List Int)) 0 (0, 0, 0))] : List TTask).map row_TTask)), .v .no [] (.agg (row_TNet (TNet.mk ([(TColour.mk (⟨#[110]⟩ : ByteArray) 1 0 3 ([] : (List ByteArray)) 0 0)] : List TColour) ([(TPlace.mk (⟨#[97]⟩ : ByteArray) 0 ([] : (List (Int × Int)))), (TPlace.mk (⟨#[98]⟩ : ByteArray) 0 ([] : (List (Int × Int))))] : List TPlace) ([(TTask.mk (⟨#[116]⟩ : ByteArray) ([(TVar.mk (⟨#[120]⟩ : ByteArray) 0)] : List TVar) (TExpr.mk 1 1 ([] : (List TExpr))) 1 1 ([(TArc.mk 0 (TExpr.mk 2 0 ([] : (List TExpr))))] : List TArc) ([(TArc.mk 1 (TExpr.mk 5 1 ([(TExpr.mk 2 0 ([] : (List TExpr))), (TExpr.mk 1 1 ([] : (List TExpr)))] : List TExpr)))] : List TArc) ([] : (List Int)) 0 (0, 0, 0))] : List TTask) 0 1))), .n 1, .sayO 0 (.var (row_TNet (TNet.mk ([(TColour.mk (⟨#[110]⟩ : ByteArray) 1 0 3 ([] : (List ByteArray)) 0 0)] : List TColour) ([(TPlace.mk (⟨#[97]⟩ : ByteArray) 0 ([] : (List (Int × Int)))), (TPlace.mk (⟨#[98]⟩ : ByteArray) 0 ([] : (List (Int × Int))))] : List TPlace) ([(TTask.mk (⟨#[116]⟩ : ByteArray) ([(TVar.mk (⟨#[120]⟩ : ByteArray) 0)] : List TVar) (TExpr.mk 1 1 ([] : (List TExpr))) 1 1 ([(TArc.mk 0 (TExpr.mk 2 0 ([] : (List TExpr))))] : List TArc) ([(TArc.mk 1 (TExpr.mk 5 1 ([(TExpr.mk 2 0 ([] : (List TExpr))), (TExpr.mk 1 1 ([] : (List TExpr)))] : List TExpr)))] : List TArc) ([] : (List Int)) 0 (0, 0, 0))] : List TTask) 0 1))), .n 3, .keep [0] [0]] rfl ⟨⟨⟨⟨⟨⟨⟨⟨⟨⟨⟨⟨⟨⟨⟨⟨⟨⟨⟨⟨⟨⟨⟨⟨⟨⟨⟨trivial, rfl⟩, rfl⟩, rfl⟩, rfl⟩, rfl⟩, rfl⟩, rfl⟩, rfl⟩, rfl⟩, rfl⟩, rfl⟩, rfl⟩, rfl⟩, rfl⟩, rfl⟩, rfl⟩, rfl⟩, rfl⟩, rfl⟩, rfl⟩, rfl⟩, rfl⟩, rfl⟩, rfl⟩, rfl⟩, rfl⟩, rfl⟩ ?_
  obtain rfl := Option.some.inj h
  refine AK.done ?_
  exact Exists.intro [_] (And.intro (And.intro (Exists.intro _ (Exists.intro _ (And.intro rfl (And.intro rfl (Or.inl (And.intro (tab_ok.ag rfl) (And.intro (tab_ok.sz rfl) rfl))))))) trivial) (gives trivial))

-- 5 baldric/bind.Choices
noncomputable def F_bind_Choices_k1 (l10 : (List (List Int))) : Option (List (List Int)) :=
  some l10

noncomputable def F_bind_Choices_l2 (arcs2 : Int) (x13 : Int) (l14 : (List Int)) : Option ((Int × (List Int)) ⊕ (List Int)) :=
  bif (decide (x13 < arcs2)) then
  (chk (decide (l14.length + ([x13] : List Int).length ≤ 4294967296))).bind fun _ =>
  some (.inl ((w64 (x13 + 1)), (l14 ++ ([x13] : List Int))))
  else
  some (.inr l14)

noncomputable def F_bind_Choices_c3 (l17 : (List Int)) : Option (List (List Int)) :=
  some ([l17] : List (List Int))

noncomputable def F_bind_Choices_l4 (arcs2 : Int) (x23 : Int) (l24 : (List (List Int))) : Option ((Int × (List (List Int))) ⊕ (List (List Int))) :=
  bif (decide (x23 < arcs2)) then
  (chk (decide (l24.length + ([([x23] : List Int)] : List (List Int)).length ≤ 4294967296))).bind fun _ =>
  some (.inl ((w64 (x23 + 1)), (l24 ++ ([([x23] : List Int)] : List (List Int)))))
  else
  some (.inr l24)

noncomputable def F_bind_Choices_c5 (l27 : (List (List Int))) : Option (List (List Int)) :=
  F_bind_Choices_k1 l27

noncomputable def F_bind_Choices_k6 (x41 : Int) (l47 : (List Int)) : Option ((Int × (List Int)) ⊕ (List Int)) :=
  some (.inl ((w64 (x41 + 1)), l47))

noncomputable def F_bind_Choices_l7 (arcs2 : Int) (set_33 : Int) (x41 : Int) (l42 : (List Int)) : Option ((Int × (List Int)) ⊕ (List Int)) :=
  bif (decide (x41 < arcs2)) then
  (chk (decide (0 ≤ x41))).bind fun _ =>
  bif ((andI .i64 (shrI .i64 set_33 x41) 1) == 1) then
  (chk (decide (l42.length + ([x41] : List Int).length ≤ 4294967296))).bind fun _ =>
  F_bind_Choices_k6 x41 (l42 ++ ([x41] : List Int))
  else
  F_bind_Choices_k6 x41 l42
  else
  some (.inr l42)

noncomputable def F_bind_Choices_c8 (l34 : (List (List Int))) (set_33 : Int) (l45 : (List Int)) : Option ((Int × (List (List Int))) ⊕ (List (List Int))) :=
  (chk (decide (l34.length + ([l45] : List (List Int)).length ≤ 4294967296))).bind fun _ =>
  some (.inl ((w64 (set_33 + 1)), (l34 ++ ([l45] : List (List Int)))))

noncomputable def F_bind_Choices_l9 (arcs2 : Int) (set_33 : Int) (l34 : (List (List Int))) : Option ((Int × (List (List Int))) ⊕ (List (List Int))) :=
  (chk (decide (0 ≤ arcs2))).bind fun _ =>
  bif (decide (set_33 < (shlI .i64 1 arcs2))) then
  (loopM (fun st => F_bind_Choices_l7 arcs2 set_33 st.1 st.2) (0, ([] : List Int))).bind (fun q => F_bind_Choices_c8 l34 set_33 q)
  else
  some (.inr l34)

noncomputable def F_bind_Choices_c10 (l37 : (List (List Int))) : Option (List (List Int)) :=
  F_bind_Choices_k1 l37

noncomputable def F_bind_Choices (kind1 : Int) (arcs2 : Int) : Option (List (List Int)) :=
  bif ((decide (arcs2 < 0)) || ((decide (16 < arcs2)) || ((kind1 == 3) && (decide (4 < arcs2))))) then
  some ([] : List (List Int))
  else
  bif (kind1 == 1) then
  (loopM (fun st => F_bind_Choices_l2 arcs2 st.1 st.2) (0, ([] : List Int))).bind (fun q => F_bind_Choices_c3 q)
  else
  bif (kind1 == 2) then
  (loopM (fun st => F_bind_Choices_l4 arcs2 st.1 st.2) (0, ([] : List (List Int)))).bind (fun q => F_bind_Choices_c5 q)
  else
  bif (kind1 == 3) then
  (loopM (fun st => F_bind_Choices_l9 arcs2 st.1 st.2) (1, ([] : List (List Int)))).bind (fun q => F_bind_Choices_c10 q)
  else
  F_bind_Choices_k1 ([] : List (List Int))

set_option maxRecDepth 100000 in
set_option maxHeartbeats 4000000 in
theorem F_bind_Choices_ok (kind1 : Int) (arcs2 : Int) {r : (List (List Int))} (h : F_bind_Choices kind1 arcs2 = some r) : ACalls Tryz.prog 5 [.i .i64 kind1, .i .i64 arcs2] [] (Gives (.own 30000 r.length) [(30000, .arr 1 (r.map row_LI))]) := by
  refine ACalls.walk 79 Tryz.func5 rfl Tryz.ntmps5 rfl fun C hC => ?_
  unfold F_bind_Choices at h
  refine AK.go tab_ok hC [.n 7] rfl trivial ?_
  refine AK.meetX (fun σ => σ = ⟨[(0, .i .i64 kind1), (1, .i .i64 arcs2), (25, .b ((decide (arcs2 < 0)) || ((decide (16 < arcs2)) || ((kind1 == 3) && (decide (4 < arcs2))))))], []⟩) ?_ ?_
  · refine AK.go tab_ok hC [.n 4] rfl trivial ?_
    rcases boolOr (decide (arcs2 < 0)) with hc6 | hc6
    · refine AK.go tab_ok hC [.say 14 (.b true), .n 12, .say 25 (.b ((decide (arcs2 < 0)) || ((decide (16 < arcs2)) || ((kind1 == 3) && (decide (4 < arcs2)))))), .keep [0, 1, 25] []] rfl ⟨⟨trivial, (congrArg V.b hc6)⟩, (congrArg V.b (orT hc6 rfl))⟩ ?_
      exact AK.met rfl
    · refine AK.go tab_ok hC [.say 14 (.b false), .n 4] rfl ⟨trivial, (congrArg V.b hc6)⟩ ?_
      rcases boolOr (decide (16 < arcs2)) with hc7 | hc7
      · refine AK.go tab_ok hC [.say 18 (.b true), .n 8, .say 25 (.b ((decide (arcs2 < 0)) || ((decide (16 < arcs2)) || ((kind1 == 3) && (decide (4 < arcs2)))))), .keep [0, 1, 25] []] rfl ⟨⟨trivial, (congrArg V.b hc7)⟩, (congrArg V.b (orF hc6 (orT hc7 rfl)))⟩ ?_
        exact AK.met rfl
      · refine AK.go tab_ok hC [.say 18 (.b false), .n 3] rfl ⟨trivial, (congrArg V.b hc7)⟩ ?_
        rcases boolOr (kind1 == 3) with hc8 | hc8
        · refine AK.go tab_ok hC [.say 21 (.b true), .n 5, .say 25 (.b ((decide (arcs2 < 0)) || ((decide (16 < arcs2)) || ((kind1 == 3) && (decide (4 < arcs2)))))), .keep [0, 1, 25] []] rfl ⟨⟨trivial, (congrArg V.b hc8)⟩, (congrArg V.b (orF hc6 (orF hc7 (andT hc8 rfl))))⟩ ?_
          exact AK.met rfl
        · refine AK.go tab_ok hC [.say 21 (.b false), .n 5, .say 25 (.b ((decide (arcs2 < 0)) || ((decide (16 < arcs2)) || ((kind1 == 3) && (decide (4 < arcs2)))))), .keep [0, 1, 25] []] rfl ⟨⟨trivial, (congrArg V.b hc8)⟩, (congrArg V.b (orF hc6 (orF hc7 (andF hc8 rfl))))⟩ ?_
          exact AK.met rfl
  · rintro σ rfl
    refine AK.go tab_ok hC [.n 1] rfl trivial ?_
    rcases bifE h with ⟨hc9, h⟩ | ⟨hc9, h⟩
    · refine AK.go tab_ok hC [.br true, .n 7, .adopt 4 30000 1, .sayO 30000 (.arr 1 (([] : List (List Int)).map row_LI)), .say 4 (.own 30000 ([] : List (List Int)).length), .keep [4] [30000]] rfl ⟨⟨⟨trivial, hc9⟩, rfl⟩, rfl⟩ ?_
      obtain rfl := Option.some.inj h
      refine AK.done ?_
      exact Exists.intro [_] (And.intro (And.intro rfl trivial) (gives ⟨rfl, trivial⟩))
    · refine AK.go tab_ok hC [.br false, .n 7] rfl ⟨trivial, hc9⟩ ?_
      refine AK.meet (fun σ => ∃ l10 : (List (List Int)), σ = ⟨[(5, .own 40005 l10.length)], [(40005, .arr 1 (l10.map row_LI))]⟩ ∧ F_bind_Choices_k1 l10 = some r) ?_ ?_
      · refine AK.go tab_ok hC [.n 12] rfl trivial ?_
        rcases bifE h with ⟨hc11, h⟩ | ⟨hc11, h⟩
        · refine AK.go tab_ok hC [.br true, .n 13, .adopt 6 33 1, .sayO 33 (.arr 1 (([] : List Int).map row_I)), .say 6 (.own 33 ([] : List Int).length), .keep [6, 29, 30] [33]] rfl ⟨⟨⟨trivial, hc11⟩, rfl⟩, (congrArg (fun n => V.own 33 n) (by simp))⟩ ?_
          obtain ⟨l17, hl20, h⟩ := bindE h
          refine AK.loop (body := (fun st => F_bind_Choices_l2 arcs2 st.1 st.2)) (fun st σ => σ = ⟨[(6, .own 33 st.2.length), (29, .i .i64 arcs2), (30, .i .i64 st.1)], [(33, .arr 1 (st.2.map row_I))]⟩) (fun q e σ => e = .exit 1 ∧ σ = ⟨[(6, .own 33 q.length)], [(33, .arr 1 (q.map row_I))]⟩) hl20 rfl ?_ ?_
          · rintro ⟨x13, l14⟩ o σ rfl h
            replace h : F_bind_Choices_l2 arcs2 x13 l14 = some o := h
            unfold F_bind_Choices_l2 at h
            refine AK.go tab_ok hC [.n 6] rfl trivial ?_
            rcases bifE h with ⟨hc18, h⟩ | ⟨hc18, h⟩
            · obtain ⟨_, hk19, h⟩ := bindE h
              replace hk19 := chkE hk19
              refine AK.go tab_ok hC [.br true, .n 13, .v (.bd []) [] (.sl 1 (([x13] : List Int).map row_I)), .app ((l14 ++ ([x13] : List Int)).map row_I) (l14 ++ ([x13] : List Int)).length, .n 8, .keep [6, 29, 30] [33]] rfl ⟨⟨⟨trivial, hc18⟩, rfl⟩, ⟨mapLen, appLim hk19 mapLen, mapApps, appLn mapLen⟩⟩ ?_
              obtain rfl := Option.some.inj h
              exact rndN rfl rfl
            · refine AK.go tab_ok hC [.br false, .n 2, .keep [6] [33]] rfl ⟨trivial, hc18⟩ ?_
              obtain rfl := Option.some.inj h
              exact rndX rfl (And.intro rfl rfl)
          · replace h : F_bind_Choices_c3 l17 = some r := h
            unfold F_bind_Choices_c3 at h
            rintro e σ ⟨rfl, rfl⟩
            refine AK.go tab_ok hC [.n 5, .frz 33 (l17.map row_I) [6, 38] [], .n 1, .sayO 39 (.arr 1 (([l17] : List (List Int)).map row_LI)), .say 39 (.own 39 ([l17] : List (List Int)).length), .n 6, .keep [4] [39], .ren 39 30000, .keep [4] [30000]] rfl ⟨⟨⟨trivial, ⟨⟨trivial, (frzL mapLen)⟩, (frzL mapLen)⟩⟩, rfl⟩, rfl⟩ ?_
            obtain rfl := Option.some.inj h
            refine AK.done ?_
            exact Exists.intro [_] (And.intro (And.intro rfl trivial) (gives ⟨rfl, trivial⟩))
        · refine AK.go tab_ok hC [.br false, .n 6] rfl ⟨trivial, hc11⟩ ?_
          rcases bifE h with ⟨hc21, h⟩ | ⟨hc21, h⟩
          · refine AK.go tab_ok hC [.br true, .n 7, .adopt 5 46 1, .sayO 46 (.arr 1 (([] : List (List Int)).map row_LI)), .say 5 (.own 46 ([] : List (List Int)).length), .keep [5, 42, 43] [46]] rfl ⟨⟨⟨trivial, hc21⟩, rfl⟩, (congrArg (fun n => V.own 46 n) (by simp))⟩ ?_
            obtain ⟨l27, hl30, h⟩ := bindE h
            refine AK.loop (body := (fun st => F_bind_Choices_l4 arcs2 st.1 st.2)) (fun st σ => σ = ⟨[(5, .own 46 st.2.length), (42, .i .i64 arcs2), (43, .i .i64 st.1)], [(46, .arr 1 (st.2.map row_LI))]⟩) (fun q e σ => e = .exit 3 ∧ σ = ⟨[(5, .own 46 q.length)], [(46, .arr 1 (q.map row_LI))]⟩) hl30 rfl ?_ ?_
            · rintro ⟨x23, l24⟩ o σ rfl h
              replace h : F_bind_Choices_l4 arcs2 x23 l24 = some o := h
              unfold F_bind_Choices_l4 at h
              refine AK.go tab_ok hC [.n 6] rfl trivial ?_
              rcases bifE h with ⟨hc28, h⟩ | ⟨hc28, h⟩
              · obtain ⟨_, hk29, h⟩ := bindE h
                replace hk29 := chkE hk29
                refine AK.go tab_ok hC [.br true, .n 13, .v (.bd []) [] (.sl 1 (([x23] : List Int).map row_I)), .v (.bd []) [] (.sl 1 (([([x23] : List Int)] : List (List Int)).map row_LI)), .app ((l24 ++ ([([x23] : List Int)] : List (List Int))).map row_LI) (l24 ++ ([([x23] : List Int)] : List (List Int))).length, .n 8, .keep [5, 42, 43] [46]] rfl ⟨⟨⟨⟨trivial, hc28⟩, rfl⟩, rfl⟩, ⟨mapLen, appLim hk29 mapLen, mapApps, appLn mapLen⟩⟩ ?_
                obtain rfl := Option.some.inj h
                exact rndN rfl rfl
              · refine AK.go tab_ok hC [.br false, .n 2, .keep [5] [46]] rfl ⟨trivial, hc28⟩ ?_
                obtain rfl := Option.some.inj h
                exact rndX rfl (And.intro rfl rfl)
            · replace h : F_bind_Choices_c5 l27 = some r := h
              unfold F_bind_Choices_c5 at h
              rintro e σ ⟨rfl, rfl⟩
              refine AK.go tab_ok hC [.n 2, .ren 46 40005, .keep [5] [40005]] rfl trivial ?_
              exact AK.met (Exists.intro _ (And.intro rfl h))
          · refine AK.go tab_ok hC [.br false, .n 6] rfl ⟨trivial, hc21⟩ ?_
            rcases bifE h with ⟨hc31, h⟩ | ⟨hc31, h⟩
            · refine AK.go tab_ok hC [.br true, .n 6, .adopt 5 74 1, .sayO 74 (.arr 1 (([] : List (List Int)).map row_LI)), .say 5 (.own 74 ([] : List (List Int)).length), .keep [1, 5, 9] [74]] rfl ⟨⟨⟨trivial, hc31⟩, rfl⟩, (congrArg (fun n => V.own 74 n) (by simp))⟩ ?_
              obtain ⟨l37, hl53, h⟩ := bindE h
              refine AK.loop (body := (fun st => F_bind_Choices_l9 arcs2 st.1 st.2)) (fun st σ => σ = ⟨[(1, .i .i64 arcs2), (5, .own 74 st.2.length), (9, .i .i64 st.1)], [(74, .arr 1 (st.2.map row_LI))]⟩) (fun q e σ => e = .exit 5 ∧ σ = ⟨[(5, .own 74 q.length)], [(74, .arr 1 (q.map row_LI))]⟩) hl53 rfl ?_ ?_
              · rintro ⟨set_33, l34⟩ o σ rfl h
                replace h : F_bind_Choices_l9 arcs2 set_33 l34 = some o := h
                unfold F_bind_Choices_l9 at h
                obtain ⟨_, hk38, h⟩ := bindE h
                replace hk38 := chkE hk38
                refine AK.go tab_ok hC [.n 5, .o (.any (.i .i64 (shlI .i64 1 arcs2)) none), .n 3] rfl ⟨trivial, (fun σ h1 h2 _ => Stp.shl rfl rfl (hC ▸ rfl) (h1 _ _ rfl) (h1 _ _ rfl) (of_decide_eq_true hk38))⟩ ?_
                rcases bifE h with ⟨hc39, h⟩ | ⟨hc39, h⟩
                · refine AK.go tab_ok hC [.br true, .n 17, .adopt 10 69 1, .sayO 69 (.arr 1 (([] : List Int).map row_I)), .say 10 (.own 69 ([] : List Int).length), .keep [1, 5, 9, 10, 60, 61] [69, 74]] rfl ⟨⟨⟨trivial, hc39⟩, rfl⟩, (congrArg (fun n => V.own 69 n) (by simp))⟩ ?_
                  obtain ⟨l45, hl51, h⟩ := bindE h
                  refine AK.loop (body := (fun st => F_bind_Choices_l7 arcs2 set_33 st.1 st.2)) (fun st σ => σ = ⟨[(1, .i .i64 arcs2), (5, .own 74 l34.length), (9, .i .i64 set_33), (10, .own 69 st.2.length), (60, .i .i64 arcs2), (61, .i .i64 st.1)], [(69, .arr 1 (st.2.map row_I)), (74, .arr 1 (l34.map row_LI))]⟩) (fun q e σ => e = .exit 7 ∧ σ = ⟨[(1, .i .i64 arcs2), (5, .own 74 l34.length), (9, .i .i64 set_33), (10, .own 69 q.length)], [(69, .arr 1 (q.map row_I)), (74, .arr 1 (l34.map row_LI))]⟩) hl51 rfl ?_ ?_
                  · rintro ⟨x41, l42⟩ o σ rfl h
                    replace h : F_bind_Choices_l7 arcs2 set_33 x41 l42 = some o := h
                    unfold F_bind_Choices_l7 at h
                    refine AK.go tab_ok hC [.n 6] rfl trivial ?_
                    rcases bifE h with ⟨hc46, h⟩ | ⟨hc46, h⟩
                    · refine AK.go tab_ok hC [.br true, .n 2] rfl ⟨trivial, hc46⟩ ?_
                      refine AK.meet (fun σ => ∃ l47 : (List Int), σ = ⟨[(1, .i .i64 arcs2), (5, .own 74 l34.length), (9, .i .i64 set_33), (10, .own 69 l47.length), (60, .i .i64 arcs2), (61, .i .i64 x41)], [(69, .arr 1 (l47.map row_I)), (74, .arr 1 (l34.map row_LI))]⟩ ∧ F_bind_Choices_k6 x41 l47 = some o) ?_ ?_
                      · obtain ⟨_, hk48, h⟩ := bindE h
                        replace hk48 := chkE hk48
                        refine AK.go tab_ok hC [.n 11, .o (.any (.i .i64 (shrI .i64 set_33 x41)) none), .o (.any (.i .i64 (andI .i64 (shrI .i64 set_33 x41) 1)) none), .n 3] rfl ⟨⟨trivial, (fun σ h1 h2 _ => Stp.shr rfl rfl (hC ▸ rfl) (h1 _ _ rfl) (h1 _ _ rfl) (of_decide_eq_true hk48))⟩, (fun σ h1 h2 _ => Stp.andB rfl rfl (hC ▸ rfl) (h1 _ _ rfl) (h1 _ _ rfl))⟩ ?_
                        rcases bifE h with ⟨hc49, h⟩ | ⟨hc49, h⟩
                        · obtain ⟨_, hk50, h⟩ := bindE h
                          replace hk50 := chkE hk50
                          refine AK.go tab_ok hC [.br true, .n 3, .v (.bd []) [] (.sl 1 (([x41] : List Int).map row_I)), .app ((l42 ++ ([x41] : List Int)).map row_I) (l42 ++ ([x41] : List Int)).length, .n 3, .keep [1, 5, 9, 10, 60, 61] [69, 74]] rfl ⟨⟨⟨trivial, hc49⟩, rfl⟩, ⟨mapLen, appLim hk50 mapLen, mapApps, appLn mapLen⟩⟩ ?_
                          exact AK.met (Exists.intro _ (And.intro rfl h))
                        · refine AK.go tab_ok hC [.br false, .n 2, .keep [1, 5, 9, 10, 60, 61] [69, 74]] rfl ⟨trivial, hc49⟩ ?_
                          exact AK.met (Exists.intro _ (And.intro rfl h))
                      · rintro σ ⟨l47, rfl, h⟩
                        unfold F_bind_Choices_k6 at h
                        refine AK.go tab_ok hC [.n 4, .keep [1, 5, 9, 10, 60, 61] [69, 74]] rfl trivial ?_
                        obtain rfl := Option.some.inj h
                        exact rndN rfl rfl
                    · refine AK.go tab_ok hC [.br false, .n 2, .keep [1, 5, 9, 10] [69, 74]] rfl ⟨trivial, hc46⟩ ?_
                      obtain rfl := Option.some.inj h
                      exact rndX rfl (And.intro rfl rfl)
                  · replace h : F_bind_Choices_c8 l34 set_33 l45 = some o := h
                    unfold F_bind_Choices_c8 at h
                    rintro e σ ⟨rfl, rfl⟩
                    obtain ⟨_, hk52, h⟩ := bindE h
                    replace hk52 := chkE hk52
                    refine AK.go tab_ok hC [.n 5, .frz 69 (l45.map row_I) [10, 75] [], .v (.bd []) [] (.sl 1 (([l45] : List (List Int)).map row_LI)), .app ((l34 ++ ([l45] : List (List Int))).map row_LI) (l34 ++ ([l45] : List (List Int))).length, .n 9, .keep [1, 5, 9] [74]] rfl ⟨⟨⟨trivial, ⟨⟨trivial, (frzL mapLen)⟩, (frzL mapLen)⟩⟩, rfl⟩, ⟨mapLen, appLim hk52 mapLen, mapApps, appLn mapLen⟩⟩ ?_
                    obtain rfl := Option.some.inj h
                    exact rndN rfl rfl
                · refine AK.go tab_ok hC [.br false, .n 2, .keep [5] [74]] rfl ⟨trivial, hc39⟩ ?_
                  obtain rfl := Option.some.inj h
                  exact rndX rfl (And.intro rfl rfl)
              · replace h : F_bind_Choices_c10 l37 = some r := h
                unfold F_bind_Choices_c10 at h
                rintro e σ ⟨rfl, rfl⟩
                refine AK.go tab_ok hC [.n 2, .ren 74 40005, .keep [5] [40005]] rfl trivial ?_
                exact AK.met (Exists.intro _ (And.intro rfl h))
            · refine AK.go tab_ok hC [.br false, .n 2, .adopt 5 40005 1, .sayO 40005 (.arr 1 (([] : List (List Int)).map row_LI)), .say 5 (.own 40005 ([] : List (List Int)).length), .keep [5] [40005]] rfl ⟨⟨⟨trivial, hc31⟩, rfl⟩, (congrArg (fun n => V.own 40005 n) (by simp))⟩ ?_
              exact AK.met (Exists.intro _ (And.intro rfl h))
      · rintro σ ⟨l10, rfl, h⟩
        unfold F_bind_Choices_k1 at h
        refine AK.go tab_ok hC [.n 7, .keep [4] [40005], .ren 40005 30000, .keep [4] [30000]] rfl trivial ?_
        obtain rfl := Option.some.inj h
        refine AK.done ?_
        exact Exists.intro [_] (And.intro (And.intro rfl trivial) (gives ⟨rfl, trivial⟩))

-- 14 baldric/bind.bindings
noncomputable def F_bind_bindings (n1 : TNet) (t2 : TTask) : Option (TNet × TTask) :=
  some (n1, t2)

set_option maxRecDepth 100000 in
set_option maxHeartbeats 4000000 in
theorem F_bind_bindings_ok (n1 : TNet) (t2 : TTask) {r : (TNet × TTask)} (h : F_bind_bindings n1 t2 = some r) : ACalls Tryz.prog 14 [.agg (row_TNet n1), .agg (row_TTask t2)] [] (Gives (.clo (.func 27) [] [.loc 3 0 0, .loc 2 0 0]) [(2, .var (row_TNet r.1)), (3, .var (row_TTask r.2))]) := by
  refine ACalls.walk 6 Tryz.func14 rfl Tryz.ntmps14 rfl fun C hC => ?_
  unfold F_bind_bindings at h
  refine AK.go tab_ok hC [.n 14, .keep [4] [2, 3]] rfl trivial ?_
  obtain rfl := Option.some.inj h
  refine AK.done ?_
  exact Exists.intro [_] (And.intro (And.intro rfl trivial) (gives ⟨rfl, rfl, trivial⟩))

-- 22 slices.Clone[[]int,int]
noncomputable def F_slices_Clone_int_int (s1 : (List Int)) : Option (List Int) :=
  (chk (decide (([] : List Int).length + s1.length ≤ 4294967296))).bind fun _ =>
  some (([] : List Int) ++ s1)

set_option maxRecDepth 100000 in
set_option maxHeartbeats 4000000 in
theorem F_slices_Clone_int_int_ok (s1 : (List Int)) {r : (List Int)} (h : F_slices_Clone_int_int s1 = some r) : ACalls Tryz.prog 22 [.sl 1 (s1.map row_I)] [] (Gives (.own 30000 r.length) [(30000, .arr 1 (r.map row_I))]) := by
  refine ACalls.walk 8 Tryz.func22 rfl Tryz.ntmps22 rfl fun C hC => ?_
  unfold F_slices_Clone_int_int at h
  refine AK.go tab_ok hC [.n 9] rfl trivial ?_
  refine AK.eqNil rfl rfl rfl (hC ▸ rfl) rfl rfl un_26 ?_ ?_
  · intro hz4
    replace h : some ([] : List Int) = some r := by simpa [chk, List.map_eq_nil_iff.1 hz4] using h
    refine AK.go tab_ok hC [.n 10, .adopt 2 30000 1, .sayO 30000 (.arr 1 (([] : List Int).map row_I)), .say 2 (.own 30000 ([] : List Int).length), .keep [2] [30000]] rfl ⟨⟨trivial, rfl⟩, rfl⟩ ?_
    obtain rfl := Option.some.inj h
    refine AK.done ?_
    exact Exists.intro [_] (And.intro (And.intro rfl trivial) (gives ⟨rfl, trivial⟩))
  · obtain ⟨_, hk5, h⟩ := bindE h
    replace hk5 := chkE hk5
    refine AK.go tab_ok hC [.n 8, .sayO 5 (.arr 1 (([] : List Int).map row_I)), .say 5 (.own 5 ([] : List Int).length), .n 1, .app ((([] : List Int) ++ s1).map row_I) (([] : List Int) ++ s1).length, .n 4, .keep [2] [5], .ren 5 30000, .keep [2] [30000]] rfl ⟨⟨⟨trivial, rfl⟩, rfl⟩, ⟨mapLen, appLim hk5 mapLen, mapApps, appLn mapLen⟩⟩ ?_
    obtain rfl := Option.some.inj h
    refine AK.done ?_
    exact Exists.intro [_] (And.intro (And.intro rfl trivial) (gives ⟨rfl, trivial⟩))

-- 93 baldric/colour.span
noncomputable def F_colour_span (lo1 : Int) (hi2 : Int) : Option Int :=
  bif (decide (hi2 < lo1)) then
  some 0
  else
  some (w64 ((w64 (min2 (IntKind.u64.wrap ((IntKind.u64.wrap hi2) - (IntKind.u64.wrap lo1))) 1024)) + 1))

set_option maxRecDepth 100000 in
set_option maxHeartbeats 4000000 in
theorem F_colour_span_ok (lo1 : Int) (hi2 : Int) {r : Int} (h : F_colour_span lo1 hi2 = some r) : ACalls Tryz.prog 93 [.i .i64 lo1, .i .i64 hi2] [] (Gives (.i .i64 r) []) := by
  refine ACalls.walk 16 Tryz.func93 rfl Tryz.ntmps93 rfl fun C hC => ?_
  unfold F_colour_span at h
  refine AK.go tab_ok hC [.n 13] rfl trivial ?_
  rcases bifE h with ⟨hc5, h⟩ | ⟨hc5, h⟩
  · refine AK.go tab_ok hC [.br true, .n 7, .keep [4] []] rfl ⟨trivial, hc5⟩ ?_
    obtain rfl := Option.some.inj h
    refine AK.done ?_
    exact Exists.intro [_] (And.intro (And.intro rfl trivial) (gives trivial))
  · refine AK.go tab_ok hC [.br false, .n 5, .o (.any (.i .u64 (IntKind.u64.wrap hi2)) none), .n 1, .o (.any (.i .u64 (IntKind.u64.wrap lo1)) none), .n 2, .o (.any (.i .i64 (w64 (min2 (IntKind.u64.wrap ((IntKind.u64.wrap hi2) - (IntKind.u64.wrap lo1))) 1024))) none), .n 5, .keep [4] []] rfl ⟨⟨⟨⟨trivial, hc5⟩, (fun σ h1 h2 _ => Stp.convI rfl rfl (hC ▸ rfl) (h1 _ _ rfl) it_3 it_131)⟩, (fun σ h1 h2 _ => Stp.convI rfl rfl (hC ▸ rfl) (h1 _ _ rfl) it_3 it_131)⟩, (fun σ h1 h2 _ => Stp.convI rfl rfl (hC ▸ rfl) (h1 _ _ rfl) it_131 it_3)⟩ ?_
    obtain rfl := Option.some.inj h
    refine AK.done ?_
    exact Exists.intro [_] (And.intro (And.intro rfl trivial) (gives trivial))

-- 95 baldric/colour.letter
noncomputable def F_colour_letter (c1 : Int) : Option Bool :=
  some (bif (decide (97 ≤ c1)) then ((decide (c1 ≤ 122)) || ((decide (65 ≤ c1)) && (decide (c1 ≤ 90)))) else ((decide (65 ≤ c1)) && (decide (c1 ≤ 90))))

set_option maxRecDepth 100000 in
set_option maxHeartbeats 4000000 in
theorem F_colour_letter_ok (c1 : Int) {r : Bool} (h : F_colour_letter c1 = some r) : ACalls Tryz.prog 95 [.i .u8 c1] [] (Gives (.b r) []) := by
  refine ACalls.walk 17 Tryz.func95 rfl Tryz.ntmps95 rfl fun C hC => ?_
  unfold F_colour_letter at h
  refine AK.go tab_ok hC [.n 6] rfl trivial ?_
  refine AK.meetX (fun σ => σ = ⟨[(2, .b (bif (decide (97 ≤ c1)) then ((decide (c1 ≤ 122)) || ((decide (65 ≤ c1)) && (decide (c1 ≤ 90)))) else ((decide (65 ≤ c1)) && (decide (c1 ≤ 90)))))], []⟩) ?_ ?_
  · refine AK.go tab_ok hC [.n 4] rfl trivial ?_
    rcases boolOr (decide (97 ≤ c1)) with hc4 | hc4
    · refine AK.go tab_ok hC [.say 5 (.b true), .n 4] rfl ⟨trivial, (congrArg V.b hc4)⟩ ?_
      rcases boolOr (decide (c1 ≤ 122)) with hc5 | hc5
      · refine AK.go tab_ok hC [.say 9 (.b true), .n 9, .say 2 (.b (bif (decide (97 ≤ c1)) then ((decide (c1 ≤ 122)) || ((decide (65 ≤ c1)) && (decide (c1 ≤ 90)))) else ((decide (65 ≤ c1)) && (decide (c1 ≤ 90))))), .keep [2] []] rfl ⟨⟨trivial, (congrArg V.b hc5)⟩, (congrArg V.b (bifT hc4 (orT hc5 rfl)))⟩ ?_
        exact AK.met rfl
      · refine AK.go tab_ok hC [.say 9 (.b false), .n 3] rfl ⟨trivial, (congrArg V.b hc5)⟩ ?_
        rcases boolOr (decide (65 ≤ c1)) with hc6 | hc6
        · refine AK.go tab_ok hC [.say 12 (.b true), .n 6, .say 2 (.b (bif (decide (97 ≤ c1)) then ((decide (c1 ≤ 122)) || ((decide (65 ≤ c1)) && (decide (c1 ≤ 90)))) else ((decide (65 ≤ c1)) && (decide (c1 ≤ 90))))), .keep [2] []] rfl ⟨⟨trivial, (congrArg V.b hc6)⟩, (congrArg V.b (bifT hc4 (orF hc5 (andT hc6 rfl))))⟩ ?_
          exact AK.met rfl
        · refine AK.go tab_ok hC [.say 12 (.b false), .n 6, .say 2 (.b (bif (decide (97 ≤ c1)) then ((decide (c1 ≤ 122)) || ((decide (65 ≤ c1)) && (decide (c1 ≤ 90)))) else ((decide (65 ≤ c1)) && (decide (c1 ≤ 90))))), .keep [2] []] rfl ⟨⟨trivial, (congrArg V.b hc6)⟩, (congrArg V.b (bifT hc4 (orF hc5 (andF hc6 rfl))))⟩ ?_
          exact AK.met rfl
    · refine AK.go tab_ok hC [.say 5 (.b false), .n 7] rfl ⟨trivial, (congrArg V.b hc4)⟩ ?_
      rcases boolOr (decide (65 ≤ c1)) with hc7 | hc7
      · refine AK.go tab_ok hC [.say 12 (.b true), .n 6, .say 2 (.b (bif (decide (97 ≤ c1)) then ((decide (c1 ≤ 122)) || ((decide (65 ≤ c1)) && (decide (c1 ≤ 90)))) else ((decide (65 ≤ c1)) && (decide (c1 ≤ 90))))), .keep [2] []] rfl ⟨⟨trivial, (congrArg V.b hc7)⟩, (congrArg V.b (bifF hc4 (andT hc7 rfl)))⟩ ?_
        exact AK.met rfl
      · refine AK.go tab_ok hC [.say 12 (.b false), .n 6, .say 2 (.b (bif (decide (97 ≤ c1)) then ((decide (c1 ≤ 122)) || ((decide (65 ≤ c1)) && (decide (c1 ≤ 90)))) else ((decide (65 ≤ c1)) && (decide (c1 ≤ 90))))), .keep [2] []] rfl ⟨⟨trivial, (congrArg V.b hc7)⟩, (congrArg V.b (bifF hc4 (andF hc7 rfl)))⟩ ?_
        exact AK.met rfl
  · rintro σ rfl
    refine AK.go tab_ok hC [.n 2, .keep [2] []] rfl trivial ?_
    obtain rfl := Option.some.inj h
    refine AK.done ?_
    exact Exists.intro [_] (And.intro (And.intro rfl trivial) (gives trivial))

-- 74 baldric/colour.Name
noncomputable def F_colour_Name_g1 (s1 : ByteArray) : Option Bool :=
  bif (strEq s1 (⟨#[]⟩ : ByteArray)) then
  some true
  else
  bif (decide (32 < (s1.size : Int))) then
  some true
  else
  (sidx s1 0).bind fun c8 =>
  (F_colour_letter c8).bind fun x9 =>
  some (!x9)

noncomputable def F_colour_Name_g2 (c14 : Int) : Option Bool :=
  (F_colour_letter c14).bind fun x17 =>
  bif (!x17) then
  bif (decide (c14 < 48)) then
  some (c14 != 95)
  else
  bif (decide (57 < c14)) then
  some (c14 != 95)
  else
  some false
  else
  some false

noncomputable def F_colour_Name_k3 (x11 : Int) (x15 : Bool) : Option (Int ⊕ (Unit ⊕ Unit)) :=
  bif x15 then
  some (.inr (.inl ()))
  else
  some (.inl (w64 (x11 + 1)))

noncomputable def F_colour_Name_l4 (s1 : ByteArray) (x11 : Int) : Option (Int ⊕ (Unit ⊕ Unit)) :=
  bif (decide (x11 < (s1.size : Int))) then
  (sidx s1 x11).bind fun c14 =>
  (F_colour_Name_g2 c14).bind (fun x15 => F_colour_Name_k3 x11 x15)
  else
  some (.inr (.inr ()))

noncomputable def F_colour_Name_c5 : Option Bool :=
  some false

noncomputable def F_colour_Name_c6 : Option Bool :=
  some true

noncomputable def F_colour_Name_k7 (s1 : ByteArray) (x4 : Bool) : Option Bool :=
  bif x4 then
  some false
  else
  (loopM (fun st => F_colour_Name_l4 s1 st) 0).bind (Sum.elim (fun q => F_colour_Name_c5) (fun q => F_colour_Name_c6))

noncomputable def F_colour_Name (s1 : ByteArray) : Option Bool :=
  (F_colour_Name_g1 s1).bind (fun x4 => F_colour_Name_k7 s1 x4)

set_option maxRecDepth 100000 in
set_option maxHeartbeats 4000000 in
theorem F_colour_Name_ok (s1 : ByteArray) {r : Bool} (h : F_colour_Name s1 = some r) : ACalls Tryz.prog 74 [.s s1] [] (Gives (.b r) []) := by
  refine ACalls.walk 42 Tryz.func74 rfl Tryz.ntmps74 rfl fun C hC => ?_
  unfold F_colour_Name at h
  refine AK.go tab_ok hC [.n 7] rfl trivial ?_
  obtain ⟨x4, hv5, h⟩ := bindE h
  replace h : F_colour_Name_k7 s1 x4 = some r := h
  refine AK.meetX (fun σ => σ = ⟨[(0, .s s1), (17, .b x4)], []⟩) ?_ ?_
  · replace h := hv5
    unfold F_colour_Name_g1 at h
    refine AK.go tab_ok hC [.n 4] rfl trivial ?_
    rcases bifE h with ⟨hc6, h⟩ | ⟨hc6, h⟩
    · refine AK.go tab_ok hC [.say 7 (.b true), .n 11, .keep [0, 17] []] rfl ⟨trivial, (congrArg V.b hc6)⟩ ?_
      obtain rfl := Option.some.inj h
      exact AK.met rfl
    · refine AK.go tab_ok hC [.say 7 (.b false), .n 5] rfl ⟨trivial, (congrArg V.b hc6)⟩ ?_
      rcases bifE h with ⟨hc7, h⟩ | ⟨hc7, h⟩
      · refine AK.go tab_ok hC [.say 12 (.b true), .n 6, .keep [0, 17] []] rfl ⟨trivial, (congrArg V.b hc7)⟩ ?_
        obtain rfl := Option.some.inj h
        exact AK.met rfl
      · obtain ⟨c8, hc8, h⟩ := bindE h
        obtain ⟨x9, hx9, h⟩ := bindE h
        refine AK.go tab_ok hC [.say 12 (.b false), .n 1, .o (.num c8), .o (.c false [.d] (.b x9)), .n 3, .keep [0, 17] []] rfl ⟨⟨⟨trivial, (congrArg V.b hc7)⟩, hc8⟩, (F_colour_letter_ok _ hx9)⟩ ?_
        obtain rfl := Option.some.inj h
        exact AK.met rfl
  · rintro σ rfl
    replace h : F_colour_Name_k7 s1 x4 = some r := h
    unfold F_colour_Name_k7 at h
    refine AK.go tab_ok hC [.n 1] rfl trivial ?_
    rcases bifE h with ⟨hc10, h⟩ | ⟨hc10, h⟩
    · refine AK.go tab_ok hC [.br true, .n 7, .keep [2] []] rfl ⟨trivial, hc10⟩ ?_
      obtain rfl := Option.some.inj h
      refine AK.done ?_
      exact Exists.intro [_] (And.intro (And.intro rfl trivial) (gives trivial))
    · refine AK.go tab_ok hC [.br false, .n 11, .keep [0, 19, 20] []] rfl ⟨trivial, hc10⟩ ?_
      obtain ⟨o22, hl22, h⟩ := bindE h
      refine AK.loop (body := (fun st => F_colour_Name_l4 s1 st)) (fun st σ => σ = ⟨[(0, .s s1), (19, .i .i64 (s1.size : Int)), (20, .i .i64 st)], []⟩) (Sum.elim (fun q e σ => e = .ret ∧ σ = ⟨[(2, .b false)], []⟩) (fun q e σ => e = .exit 0 ∧ σ = ⟨[], []⟩)) hl22 rfl ?_ ?_
      · rintro x11 o σ rfl h
        replace h : F_colour_Name_l4 s1 x11 = some o := h
        unfold F_colour_Name_l4 at h
        refine AK.go tab_ok hC [.n 6] rfl trivial ?_
        rcases bifE h with ⟨hc13, h⟩ | ⟨hc13, h⟩
        · obtain ⟨c14, hc14, h⟩ := bindE h
          refine AK.go tab_ok hC [.br true, .n 14, .o (.num c14), .n 4] rfl ⟨⟨trivial, hc13⟩, hc14⟩ ?_
          obtain ⟨x15, hv16, h⟩ := bindE h
          replace h : F_colour_Name_k3 x11 x15 = some o := h
          refine AK.meetX (fun σ => σ = ⟨[(0, .s s1), (19, .i .i64 (s1.size : Int)), (20, .i .i64 x11), (40, .b x15)], []⟩) ?_ ?_
          · replace h := hv16
            unfold F_colour_Name_g2 at h
            obtain ⟨x17, hx17, h⟩ := bindE h
            refine AK.go tab_ok hC [.n 2, .o (.c false [.d] (.b x17)), .n 2] rfl ⟨trivial, (F_colour_letter_ok _ hx17)⟩ ?_
            rcases bifE h with ⟨hc18, h⟩ | ⟨hc18, h⟩
            · refine AK.go tab_ok hC [.say 29 (.b true), .n 3] rfl ⟨trivial, (congrArg V.b hc18)⟩ ?_
              rcases bifE h with ⟨hc19, h⟩ | ⟨hc19, h⟩
              · refine AK.go tab_ok hC [.say 32 (.b true), .n 9, .keep [0, 19, 20, 40] []] rfl ⟨trivial, (congrArg V.b hc19)⟩ ?_
                obtain rfl := Option.some.inj h
                exact AK.met rfl
              · refine AK.go tab_ok hC [.say 32 (.b false), .n 5] rfl ⟨trivial, (congrArg V.b hc19)⟩ ?_
                rcases bifE h with ⟨hc20, h⟩ | ⟨hc20, h⟩
                · refine AK.go tab_ok hC [.say 37 (.b true), .n 4, .keep [0, 19, 20, 40] []] rfl ⟨trivial, (congrArg V.b hc20)⟩ ?_
                  obtain rfl := Option.some.inj h
                  exact AK.met rfl
                · refine AK.go tab_ok hC [.say 37 (.b false), .n 4, .keep [0, 19, 20, 40] []] rfl ⟨trivial, (congrArg V.b hc20)⟩ ?_
                  obtain rfl := Option.some.inj h
                  exact AK.met rfl
            · refine AK.go tab_ok hC [.say 29 (.b false), .n 12, .keep [0, 19, 20, 40] []] rfl ⟨trivial, (congrArg V.b hc18)⟩ ?_
              obtain rfl := Option.some.inj h
              exact AK.met rfl
          · rintro σ rfl
            replace h : F_colour_Name_k3 x11 x15 = some o := h
            unfold F_colour_Name_k3 at h
            refine AK.go tab_ok hC [.n 1] rfl trivial ?_
            rcases bifE h with ⟨hc21, h⟩ | ⟨hc21, h⟩
            · refine AK.go tab_ok hC [.br true, .n 8, .keep [2] []] rfl ⟨trivial, hc21⟩ ?_
              obtain rfl := Option.some.inj h
              exact rndR rfl (And.intro rfl rfl)
            · refine AK.go tab_ok hC [.br false, .n 7, .keep [0, 19, 20] []] rfl ⟨trivial, hc21⟩ ?_
              obtain rfl := Option.some.inj h
              exact rndN rfl rfl
        · refine AK.go tab_ok hC [.br false, .n 2, .keep [] []] rfl ⟨trivial, hc13⟩ ?_
          obtain rfl := Option.some.inj h
          exact rndX rfl (And.intro rfl rfl)
      · rcases o22 with (_ | _)
        · replace h : F_colour_Name_c5 = some r := h
          unfold F_colour_Name_c5 at h
          rintro e σ ⟨rfl, rfl⟩
          refine AK.go tab_ok hC [.n 2, .keep [2] []] rfl trivial ?_
          obtain rfl := Option.some.inj h
          refine AK.done ?_
          exact Exists.intro [_] (And.intro (And.intro rfl trivial) (gives trivial))
        · replace h : F_colour_Name_c6 = some r := h
          unfold F_colour_Name_c6 at h
          rintro e σ ⟨rfl, rfl⟩
          refine AK.go tab_ok hC [.n 8, .keep [2] []] rfl trivial ?_
          obtain rfl := Option.some.inj h
          refine AK.done ?_
          exact Exists.intro [_] (And.intro (And.intro rfl trivial) (gives trivial))

-- 94 baldric/colour.names
noncomputable def F_colour_names_g1 (e10 : ByteArray) (m6 : (List (ByteArray × Bool))) : Option Bool :=
  (F_colour_Name e10).bind fun x13 =>
  bif (!x13) then
  some true
  else
  some ((mget m6 e10).getD false)

noncomputable def F_colour_names_k2 (x5 : Int) (m6 : (List (ByteArray × Bool))) (e10 : ByteArray) (x11 : Bool) : Option ((Int × (List (ByteArray × Bool))) ⊕ (Unit ⊕ Unit)) :=
  bif x11 then
  some (.inr (.inl ()))
  else
  some (.inl ((w64 (x5 + 1)), (mset ltS m6 e10 true)))

noncomputable def F_colour_names_l3 (l1 : (List ByteArray)) (x5 : Int) (m6 : (List (ByteArray × Bool))) : Option ((Int × (List (ByteArray × Bool))) ⊕ (Unit ⊕ Unit)) :=
  bif (decide (x5 < (l1.length : Int))) then
  (idx l1 x5).bind fun e10 =>
  (F_colour_names_g1 e10 m6).bind (fun x11 => F_colour_names_k2 x5 m6 e10 x11)
  else
  some (.inr (.inr ()))

noncomputable def F_colour_names_c4 : Option Bool :=
  some false

noncomputable def F_colour_names_c5 : Option Bool :=
  some true

noncomputable def F_colour_names (l1 : (List ByteArray)) : Option Bool :=
  (loopM (fun st => F_colour_names_l3 l1 st.1 st.2) (0, ([] : (List (ByteArray × Bool))))).bind (Sum.elim (fun q => F_colour_names_c4) (fun q => F_colour_names_c5))

set_option maxRecDepth 100000 in
set_option maxHeartbeats 4000000 in
theorem F_colour_names_ok (l1 : (List ByteArray)) {r : Bool} (h : F_colour_names l1 = some r) : ACalls Tryz.prog 94 [.sl 1 (l1.map row_S)] [] (Gives (.b r) []) := by
  refine ACalls.walk 24 Tryz.func94 rfl Tryz.ntmps94 rfl fun C hC => ?_
  unfold F_colour_names at h
  refine AK.go tab_ok hC [.n 8, .sayO 6 (.map (mapV V.s V.b ([] : (List (ByteArray × Bool))))), .n 7, .o (.ln l1.length), .n 4, .keep [3, 7, 8, 9] [6]] rfl ⟨⟨trivial, rfl⟩, mapLen⟩ ?_
  obtain ⟨o16, hl16, h⟩ := bindE h
  refine AK.loop (body := (fun st => F_colour_names_l3 l1 st.1 st.2)) (fun st σ => σ = ⟨[(3, .map 6), (7, .sl 1 (l1.map row_S)), (8, .i .i64 (l1.length : Int)), (9, .i .i64 st.1)], [(6, .map (mapV V.s V.b st.2))]⟩) (Sum.elim (fun q e σ => e = .ret ∧ σ = ⟨[(2, .b false)], []⟩) (fun q e σ => e = .exit 0 ∧ σ = ⟨[], []⟩)) hl16 rfl ?_ ?_
  · rintro ⟨x5, m6⟩ o σ rfl h
    replace h : F_colour_names_l3 l1 x5 m6 = some o := h
    unfold F_colour_names_l3 at h
    refine AK.go tab_ok hC [.n 6] rfl trivial ?_
    rcases bifE h with ⟨hc9, h⟩ | ⟨hc9, h⟩
    · obtain ⟨e10, he10, h⟩ := bindE h
      refine AK.go tab_ok hC [.br true, .n 6, .o (.row (row_S e10)), .n 6] rfl ⟨⟨trivial, hc9⟩, (idxM he10)⟩ ?_
      obtain ⟨x11, hv12, h⟩ := bindE h
      replace h : F_colour_names_k2 x5 m6 e10 x11 = some o := h
      refine AK.meetX (fun σ => σ = ⟨[(3, .map 6), (5, .s e10), (7, .sl 1 (l1.map row_S)), (8, .i .i64 (l1.length : Int)), (9, .i .i64 x5), (20, .b x11)], [(6, .map (mapV V.s V.b m6))]⟩) ?_ ?_
      · replace h := hv12
        unfold F_colour_names_g1 at h
        obtain ⟨x13, hx13, h⟩ := bindE h
        refine AK.go tab_ok hC [.n 2, .o (.c false [.d] (.b x13)), .n 2] rfl ⟨trivial, (F_colour_Name_ok _ hx13)⟩ ?_
        rcases bifE h with ⟨hc14, h⟩ | ⟨hc14, h⟩
        · refine AK.go tab_ok hC [.say 16 (.b true), .n 5, .keep [3, 5, 7, 8, 9, 20] [6]] rfl ⟨trivial, (congrArg V.b hc14)⟩ ?_
          obtain rfl := Option.some.inj h
          exact AK.met rfl
        · refine AK.go tab_ok hC [.say 16 (.b false), .n 2, .o (.any (.b ((mget m6 e10).getD false)) none), .n 2, .keep [3, 5, 7, 8, 9, 20] [6]] rfl ⟨⟨trivial, (congrArg V.b hc14)⟩, (fun σ h1 h2 _ => Stp.lookup (e := V.s) (f := V.b) (l := m6) (k := e10) (z := false) rfl rfl (hC ▸ rfl) (h1 _ _ rfl) (h2 _ _ rfl) (h1 _ _ rfl) mt_138 ky_9 zi_4 rfl)⟩ ?_
          obtain rfl := Option.some.inj h
          exact AK.met rfl
      · rintro σ rfl
        replace h : F_colour_names_k2 x5 m6 e10 x11 = some o := h
        unfold F_colour_names_k2 at h
        refine AK.go tab_ok hC [.n 1] rfl trivial ?_
        rcases bifE h with ⟨hc15, h⟩ | ⟨hc15, h⟩
        · refine AK.go tab_ok hC [.br true, .n 9, .keep [2] []] rfl ⟨trivial, hc15⟩ ?_
          obtain rfl := Option.some.inj h
          exact rndR rfl (And.intro rfl rfl)
        · refine AK.go tab_ok hC [.br false, .n 5, .x (fun σ => σ.set 6 (.map (mapV V.s V.b (mset ltS m6 e10 true)))), .n 7, .keep [3, 7, 8, 9] [6]] rfl ⟨⟨trivial, hc15⟩, (Stp.mapUpdate (e := V.s) (f := V.b) (l := m6) (k := e10) (v := true) ltS rfl rfl rfl rfl rfl rfl mt_138 ky_9 rfl)⟩ ?_
          obtain rfl := Option.some.inj h
          exact rndN rfl rfl
    · refine AK.go tab_ok hC [.br false, .n 2, .keep [] []] rfl ⟨trivial, hc9⟩ ?_
      obtain rfl := Option.some.inj h
      exact rndX rfl (And.intro rfl rfl)
  · rcases o16 with (_ | _)
    · replace h : F_colour_names_c4 = some r := h
      unfold F_colour_names_c4 at h
      rintro e σ ⟨rfl, rfl⟩
      refine AK.go tab_ok hC [.n 2, .keep [2] []] rfl trivial ?_
      obtain rfl := Option.some.inj h
      refine AK.done ?_
      exact Exists.intro [_] (And.intro (And.intro rfl trivial) (gives trivial))
    · replace h : F_colour_names_c5 = some r := h
      unfold F_colour_names_c5 at h
      rintro e σ ⟨rfl, rfl⟩
      refine AK.go tab_ok hC [.n 8, .keep [2] []] rfl trivial ?_
      obtain rfl := Option.some.inj h
      refine AK.done ?_
      exact Exists.intro [_] (And.intro (And.intro rfl trivial) (gives trivial))

-- 73 baldric/colour.size
noncomputable def F_colour_size_k1 : Option Int :=
  some 0

noncomputable def F_colour_size (c1 : TColour) (ahead2 : (List Int)) : Option Int :=
  bif (c1.Kind == 1) then
  (F_colour_span c1.Lo c1.Hi).bind fun x6 =>
  some x6
  else
  bif (c1.Kind == 2) then
  (F_colour_names c1.Names).bind fun x8 =>
  bif x8 then
  some (c1.Names.length : Int)
  else
  F_colour_size_k1
  else
  bif (c1.Kind == 3) then
  bif ((decide (0 ≤ (min2 c1.First c1.Then))) && (decide ((max2 c1.First c1.Then) < (ahead2.length : Int)))) then
  (idx ahead2 c1.First).bind fun e14 =>
  (idx ahead2 c1.Then).bind fun e15 =>
  some (w64 (e14 * e15))
  else
  F_colour_size_k1
  else
  F_colour_size_k1

set_option maxRecDepth 100000 in
set_option maxHeartbeats 4000000 in
theorem F_colour_size_ok (c1 : TColour) (ahead2 : (List Int)) {r : Int} (h : F_colour_size c1 ahead2 = some r) : ACalls Tryz.prog 73 [.agg (row_TColour c1), .sl 1 (ahead2.map row_I)] [] (Gives (.i .i64 r) []) := by
  refine ACalls.walk 51 Tryz.func73 rfl Tryz.ntmps73 rfl fun C hC => ?_
  unfold F_colour_size at h
  refine AK.go tab_ok hC [.n 6] rfl trivial ?_
  refine AK.meet (fun σ => σ = ⟨[], []⟩ ∧ F_colour_size_k1 = some r) ?_ ?_
  · refine AK.go tab_ok hC [.n 13] rfl trivial ?_
    rcases bifE h with ⟨hc5, h⟩ | ⟨hc5, h⟩
    · obtain ⟨x6, hx6, h⟩ := bindE h
      refine AK.go tab_ok hC [.br true, .n 6, .o (.c false [.d, .d] (.i .i64 x6)), .n 6, .keep [4] []] rfl ⟨⟨trivial, hc5⟩, (F_colour_span_ok _ _ hx6)⟩ ?_
      obtain rfl := Option.some.inj h
      refine AK.done ?_
      exact Exists.intro [_] (And.intro (And.intro rfl trivial) (gives trivial))
    · refine AK.go tab_ok hC [.br false, .n 6] rfl ⟨trivial, hc5⟩ ?_
      rcases bifE h with ⟨hc7, h⟩ | ⟨hc7, h⟩
      · obtain ⟨x8, hx8, h⟩ := bindE h
        refine AK.go tab_ok hC [.br true, .n 4, .o (.c false [.d] (.b x8)), .n 2] rfl ⟨⟨trivial, hc7⟩, (F_colour_names_ok _ hx8)⟩ ?_
        rcases bifE h with ⟨hc9, h⟩ | ⟨hc9, h⟩
        · refine AK.go tab_ok hC [.br true, .n 4, .o (.ln c1.Names.length), .n 6, .keep [4] []] rfl ⟨⟨trivial, hc9⟩, mapLen⟩ ?_
          obtain rfl := Option.some.inj h
          refine AK.done ?_
          exact Exists.intro [_] (And.intro (And.intro rfl trivial) (gives trivial))
        · refine AK.go tab_ok hC [.br false, .n 2, .keep [] []] rfl ⟨trivial, hc9⟩ ?_
          exact AK.met (And.intro rfl h)
      · refine AK.go tab_ok hC [.br false, .n 6] rfl ⟨trivial, hc7⟩ ?_
        rcases bifE h with ⟨hc10, h⟩ | ⟨hc10, h⟩
        · refine AK.go tab_ok hC [.br true, .n 1] rfl ⟨trivial, hc10⟩ ?_
          refine AK.meetX (fun σ => σ = ⟨[(1, .sl 1 (ahead2.map row_I)), (2, .loc 2 0 0), (39, .b ((decide (0 ≤ (min2 c1.First c1.Then))) && (decide ((max2 c1.First c1.Then) < (ahead2.length : Int)))))], [(2, .var (row_TColour c1))]⟩) ?_ ?_
          · refine AK.go tab_ok hC [.n 8] rfl trivial ?_
            rcases boolOr (decide (0 ≤ (min2 c1.First c1.Then))) with hc12 | hc12
            · refine AK.go tab_ok hC [.say 30 (.b true), .n 6, .o (.ln ahead2.length), .n 3, .say 39 (.b ((decide (0 ≤ (min2 c1.First c1.Then))) && (decide ((max2 c1.First c1.Then) < (ahead2.length : Int))))), .keep [1, 2, 39] [2]] rfl ⟨⟨⟨trivial, (congrArg V.b hc12)⟩, mapLen⟩, (congrArg V.b (andT hc12 rfl))⟩ ?_
              exact AK.met rfl
            · refine AK.go tab_ok hC [.say 30 (.b false), .n 10, .say 39 (.b ((decide (0 ≤ (min2 c1.First c1.Then))) && (decide ((max2 c1.First c1.Then) < (ahead2.length : Int))))), .keep [1, 2, 39] [2]] rfl ⟨⟨trivial, (congrArg V.b hc12)⟩, (congrArg V.b (andF hc12 rfl))⟩ ?_
              exact AK.met rfl
          · rintro σ rfl
            refine AK.go tab_ok hC [.n 1] rfl trivial ?_
            rcases bifE h with ⟨hc13, h⟩ | ⟨hc13, h⟩
            · obtain ⟨e14, he14, h⟩ := bindE h
              obtain ⟨e15, he15, h⟩ := bindE h
              refine AK.go tab_ok hC [.br true, .n 1, .keep [1, 2] [2]] rfl ⟨trivial, hc13⟩ ?_
              refine AK.draw2 tab_ok hC mixed [.a .no none false, .a .no none false, .a .no none false, .a (.row (row_I e14)) none false, .a .no none false, .a .no none false, .a .no none false, .a .no none false, .a (.row (row_I e15)) none false, .a .no none false, .a .no none false, .a .no none false] [] [] [4] [] rfl rfl rfl ⟨⟨trivial, (idxM he14)⟩, (idxM he15)⟩ rfl (by kernel_rfl) rfl rfl rfl ?_
              refine AK.go tab_ok hC [.n 4, .keep [4] []] rfl trivial ?_
              obtain rfl := Option.some.inj h
              refine AK.done ?_
              exact Exists.intro [_] (And.intro (And.intro rfl trivial) (gives trivial))
            · refine AK.go tab_ok hC [.br false, .n 2, .keep [] []] rfl ⟨trivial, hc13⟩ ?_
              exact AK.met (And.intro rfl h)
        · refine AK.go tab_ok hC [.br false, .n 2, .keep [] []] rfl ⟨trivial, hc10⟩ ?_
          exact AK.met (And.intro rfl h)
  · rintro σ ⟨rfl, h⟩
    unfold F_colour_size_k1 at h
    refine AK.go tab_ok hC [.n 6, .keep [4] []] rfl trivial ?_
    obtain rfl := Option.some.inj h
    refine AK.done ?_
    exact Exists.intro [_] (And.intro (And.intro rfl trivial) (gives trivial))

-- 53 baldric/colour.sizes
noncomputable def F_colour_sizes_g1 (e16 : TColour) (m9 : (List (ByteArray × Bool))) (x17 : Int) : Option Bool :=
  (F_colour_Name e16.Name).bind fun x20 =>
  bif (!x20) then
  some true
  else
  bif ((mget m9 e16.Name).getD false) then
  some true
  else
  bif (decide (x17 < 1)) then
  some true
  else
  some (decide (1024 < x17))

noncomputable def F_colour_sizes_k2 (l10 : (List Int)) (x17 : Int) (x8 : Int) (m9 : (List (ByteArray × Bool))) (e16 : TColour) (x18 : Bool) : Option ((Int × (List (ByteArray × Bool)) × (List Int)) ⊕ (Unit ⊕ (List Int))) :=
  bif x18 then
  some (.inr (.inl ()))
  else
  (chk (decide (l10.length + ([x17] : List Int).length ≤ 4294967296))).bind fun _ =>
  some (.inl ((w64 (x8 + 1)), (mset ltS m9 e16.Name true), (l10 ++ ([x17] : List Int))))

noncomputable def F_colour_sizes_l3 (l1 : (List TColour)) (x8 : Int) (m9 : (List (ByteArray × Bool))) (l10 : (List Int)) : Option ((Int × (List (ByteArray × Bool)) × (List Int)) ⊕ (Unit ⊕ (List Int))) :=
  bif (decide (x8 < (l1.length : Int))) then
  (idx l1 x8).bind fun e16 =>
  (F_colour_size e16 l10).bind fun x17 =>
  (F_colour_sizes_g1 e16 m9 x17).bind (fun x18 => F_colour_sizes_k2 l10 x17 x8 m9 e16 x18)
  else
  some (.inr (.inr l10))

noncomputable def F_colour_sizes_c4 : Option ((List Int) × Bool) :=
  some (([] : List Int), false)

noncomputable def F_colour_sizes_c5 (l14 : (List Int)) : Option ((List Int) × Bool) :=
  some (l14, true)

noncomputable def F_colour_sizes (l1 : (List TColour)) : Option ((List Int) × Bool) :=
  bif (decide (32 < (l1.length : Int))) then
  some (([] : List Int), false)
  else
  (loopM (fun st => F_colour_sizes_l3 l1 st.1 st.2.1 st.2.2) (0, ([] : (List (ByteArray × Bool))), ([] : List Int))).bind (Sum.elim (fun q => F_colour_sizes_c4) (fun q => F_colour_sizes_c5 q))

set_option maxRecDepth 100000 in
set_option maxHeartbeats 4000000 in
theorem F_colour_sizes_ok (l1 : (List TColour)) {r : ((List Int) × Bool)} (h : F_colour_sizes l1 = some r) : ACalls Tryz.prog 53 [.sl 7 (l1.map row_TColour)] [] (Gives (.tup [.sl 1 (r.1.map row_I), .b r.2]) []) := by
  refine ACalls.walk 49 Tryz.func53 rfl Tryz.ntmps53 rfl fun C hC => ?_
  unfold F_colour_sizes at h
  refine AK.go tab_ok hC [.n 10, .o (.ln l1.length), .n 3] rfl ⟨trivial, mapLen⟩ ?_
  rcases bifE h with ⟨hc6, h⟩ | ⟨hc6, h⟩
  · refine AK.go tab_ok hC [.br true, .n 8, .denil 2 [some 1], .keep [2, 3] []] rfl ⟨trivial, hc6⟩ ?_
    obtain rfl := Option.some.inj h
    refine AK.done ?_
    exact Exists.intro [_, _] (And.intro (And.intro rfl (And.intro rfl trivial)) (gives trivial))
  · refine AK.go tab_ok hC [.br false, .n 5, .sayO 12 (.map (mapV V.s V.b ([] : (List (ByteArray × Bool))))), .n 12, .o (.ln l1.length), .n 4, .adopt 5 43 1, .sayO 43 (.arr 1 (([] : List Int).map row_I)), .say 5 (.own 43 ([] : List Int).length), .keep [4, 5, 13, 14, 15] [12, 43]] rfl ⟨⟨⟨⟨⟨trivial, hc6⟩, rfl⟩, mapLen⟩, rfl⟩, (congrArg (fun n => V.own 43 n) (by simp))⟩ ?_
    obtain ⟨o26, hl26, h⟩ := bindE h
    refine AK.loop (body := (fun st => F_colour_sizes_l3 l1 st.1 st.2.1 st.2.2)) (fun st σ => σ = ⟨[(4, .map 12), (5, .own 43 st.2.2.length), (13, .sl 7 (l1.map row_TColour)), (14, .i .i64 (l1.length : Int)), (15, .i .i64 st.1)], [(12, .map (mapV V.s V.b st.2.1)), (43, .arr 1 (st.2.2.map row_I))]⟩) (Sum.elim (fun q e σ => e = .ret ∧ σ = ⟨[(2, .lit (.slice none 0 0)), (3, .b false)], []⟩) (fun q e σ => e = .exit 0 ∧ σ = ⟨[(5, .own 43 q.length)], [(43, .arr 1 (q.map row_I))]⟩)) hl26 rfl ?_ ?_
    · rintro ⟨x8, m9, l10⟩ o σ rfl h
      replace h : F_colour_sizes_l3 l1 x8 m9 l10 = some o := h
      unfold F_colour_sizes_l3 at h
      refine AK.go tab_ok hC [.n 6] rfl trivial ?_
      rcases bifE h with ⟨hc15, h⟩ | ⟨hc15, h⟩
      · obtain ⟨e16, he16, h⟩ := bindE h
        obtain ⟨x17, hx17, h⟩ := bindE h
        refine AK.go tab_ok hC [.br true, .n 6, .o (.row (row_TColour e16)), .v .no [] (.agg (row_TColour e16)), .n 2, .sayO 7 (.var (row_TColour e16)), .n 4, .v .no [] (.agg (row_TColour e16)), .n 1, .o (.c true [.d, .o (l10.map row_I)] (.i .i64 x17)), .n 5] rfl ⟨⟨⟨⟨⟨⟨trivial, hc15⟩, (idxM he16)⟩, rfl⟩, rfl⟩, rfl⟩, ⟨(viewMap rfl), (F_colour_size_ok _ _ hx17)⟩⟩ ?_
        obtain ⟨x18, hv19, h⟩ := bindE h
        replace h : F_colour_sizes_k2 l10 x17 x8 m9 e16 x18 = some o := h
        refine AK.meetX (fun σ => σ = ⟨[(4, .map 12), (5, .own 43 l10.length), (7, .loc 7 0 0), (8, .i .i64 x17), (13, .sl 7 (l1.map row_TColour)), (14, .i .i64 (l1.length : Int)), (15, .i .i64 x8), (39, .b x18)], [(7, .var (row_TColour e16)), (12, .map (mapV V.s V.b m9)), (43, .arr 1 (l10.map row_I))]⟩) ?_ ?_
        · replace h := hv19
          unfold F_colour_sizes_g1 at h
          obtain ⟨x20, hx20, h⟩ := bindE h
          refine AK.go tab_ok hC [.n 3, .o (.c false [.d] (.b x20)), .n 2] rfl ⟨trivial, (F_colour_Name_ok _ hx20)⟩ ?_
          rcases bifE h with ⟨hc21, h⟩ | ⟨hc21, h⟩
          · refine AK.go tab_ok hC [.say 26 (.b true), .n 14, .keep [4, 5, 7, 8, 13, 14, 15, 39] [7, 12, 43]] rfl ⟨trivial, (congrArg V.b hc21)⟩ ?_
            obtain rfl := Option.some.inj h
            exact AK.met rfl
          · refine AK.go tab_ok hC [.say 26 (.b false), .n 3, .o (.any (.b ((mget m9 e16.Name).getD false)) none), .n 2] rfl ⟨⟨trivial, (congrArg V.b hc21)⟩, (fun σ h1 h2 _ => Stp.lookup (e := V.s) (f := V.b) (l := m9) (k := e16.Name) (z := false) rfl rfl (hC ▸ rfl) (h1 _ _ rfl) (h2 _ _ rfl) (h1 _ _ rfl) mt_138 ky_9 zi_4 rfl)⟩ ?_
            rcases bifE h with ⟨hc22, h⟩ | ⟨hc22, h⟩
            · refine AK.go tab_ok hC [.say 32 (.b true), .n 8, .keep [4, 5, 7, 8, 13, 14, 15, 39] [7, 12, 43]] rfl ⟨trivial, (congrArg V.b hc22)⟩ ?_
              obtain rfl := Option.some.inj h
              exact AK.met rfl
            · refine AK.go tab_ok hC [.say 32 (.b false), .n 4] rfl ⟨trivial, (congrArg V.b hc22)⟩ ?_
              rcases bifE h with ⟨hc23, h⟩ | ⟨hc23, h⟩
              · refine AK.go tab_ok hC [.say 36 (.b true), .n 4, .keep [4, 5, 7, 8, 13, 14, 15, 39] [7, 12, 43]] rfl ⟨trivial, (congrArg V.b hc23)⟩ ?_
                obtain rfl := Option.some.inj h
                exact AK.met rfl
              · refine AK.go tab_ok hC [.say 36 (.b false), .n 4, .keep [4, 5, 7, 8, 13, 14, 15, 39] [7, 12, 43]] rfl ⟨trivial, (congrArg V.b hc23)⟩ ?_
                obtain rfl := Option.some.inj h
                exact AK.met rfl
        · rintro σ rfl
          replace h : F_colour_sizes_k2 l10 x17 x8 m9 e16 x18 = some o := h
          unfold F_colour_sizes_k2 at h
          refine AK.go tab_ok hC [.n 1] rfl trivial ?_
          rcases bifE h with ⟨hc24, h⟩ | ⟨hc24, h⟩
          · refine AK.go tab_ok hC [.br true, .n 10, .keep [2, 3] []] rfl ⟨trivial, hc24⟩ ?_
            obtain rfl := Option.some.inj h
            exact rndR rfl (And.intro rfl rfl)
          · obtain ⟨_, hk25, h⟩ := bindE h
            replace hk25 := chkE hk25
            refine AK.go tab_ok hC [.br false, .n 7, .x (fun σ => σ.set 12 (.map (mapV V.s V.b (mset ltS m9 e16.Name true)))), .n 5, .v (.bd []) [] (.sl 1 (([x17] : List Int).map row_I)), .app ((l10 ++ ([x17] : List Int)).map row_I) (l10 ++ ([x17] : List Int)).length, .n 8, .keep [4, 5, 13, 14, 15] [12, 43]] rfl ⟨⟨⟨⟨trivial, hc24⟩, (Stp.mapUpdate (e := V.s) (f := V.b) (l := m9) (k := e16.Name) (v := true) ltS rfl rfl rfl rfl rfl rfl mt_138 ky_9 rfl)⟩, rfl⟩, ⟨mapLen, appLim hk25 mapLen, mapApps, appLn mapLen⟩⟩ ?_
            obtain rfl := Option.some.inj h
            exact rndN rfl rfl
      · refine AK.go tab_ok hC [.br false, .n 2, .keep [5] [43]] rfl ⟨trivial, hc15⟩ ?_
        obtain rfl := Option.some.inj h
        exact rndX rfl (And.intro rfl rfl)
    · rcases o26 with (_ | l14)
      · replace h : F_colour_sizes_c4 = some r := h
        unfold F_colour_sizes_c4 at h
        rintro e σ ⟨rfl, rfl⟩
        refine AK.go tab_ok hC [.n 2, .denil 2 [some 1], .keep [2, 3] []] rfl trivial ?_
        obtain rfl := Option.some.inj h
        refine AK.done ?_
        exact Exists.intro [_, _] (And.intro (And.intro rfl (And.intro rfl trivial)) (gives trivial))
      · replace h : F_colour_sizes_c5 l14 = some r := h
        unfold F_colour_sizes_c5 at h
        rintro e σ ⟨rfl, rfl⟩
        refine AK.go tab_ok hC [.n 10, .frz 43 (l14.map row_I) [2] [], .keep [2, 3] []] rfl ⟨trivial, ⟨trivial, (frzL mapLen)⟩⟩ ?_
        obtain rfl := Option.some.inj h
        refine AK.done ?_
        exact Exists.intro [_, _] (And.intro (And.intro rfl (And.intro rfl trivial)) (gives trivial))

-- 41 baldric/colour.of
noncomputable def F_colour_of (l1 : (List TColour)) (k2 : Int) : Option (Bool × Tcolour_set) :=
  (F_colour_sizes l1).bind fun x7 =>
  bif ((!x7.2) || ((decide (k2 < 0)) || (decide ((l1.length : Int) ≤ k2)))) then
  some (false, (Tcolour_set.mk ([] : (List TColour)) ([] : (List Int)) 0))
  else
  some (true, (Tcolour_set.mk l1 x7.1 k2))

set_option maxRecDepth 100000 in
set_option maxHeartbeats 4000000 in
theorem F_colour_of_ok (l1 : (List TColour)) (k2 : Int) {r : (Bool × Tcolour_set)} (h : F_colour_of l1 k2 = some r) : ACalls Tryz.prog 41 [.sl 7 (l1.map row_TColour), .i .i64 k2] [] (Gives (.tup [.agg (row_Tcolour_set r.2), .b r.1]) []) := by
  refine ACalls.walk 30 Tryz.func41 rfl Tryz.ntmps41 rfl fun C hC => ?_
  unfold F_colour_of at h
  obtain ⟨x7, hx7, h⟩ := bindE h
  refine AK.go tab_ok hC [.n 9, .o (.c false [.d] (.tup [.sl 1 (x7.1.map row_I), .b x7.2])), .n 9] rfl ⟨trivial, (F_colour_sizes_ok _ hx7)⟩ ?_
  refine AK.meetX (fun σ => σ = ⟨[(0, .sl 7 (l1.map row_TColour)), (1, .i .i64 k2), (4, .loc 4 0 0), (6, .sl 1 (x7.1.map row_I)), (24, .b ((!x7.2) || ((decide (k2 < 0)) || (decide ((l1.length : Int) ≤ k2)))))], [(4, .var [.lit (.slice none 0 0), .lit (.slice none 0 0), .i .i64 0])]⟩) ?_ ?_
  · refine AK.go tab_ok hC [.n 4] rfl trivial ?_
    rcases boolOr (!x7.2) with hc9 | hc9
    · refine AK.go tab_ok hC [.say 15 (.b true), .n 10, .say 24 (.b ((!x7.2) || ((decide (k2 < 0)) || (decide ((l1.length : Int) ≤ k2))))), .keep [0, 1, 4, 6, 24] [4]] rfl ⟨⟨trivial, (congrArg V.b hc9)⟩, (congrArg V.b (orT hc9 rfl))⟩ ?_
      exact AK.met rfl
    · refine AK.go tab_ok hC [.say 15 (.b false), .n 4] rfl ⟨trivial, (congrArg V.b hc9)⟩ ?_
      rcases boolOr (decide (k2 < 0)) with hc10 | hc10
      · refine AK.go tab_ok hC [.say 19 (.b true), .n 6, .say 24 (.b ((!x7.2) || ((decide (k2 < 0)) || (decide ((l1.length : Int) ≤ k2))))), .keep [0, 1, 4, 6, 24] [4]] rfl ⟨⟨trivial, (congrArg V.b hc10)⟩, (congrArg V.b (orF hc9 (orT hc10 rfl)))⟩ ?_
        exact AK.met rfl
      · refine AK.go tab_ok hC [.say 19 (.b false), .n 2, .o (.ln l1.length), .n 3, .say 24 (.b ((!x7.2) || ((decide (k2 < 0)) || (decide ((l1.length : Int) ≤ k2))))), .keep [0, 1, 4, 6, 24] [4]] rfl ⟨⟨⟨trivial, (congrArg V.b hc10)⟩, mapLen⟩, (congrArg V.b (orF hc9 (orF hc10 rfl)))⟩ ?_
        exact AK.met rfl
  · rintro σ rfl
    refine AK.go tab_ok hC [.n 1] rfl trivial ?_
    rcases bifE h with ⟨hc11, h⟩ | ⟨hc11, h⟩
    · refine AK.go tab_ok hC [.br true, .n 2, .v .no [some 7, some 1, none] (.agg (row_Tcolour_set (Tcolour_set.mk ([] : (List TColour)) ([] : (List Int)) 0))), .n 1, .sayO 4 (.var (row_Tcolour_set (Tcolour_set.mk ([] : (List TColour)) ([] : (List Int)) 0))), .n 5, .keep [4, 5] [4]] rfl ⟨⟨⟨trivial, hc11⟩, rfl⟩, rfl⟩ ?_
      obtain rfl := Option.some.inj h
      refine AK.done ?_
      exact Exists.intro [_, _] (And.intro (And.intro (Exists.intro _ (Exists.intro _ (And.intro rfl (And.intro rfl (Or.inl (And.intro (tab_ok.ag rfl) (And.intro (tab_ok.sz rfl) rfl))))))) (And.intro rfl trivial)) (gives trivial))
    · refine AK.go tab_ok hC [.br false, .n 7, .v .no [] (.agg (row_Tcolour_set (Tcolour_set.mk l1 x7.1 k2))), .n 1, .sayO 4 (.var (row_Tcolour_set (Tcolour_set.mk l1 x7.1 k2))), .n 4, .keep [4, 5] [4]] rfl ⟨⟨⟨trivial, hc11⟩, rfl⟩, rfl⟩ ?_
      obtain rfl := Option.some.inj h
      refine AK.done ?_
      exact Exists.intro [_, _] (And.intro (And.intro (Exists.intro _ (Exists.intro _ (And.intro rfl (And.intro rfl (Or.inl (And.intro (tab_ok.ag rfl) (And.intro (tab_ok.sz rfl) rfl))))))) (And.intro rfl trivial)) (gives trivial))

-- 49 (baldric/colour.set).has
noncomputable def F_colour_set_has_g1 (m2 : Int) (s1 : Tcolour_set) : Option Bool :=
  bif (decide (0 ≤ m2)) then
  (idx s1.sizes s1.k).bind fun e7 =>
  some (decide (m2 < e7))
  else
  some false

noncomputable def F_colour_set_has_k2 (x4 : Bool) : Option Bool :=
  some x4

noncomputable def F_colour_set_has (s1 : Tcolour_set) (m2 : Int) : Option Bool :=
  (F_colour_set_has_g1 m2 s1).bind (fun x4 => F_colour_set_has_k2 x4)

set_option maxRecDepth 100000 in
set_option maxHeartbeats 4000000 in
theorem F_colour_set_has_ok (s1 : Tcolour_set) (m2 : Int) {r : Bool} (h : F_colour_set_has s1 m2 = some r) : ACalls Tryz.prog 49 [.agg (row_Tcolour_set s1), .i .i64 m2] [] (Gives (.b r) []) := by
  refine ACalls.walk 17 Tryz.func49 rfl Tryz.ntmps49 rfl fun C hC => ?_
  unfold F_colour_set_has at h
  refine AK.go tab_ok hC [.n 7] rfl trivial ?_
  obtain ⟨x4, hv5, h⟩ := bindE h
  replace h : F_colour_set_has_k2 x4 = some r := h
  refine AK.meetX (fun σ => σ = ⟨[(4, .b x4)], []⟩) ?_ ?_
  · replace h := hv5
    unfold F_colour_set_has_g1 at h
    refine AK.go tab_ok hC [.n 4] rfl trivial ?_
    rcases bifE h with ⟨hc6, h⟩ | ⟨hc6, h⟩
    · obtain ⟨e7, he7, h⟩ := bindE h
      refine AK.go tab_ok hC [.say 7 (.b true), .n 5, .o (.row (row_I e7)), .n 5, .keep [4] []] rfl ⟨⟨trivial, (congrArg V.b hc6)⟩, (idxM he7)⟩ ?_
      obtain rfl := Option.some.inj h
      exact AK.met rfl
    · refine AK.go tab_ok hC [.say 7 (.b false), .n 11, .keep [4] []] rfl ⟨trivial, (congrArg V.b hc6)⟩ ?_
      obtain rfl := Option.some.inj h
      exact AK.met rfl
  · rintro σ rfl
    replace h : F_colour_set_has_k2 x4 = some r := h
    unfold F_colour_set_has_k2 at h
    refine AK.go tab_ok hC [.n 2, .keep [4] []] rfl trivial ?_
    obtain rfl := Option.some.inj h
    refine AK.done ?_
    exact Exists.intro [_] (And.intro (And.intro rfl trivial) (gives trivial))

-- 50 (baldric/colour.set).colour
noncomputable def F_colour_set_colour (s1 : Tcolour_set) : Option TColour :=
  (idx s1.all s1.k).bind fun e3 =>
  some e3

set_option maxRecDepth 100000 in
set_option maxHeartbeats 4000000 in
theorem F_colour_set_colour_ok (s1 : Tcolour_set) {r : TColour} (h : F_colour_set_colour s1 = some r) : ACalls Tryz.prog 50 [.agg (row_Tcolour_set s1)] [] (Gives (.agg (row_TColour r)) []) := by
  refine ACalls.walk 9 Tryz.func50 rfl Tryz.ntmps50 rfl fun C hC => ?_
  unfold F_colour_set_colour at h
  obtain ⟨e3, he3, h⟩ := bindE h
  refine AK.go tab_ok hC [.n 12, .o (.row (row_TColour e3)), .v .no [] (.agg (row_TColour e3)), .n 1, .sayO 2 (.var (row_TColour e3)), .n 3, .keep [2] [2]] rfl ⟨⟨⟨trivial, (idxM he3)⟩, rfl⟩, rfl⟩ ?_
  obtain rfl := Option.some.inj h
  refine AK.done ?_
  exact Exists.intro [_] (And.intro (And.intro (Exists.intro _ (Exists.intro _ (And.intro rfl (And.intro rfl (Or.inl (And.intro (tab_ok.ag rfl) (And.intro (tab_ok.sz rfl) rfl))))))) trivial) (gives trivial))

-- 34 baldric/colour.Number
noncomputable def F_colour_Number_g1 (x8 : (Bool × Tcolour_set)) (m3 : Int) : Option Bool :=
  bif (!x8.1) then
  some true
  else
  (F_colour_set_has x8.2 m3).bind fun x12 =>
  some (!x12)

noncomputable def F_colour_Number_k2 (x8 : (Bool × Tcolour_set)) (m3 : Int) (x9 : Bool) : Option (Int × Bool) :=
  bif x9 then
  some (0, false)
  else
  (F_colour_set_colour x8.2).bind fun x14 =>
  bif (x14.Kind == 1) then
  (F_colour_set_colour x8.2).bind fun x16 =>
  some ((w64 (x16.Lo + m3)), true)
  else
  some (m3, true)

noncomputable def F_colour_Number (l1 : (List TColour)) (k2 : Int) (m3 : Int) : Option (Int × Bool) :=
  (F_colour_of l1 k2).bind fun x8 =>
  (F_colour_Number_g1 x8 m3).bind (fun x9 => F_colour_Number_k2 x8 m3 x9)

set_option maxRecDepth 100000 in
set_option maxHeartbeats 4000000 in
theorem F_colour_Number_ok (l1 : (List TColour)) (k2 : Int) (m3 : Int) {r : (Int × Bool)} (h : F_colour_Number l1 k2 m3 = some r) : ACalls Tryz.prog 34 [.sl 7 (l1.map row_TColour), .i .i64 k2, .i .i64 m3] [] (Gives (.tup [.i .i64 r.1, .b r.2]) []) := by
  refine ACalls.walk 36 Tryz.func34 rfl Tryz.ntmps34 rfl fun C hC => ?_
  unfold F_colour_Number at h
  obtain ⟨x8, hx8, h⟩ := bindE h
  refine AK.go tab_ok hC [.n 10, .o (.c false [.d, .d] (.tup [.agg (row_Tcolour_set x8.2), .b x8.1])), .n 5, .sayO 8 (.var (row_Tcolour_set x8.2)), .n 6] rfl ⟨⟨trivial, (F_colour_of_ok _ _ hx8)⟩, rfl⟩ ?_
  obtain ⟨x9, hv10, h⟩ := bindE h
  replace h : F_colour_Number_k2 x8 m3 x9 = some r := h
  refine AK.meetX (fun σ => σ = ⟨[(2, .i .i64 m3), (8, .loc 8 0 0), (16, .b x9)], [(8, .var (row_Tcolour_set x8.2))]⟩) ?_ ?_
  · replace h := hv10
    unfold F_colour_Number_g1 at h
    refine AK.go tab_ok hC [.n 4] rfl trivial ?_
    rcases bifE h with ⟨hc11, h⟩ | ⟨hc11, h⟩
    · refine AK.go tab_ok hC [.say 19 (.b true), .n 7, .keep [2, 8, 16] [8]] rfl ⟨trivial, (congrArg V.b hc11)⟩ ?_
      obtain rfl := Option.some.inj h
      exact AK.met rfl
    · obtain ⟨x12, hx12, h⟩ := bindE h
      refine AK.go tab_ok hC [.say 19 (.b false), .v .no [] (.agg (row_Tcolour_set x8.2)), .n 1, .o (.c false [.d, .d] (.b x12)), .n 4, .keep [2, 8, 16] [8]] rfl ⟨⟨⟨trivial, (congrArg V.b hc11)⟩, rfl⟩, (F_colour_set_has_ok _ _ hx12)⟩ ?_
      obtain rfl := Option.some.inj h
      exact AK.met rfl
  · rintro σ rfl
    replace h : F_colour_Number_k2 x8 m3 x9 = some r := h
    unfold F_colour_Number_k2 at h
    refine AK.go tab_ok hC [.n 1] rfl trivial ?_
    rcases bifE h with ⟨hc13, h⟩ | ⟨hc13, h⟩
    · refine AK.go tab_ok hC [.br true, .n 9, .keep [6, 7] []] rfl ⟨trivial, hc13⟩ ?_
      obtain rfl := Option.some.inj h
      refine AK.done ?_
      exact Exists.intro [_, _] (And.intro (And.intro rfl (And.intro rfl trivial)) (gives trivial))
    · obtain ⟨x14, hx14, h⟩ := bindE h
      refine AK.go tab_ok hC [.br false, .n 2, .v .no [] (.agg (row_Tcolour_set x8.2)), .o (.c false [.d] (.agg (row_TColour x14))), .o (.any (.i .i64 x14.Kind) none), .n 4] rfl ⟨⟨⟨⟨trivial, hc13⟩, rfl⟩, (F_colour_set_colour_ok _ hx14)⟩, (fun σ h1 h2 _ => Stp.field rfl rfl (hC ▸ rfl) (h1 _ _ rfl) fi_54_1 rfl)⟩ ?_
      rcases bifE h with ⟨hc15, h⟩ | ⟨hc15, h⟩
      · obtain ⟨x16, hx16, h⟩ := bindE h
        refine AK.go tab_ok hC [.br true, .n 2, .v .no [] (.agg (row_Tcolour_set x8.2)), .o (.c false [.d] (.agg (row_TColour x16))), .o (.any (.i .i64 x16.Lo) none), .n 9, .keep [6, 7] []] rfl ⟨⟨⟨⟨trivial, hc15⟩, rfl⟩, (F_colour_set_colour_ok _ hx16)⟩, (fun σ h1 h2 _ => Stp.field rfl rfl (hC ▸ rfl) (h1 _ _ rfl) fi_54_2 rfl)⟩ ?_
        obtain rfl := Option.some.inj h
        refine AK.done ?_
        exact Exists.intro [_, _] (And.intro (And.intro rfl (And.intro rfl trivial)) (gives trivial))
      · refine AK.go tab_ok hC [.br false, .n 11, .keep [6, 7] []] rfl ⟨trivial, hc15⟩ ?_
        obtain rfl := Option.some.inj h
        refine AK.done ?_
        exact Exists.intro [_, _] (And.intro (And.intro rfl (And.intro rfl trivial)) (gives trivial))

-- 23 baldric/bind.Env
noncomputable def F_bind_Env_l1 (e11 : TTask) (vars3 : (List Int)) (n1 : TNet) (x15 : Int) (l16 : (List Int)) : Option ((Int × (List Int)) ⊕ (Unit ⊕ (List Int))) :=
  bif (decide (x15 < (e11.Vars.length : Int))) then
  (idx e11.Vars x15).bind fun e21 =>
  (idx vars3 x15).bind fun e22 =>
  (F_colour_Number n1.Colours e21.Colour e22).bind fun x23 =>
  bif (!x23.2) then
  some (.inr (.inl ()))
  else
  (idx l16 x15).bind fun e25 =>
  some (.inl ((w64 (x15 + 1)), (l16.set x15.toNat x23.1)))
  else
  some (.inr (.inr l16))

noncomputable def F_bind_Env_c2 : Option ((List Int) × Int) :=
  some (([] : List Int), 1)

noncomputable def F_bind_Env_c3 (l19 : (List Int)) : Option ((List Int) × Int) :=
  some (l19, 0)

noncomputable def F_bind_Env (n1 : TNet) (task2 : Int) (vars3 : (List Int)) : Option ((List Int) × Int) :=
  bif ((decide (task2 < 0)) || (decide ((n1.Tasks.length : Int) ≤ task2))) then
  some (([] : List Int), 3)
  else
  (idx n1.Tasks task2).bind fun e11 =>
  bif ((vars3.length : Int) != (e11.Vars.length : Int)) then
  some (([] : List Int), 1)
  else
  (chk (decide (0 ≤ (e11.Vars.length : Int)) && decide ((e11.Vars.length : Int) ≤ (e11.Vars.length : Int)) && decide ((e11.Vars.length : Int) ≤ 4294967296))).bind fun _ =>
  (loopM (fun st => F_bind_Env_l1 e11 vars3 n1 st.1 st.2) (0, (List.replicate (e11.Vars.length : Int).toNat (0 : Int)))).bind (Sum.elim (fun q => F_bind_Env_c2) (fun q => F_bind_Env_c3 q))

set_option maxRecDepth 100000 in
set_option maxHeartbeats 4000000 in
theorem F_bind_Env_ok (n1 : TNet) (task2 : Int) (vars3 : (List Int)) {r : ((List Int) × Int)} (h : F_bind_Env n1 task2 vars3 = some r) : ACalls Tryz.prog 23 [.agg (row_TNet n1), .i .i64 task2, .sl 1 (vars3.map row_I)] [] (Gives (.tup [.sl 1 (r.1.map row_I), .i .i64 r.2]) []) := by
  refine ACalls.walk 64 Tryz.func23 rfl Tryz.ntmps23 rfl fun C hC => ?_
  unfold F_bind_Env at h
  refine AK.go tab_ok hC [.n 9] rfl trivial ?_
  refine AK.meetX (fun σ => σ = ⟨[(1, .i .i64 task2), (2, .sl 1 (vars3.map row_I)), (3, .loc 3 0 0), (22, .b ((decide (task2 < 0)) || (decide ((n1.Tasks.length : Int) ≤ task2))))], [(3, .var (row_TNet n1))]⟩) ?_ ?_
  · refine AK.go tab_ok hC [.n 4] rfl trivial ?_
    rcases boolOr (decide (task2 < 0)) with hc9 | hc9
    · refine AK.go tab_ok hC [.say 16 (.b true), .n 7, .say 22 (.b ((decide (task2 < 0)) || (decide ((n1.Tasks.length : Int) ≤ task2)))), .keep [1, 2, 3, 22] [3]] rfl ⟨⟨trivial, (congrArg V.b hc9)⟩, (congrArg V.b (orT hc9 rfl))⟩ ?_
      exact AK.met rfl
    · refine AK.go tab_ok hC [.say 16 (.b false), .n 3, .o (.ln n1.Tasks.length), .n 3, .say 22 (.b ((decide (task2 < 0)) || (decide ((n1.Tasks.length : Int) ≤ task2)))), .keep [1, 2, 3, 22] [3]] rfl ⟨⟨⟨trivial, (congrArg V.b hc9)⟩, mapLen⟩, (congrArg V.b (orF hc9 rfl))⟩ ?_
      exact AK.met rfl
  · rintro σ rfl
    refine AK.go tab_ok hC [.n 1] rfl trivial ?_
    rcases bifE h with ⟨hc10, h⟩ | ⟨hc10, h⟩
    · refine AK.go tab_ok hC [.br true, .n 8, .denil 6 [some 1], .keep [6, 7] []] rfl ⟨trivial, hc10⟩ ?_
      obtain rfl := Option.some.inj h
      refine AK.done ?_
      exact Exists.intro [_, _] (And.intro (And.intro rfl (And.intro rfl trivial)) (gives trivial))
    · obtain ⟨e11, he11, h⟩ := bindE h
      refine AK.go tab_ok hC [.br false, .n 7, .o (.row (row_TTask e11)), .n 9, .o (.ln vars3.length), .n 1, .o (.ln e11.Vars.length), .n 3] rfl ⟨⟨⟨⟨trivial, hc10⟩, (idxM he11)⟩, mapLen⟩, mapLen⟩ ?_
      rcases bifE h with ⟨hc12, h⟩ | ⟨hc12, h⟩
      · refine AK.go tab_ok hC [.br true, .n 8, .denil 6 [some 1], .keep [6, 7] []] rfl ⟨trivial, hc12⟩ ?_
        obtain rfl := Option.some.inj h
        refine AK.done ?_
        exact Exists.intro [_, _] (And.intro (And.intro rfl (And.intro rfl trivial)) (gives trivial))
      · obtain ⟨_, hk13, h⟩ := bindE h
        replace hk13 := chkE hk13
        refine AK.go tab_ok hC [.br false, .n 5, .o (.ln e11.Vars.length), .o (.rows ((List.replicate (e11.Vars.length : Int).toNat (0 : Int)).map row_I)), .say 36 (.own 36 (List.replicate (e11.Vars.length : Int).toNat (0 : Int)).length), .n 7, .o (.ln e11.Vars.length), .n 4, .keep [2, 3, 9, 37, 38, 39] [3, 36]] rfl ⟨⟨⟨⟨⟨trivial, hc12⟩, mapLen⟩, ⟨hk13, mapRep rfl⟩⟩, (by simp)⟩, mapLen⟩ ?_
        obtain ⟨o26, hl26, h⟩ := bindE h
        refine AK.loop (body := (fun st => F_bind_Env_l1 e11 vars3 n1 st.1 st.2)) (fun st σ => σ = ⟨[(2, .sl 1 (vars3.map row_I)), (3, .loc 3 0 0), (9, .own 36 st.2.length), (37, .sl 2 (e11.Vars.map row_TVar)), (38, .i .i64 (e11.Vars.length : Int)), (39, .i .i64 st.1)], [(3, .var (row_TNet n1)), (36, .arr 1 (st.2.map row_I))]⟩) (Sum.elim (fun q e σ => e = .ret ∧ σ = ⟨[(6, .lit (.slice none 0 0)), (7, .i .i64 1)], []⟩) (fun q e σ => e = .exit 0 ∧ σ = ⟨[(9, .own 36 q.length)], [(36, .arr 1 (q.map row_I))]⟩)) hl26 rfl ?_ ?_
        · rintro ⟨x15, l16⟩ o σ rfl h
          replace h : F_bind_Env_l1 e11 vars3 n1 x15 l16 = some o := h
          unfold F_bind_Env_l1 at h
          refine AK.go tab_ok hC [.n 6] rfl trivial ?_
          rcases bifE h with ⟨hc20, h⟩ | ⟨hc20, h⟩
          · obtain ⟨e21, he21, h⟩ := bindE h
            obtain ⟨e22, he22, h⟩ := bindE h
            obtain ⟨x23, hx23, h⟩ := bindE h
            refine AK.go tab_ok hC [.br true, .n 7, .o (.row (row_TVar e21)), .v .no [] (.agg (row_TVar e21)), .n 3, .sayO 11 (.var (row_TVar e21)), .n 3, .keep [2, 3, 9, 10, 11, 37, 38, 39] [3, 11, 36]] rfl ⟨⟨⟨⟨trivial, hc20⟩, (idxM he21)⟩, rfl⟩, rfl⟩ ?_
            refine AK.draw2 tab_ok hC mixed [.a .no none false, .a .no none false, .a .no none false, .a .no none false, .a .no none false, .a .no none false, .a (.row (row_I e22)) none false, .a .no none false, .a (.c false [.d, .d, .d] (.tup [.i .i64 x23.1, .b x23.2])) none false, .a .no none false, .a .no none false, .a .no none false, .a .no none false, .a .no none false] [] [] [2, 3, 9, 10, 12, 13, 37, 38, 39] [3, 36] rfl rfl rfl ⟨⟨trivial, (idxM he22)⟩, (F_colour_Number_ok _ _ _ hx23)⟩ rfl (by kernel_rfl) rfl rfl rfl ?_
            refine AK.go tab_ok hC [.n 8] rfl trivial ?_
            rcases bifE h with ⟨hc24, h⟩ | ⟨hc24, h⟩
            · refine AK.go tab_ok hC [.br true, .n 10, .keep [6, 7] []] rfl ⟨trivial, hc24⟩ ?_
              obtain rfl := Option.some.inj h
              exact rndR rfl (And.intro rfl rfl)
            · obtain ⟨e25, he25, h⟩ := bindE h
              refine AK.go tab_ok hC [.br false, .n 7, .st (row_I e25) ((l16.set x15.toNat x23.1).map row_I), .n 7, .say 9 (.own 36 (l16.set x15.toNat x23.1).length), .keep [2, 3, 9, 37, 38, 39] [3, 36]] rfl ⟨⟨⟨⟨trivial, hc24⟩, (idxOw he25 rfl)⟩, ⟨(mapGet (idxE he25).2), mapSet rfl⟩⟩, (congrArg (fun n => V.own 36 n) (by simp))⟩ ?_
              obtain rfl := Option.some.inj h
              exact rndN rfl rfl
          · refine AK.go tab_ok hC [.br false, .n 2, .keep [9] [36]] rfl ⟨trivial, hc20⟩ ?_
            obtain rfl := Option.some.inj h
            exact rndX rfl (And.intro rfl rfl)
        · rcases o26 with (_ | l19)
          · replace h : F_bind_Env_c2 = some r := h
            unfold F_bind_Env_c2 at h
            rintro e σ ⟨rfl, rfl⟩
            refine AK.go tab_ok hC [.n 2, .denil 6 [some 1], .keep [6, 7] []] rfl trivial ?_
            obtain rfl := Option.some.inj h
            refine AK.done ?_
            exact Exists.intro [_, _] (And.intro (And.intro rfl (And.intro rfl trivial)) (gives trivial))
          · replace h : F_bind_Env_c3 l19 = some r := h
            unfold F_bind_Env_c3 at h
            rintro e σ ⟨rfl, rfl⟩
            refine AK.go tab_ok hC [.n 10, .frz 36 (l19.map row_I) [6] [], .keep [6, 7] []] rfl ⟨trivial, ⟨trivial, (frzL mapLen)⟩⟩ ?_
            obtain rfl := Option.some.inj h
            refine AK.done ?_
            exact Exists.intro [_, _] (And.intro (And.intro rfl (And.intro rfl trivial)) (gives trivial))

-- 15 baldric/bind.bound
noncomputable def F_bind_bound (n1 : TNet) (m2 : (List (List (Int × Int)))) (task3 : Int) (vars4 : (List Int)) : Option (Int × Tbind_binder) :=
  (F_bind_Env n1 task3 vars4).bind fun x9 =>
  bif (x9.2 != 0) then
  some (x9.2, (Tbind_binder.mk (TNet.mk ([] : (List TColour)) ([] : (List TPlace)) ([] : (List TTask)) 0 0) ([] : (List (List (Int × Int)))) (TTask.mk (⟨#[]⟩ : ByteArray) ([] : (List TVar)) (TExpr.mk 0 0 ([] : (List TExpr))) 0 0 ([] : (List TArc)) ([] : (List TArc)) ([] : (List Int)) 0 (0, 0, 0)) ([] : (List Int))))
  else
  (idx n1.Tasks task3).bind fun e11 =>
  some (0, (Tbind_binder.mk n1 m2 e11 x9.1))

set_option maxRecDepth 100000 in
set_option maxHeartbeats 4000000 in
theorem F_bind_bound_ok (n1 : TNet) (m2 : (List (List (Int × Int)))) (task3 : Int) (vars4 : (List Int)) {r : (Int × Tbind_binder)} (h : F_bind_bound n1 m2 task3 vars4 = some r) : ACalls Tryz.prog 15 [.agg (row_TNet n1), .sl 1 (m2.map row_LA2I), .i .i64 task3, .sl 1 (vars4.map row_I)] [] (Gives (.tup [.agg (row_Tbind_binder r.2), .i .i64 r.1]) []) := by
  refine ACalls.walk 32 Tryz.func15 rfl Tryz.ntmps15 rfl fun C hC => ?_
  unfold F_bind_bound at h
  obtain ⟨x9, hx9, h⟩ := bindE h
  refine AK.go tab_ok hC [.n 9, .v .no [] (.agg (row_TNet n1)), .n 2, .o (.c false [.d, .d, .d] (.tup [.sl 1 (x9.1.map row_I), .i .i64 x9.2])), .n 14] rfl ⟨⟨trivial, rfl⟩, (F_bind_Env_ok _ _ _ hx9)⟩ ?_
  rcases bifE h with ⟨hc10, h⟩ | ⟨hc10, h⟩
  · refine AK.go tab_ok hC [.br true, .n 2, .v .no [some 7, some 3, some 14, none, none, some 1, none, some 2, none, none, some 3, none, none, some 4, some 4, some 1, none, none, none, none, some 1] (.agg (row_Tbind_binder (Tbind_binder.mk (TNet.mk ([] : (List TColour)) ([] : (List TPlace)) ([] : (List TTask)) 0 0) ([] : (List (List (Int × Int)))) (TTask.mk (⟨#[]⟩ : ByteArray) ([] : (List TVar)) (TExpr.mk 0 0 ([] : (List TExpr))) 0 0 ([] : (List TArc)) ([] : (List TArc)) ([] : (List Int)) 0 (0, 0, 0)) ([] : (List Int))))), .n 2, .sayO 8 (.var (row_Tbind_binder (Tbind_binder.mk (TNet.mk ([] : (List TColour)) ([] : (List TPlace)) ([] : (List TTask)) 0 0) ([] : (List (List (Int × Int)))) (TTask.mk (⟨#[]⟩ : ByteArray) ([] : (List TVar)) (TExpr.mk 0 0 ([] : (List TExpr))) 0 0 ([] : (List TArc)) ([] : (List TArc)) ([] : (List Int)) 0 (0, 0, 0)) ([] : (List Int))))), .n 5, .keep [8, 9] [8]] rfl ⟨⟨⟨trivial, hc10⟩, rfl⟩, rfl⟩ ?_
    obtain rfl := Option.some.inj h
    refine AK.done ?_
    exact Exists.intro [_, _] (And.intro (And.intro (Exists.intro _ (Exists.intro _ (And.intro rfl (And.intro rfl (Or.inl (And.intro (tab_ok.ag rfl) (And.intro (tab_ok.sz rfl) rfl))))))) (And.intro rfl trivial)) (gives trivial))
  · obtain ⟨e11, he11, h⟩ := bindE h
    refine AK.go tab_ok hC [.br false, .n 3, .keep [1, 2, 4, 8, 9, 10] [4, 8]] rfl ⟨trivial, hc10⟩ ?_
    refine AK.draw2 tab_ok hC mixed [.a .no (some ([], .agg (row_TNet n1))) false, .a .no none false, .a .no none false, .a .no none false, .a .no none false, .a (.row (row_TTask e11)) none false, .a .no (some ([], .agg (row_TTask e11))) false, .a .no none false, .a .no (some ([], .agg (row_Tbind_binder (Tbind_binder.mk n1 m2 e11 x9.1)))) false, .m .s, .m .s] [] [] [8, 9] [8] rfl rfl rfl ⟨⟨⟨⟨trivial, rfl⟩, (idxM he11)⟩, rfl⟩, rfl⟩ rfl (by kernel_rfl) rfl rfl rfl ?_
    refine AK.go tab_ok hC [.sayO 8 (.var (row_Tbind_binder (Tbind_binder.mk n1 m2 e11 x9.1))), .n 2, .keep [8, 9] [8]] rfl ⟨trivial, rfl⟩ ?_
    obtain rfl := Option.some.inj h
    refine AK.done ?_
    exact Exists.intro [_, _] (And.intro (And.intro (Exists.intro _ (Exists.intro _ (And.intro rfl (And.intro rfl (Or.inl (And.intro (tab_ok.ag rfl) (And.intro (tab_ok.sz rfl) rfl))))))) (And.intro rfl trivial)) (gives trivial))

-- 54 baldric/expr.Depth
noncomputable def F_expr_Depth_l1 (e1 : TExpr) (rec_expr_Depth : TExpr → Option Int) (n3 : Int) (x4 : Int) : Option ((Int × Int) ⊕ Int) :=
  bif (decide (x4 < (e1.Kids.length : Int))) then
  (idx e1.Kids x4).bind fun e9 =>
  (rec_expr_Depth e9).bind fun x10 =>
  some (.inl ((max2 n3 x10), (w64 (x4 + 1))))
  else
  some (.inr n3)

noncomputable def F_expr_Depth_c2 (n7 : Int) : Option Int :=
  some (w64 (n7 + 1))

noncomputable def F_expr_Depth_s (rec_expr_Depth : TExpr → Option Int) (e1 : TExpr) : Option Int :=
  (loopM (fun st => F_expr_Depth_l1 e1 rec_expr_Depth st.1 st.2) (0, 0)).bind (fun q => F_expr_Depth_c2 q)
noncomputable def F_expr_Depth_r : Nat → TExpr → Option Int
  | 0, _ => none
  | n + 1, e1 => F_expr_Depth_s (F_expr_Depth_r n) e1
noncomputable def F_expr_Depth (e1 : TExpr) : Option Int := F_expr_Depth_r (SizeOf.sizeOf e1) e1

set_option maxRecDepth 100000 in
set_option maxHeartbeats 4000000 in
theorem F_expr_Depth_s_ok (rec_expr_Depth : TExpr → Option Int) (hrec_expr_Depth : ∀ (e1 : TExpr) {r : Int}, rec_expr_Depth e1 = some r → ACalls Tryz.prog 54 [.agg (row_TExpr e1)] [] (Gives (.i .i64 r) [])) (e1 : TExpr) {r : Int} (h : F_expr_Depth_s rec_expr_Depth e1 = some r) : ACalls Tryz.prog 54 [.agg (row_TExpr e1)] [] (Gives (.i .i64 r) []) := by
  refine ACalls.walk 20 Tryz.func54 rfl Tryz.ntmps54 rfl fun C hC => ?_
  unfold F_expr_Depth_s at h
  refine AK.go tab_ok hC [.n 16, .o (.ln e1.Kids.length), .n 4, .keep [3, 7, 8, 9] []] rfl ⟨trivial, lenR_TExpr _⟩ ?_
  obtain ⟨n7, hl11, h⟩ := bindE h
  refine AK.loop (body := (fun st => F_expr_Depth_l1 e1 rec_expr_Depth st.1 st.2)) (fun st σ => σ = ⟨[(3, .i .i64 st.1), (7, .sl 3 (rowL_TExpr e1.Kids)), (8, .i .i64 (e1.Kids.length : Int)), (9, .i .i64 st.2)], []⟩) (fun q e σ => e = .exit 0 ∧ σ = ⟨[(3, .i .i64 q)], []⟩) hl11 rfl ?_ ?_
  · rintro ⟨n3, x4⟩ o σ rfl h
    replace h : F_expr_Depth_l1 e1 rec_expr_Depth n3 x4 = some o := h
    unfold F_expr_Depth_l1 at h
    refine AK.go tab_ok hC [.n 6] rfl trivial ?_
    rcases bifE h with ⟨hc8, h⟩ | ⟨hc8, h⟩
    · obtain ⟨e9, he9, h⟩ := bindE h
      obtain ⟨x10, hx10, h⟩ := bindE h
      refine AK.go tab_ok hC [.br true, .n 6, .o (.row (row_TExpr e9)), .v .no [] (.agg (row_TExpr e9)), .n 2, .sayO 5 (.var (row_TExpr e9)), .n 4, .v .no [] (.agg (row_TExpr e9)), .o (.c false [.d] (.i .i64 x10)), .n 9, .keep [3, 7, 8, 9] []] rfl ⟨⟨⟨⟨⟨⟨trivial, hc8⟩, (idxR_TExpr he9)⟩, rfl⟩, rfl⟩, rfl⟩, (hrec_expr_Depth _ hx10)⟩ ?_
      obtain rfl := Option.some.inj h
      exact rndN rfl rfl
    · refine AK.go tab_ok hC [.br false, .n 2, .keep [3] []] rfl ⟨trivial, hc8⟩ ?_
      obtain rfl := Option.some.inj h
      exact rndX rfl (And.intro rfl rfl)
  · replace h : F_expr_Depth_c2 n7 = some r := h
    unfold F_expr_Depth_c2 at h
    rintro e σ ⟨rfl, rfl⟩
    refine AK.go tab_ok hC [.n 10, .keep [2] []] rfl trivial ?_
    obtain rfl := Option.some.inj h
    refine AK.done ?_
    exact Exists.intro [_] (And.intro (And.intro rfl trivial) (gives trivial))
theorem F_expr_Depth_r_ok : ∀ (fuel : Nat) (e1 : TExpr) {r : Int}, F_expr_Depth_r fuel e1 = some r → ACalls Tryz.prog 54 [.agg (row_TExpr e1)] [] (Gives (.i .i64 r) [])
  | 0, _, _, h => by cases h
  | n + 1, e1, _, h => F_expr_Depth_s_ok (F_expr_Depth_r n) (fun _ _ h => F_expr_Depth_r_ok n _ h) e1 h
theorem F_expr_Depth_ok (e1 : TExpr) {r : Int} (h : F_expr_Depth e1 = some r) : ACalls Tryz.prog 54 [.agg (row_TExpr e1)] [] (Gives (.i .i64 r) []) := F_expr_Depth_r_ok _ e1 h

-- 55 baldric/expr.Size
noncomputable def F_expr_Size_l1 (e1 : TExpr) (rec_expr_Size : TExpr → Option Int) (n3 : Int) (x4 : Int) : Option ((Int × Int) ⊕ Int) :=
  bif (decide (x4 < (e1.Kids.length : Int))) then
  (idx e1.Kids x4).bind fun e9 =>
  (rec_expr_Size e9).bind fun x10 =>
  some (.inl ((w64 (n3 + x10)), (w64 (x4 + 1))))
  else
  some (.inr n3)

noncomputable def F_expr_Size_c2 (n7 : Int) : Option Int :=
  some n7

noncomputable def F_expr_Size_s (rec_expr_Size : TExpr → Option Int) (e1 : TExpr) : Option Int :=
  (loopM (fun st => F_expr_Size_l1 e1 rec_expr_Size st.1 st.2) (1, 0)).bind (fun q => F_expr_Size_c2 q)
noncomputable def F_expr_Size_r : Nat → TExpr → Option Int
  | 0, _ => none
  | n + 1, e1 => F_expr_Size_s (F_expr_Size_r n) e1
noncomputable def F_expr_Size (e1 : TExpr) : Option Int := F_expr_Size_r (SizeOf.sizeOf e1) e1

set_option maxRecDepth 100000 in
set_option maxHeartbeats 4000000 in
theorem F_expr_Size_s_ok (rec_expr_Size : TExpr → Option Int) (hrec_expr_Size : ∀ (e1 : TExpr) {r : Int}, rec_expr_Size e1 = some r → ACalls Tryz.prog 55 [.agg (row_TExpr e1)] [] (Gives (.i .i64 r) [])) (e1 : TExpr) {r : Int} (h : F_expr_Size_s rec_expr_Size e1 = some r) : ACalls Tryz.prog 55 [.agg (row_TExpr e1)] [] (Gives (.i .i64 r) []) := by
  refine ACalls.walk 19 Tryz.func55 rfl Tryz.ntmps55 rfl fun C hC => ?_
  unfold F_expr_Size_s at h
  refine AK.go tab_ok hC [.n 16, .o (.ln e1.Kids.length), .n 4, .keep [3, 7, 8, 9] []] rfl ⟨trivial, lenR_TExpr _⟩ ?_
  obtain ⟨n7, hl11, h⟩ := bindE h
  refine AK.loop (body := (fun st => F_expr_Size_l1 e1 rec_expr_Size st.1 st.2)) (fun st σ => σ = ⟨[(3, .i .i64 st.1), (7, .sl 3 (rowL_TExpr e1.Kids)), (8, .i .i64 (e1.Kids.length : Int)), (9, .i .i64 st.2)], []⟩) (fun q e σ => e = .exit 0 ∧ σ = ⟨[(3, .i .i64 q)], []⟩) hl11 rfl ?_ ?_
  · rintro ⟨n3, x4⟩ o σ rfl h
    replace h : F_expr_Size_l1 e1 rec_expr_Size n3 x4 = some o := h
    unfold F_expr_Size_l1 at h
    refine AK.go tab_ok hC [.n 6] rfl trivial ?_
    rcases bifE h with ⟨hc8, h⟩ | ⟨hc8, h⟩
    · obtain ⟨e9, he9, h⟩ := bindE h
      obtain ⟨x10, hx10, h⟩ := bindE h
      refine AK.go tab_ok hC [.br true, .n 6, .o (.row (row_TExpr e9)), .v .no [] (.agg (row_TExpr e9)), .n 2, .sayO 5 (.var (row_TExpr e9)), .n 4, .v .no [] (.agg (row_TExpr e9)), .o (.c false [.d] (.i .i64 x10)), .n 9, .keep [3, 7, 8, 9] []] rfl ⟨⟨⟨⟨⟨⟨trivial, hc8⟩, (idxR_TExpr he9)⟩, rfl⟩, rfl⟩, rfl⟩, (hrec_expr_Size _ hx10)⟩ ?_
      obtain rfl := Option.some.inj h
      exact rndN rfl rfl
    · refine AK.go tab_ok hC [.br false, .n 2, .keep [3] []] rfl ⟨trivial, hc8⟩ ?_
      obtain rfl := Option.some.inj h
      exact rndX rfl (And.intro rfl rfl)
  · replace h : F_expr_Size_c2 n7 = some r := h
    unfold F_expr_Size_c2 at h
    rintro e σ ⟨rfl, rfl⟩
    refine AK.go tab_ok hC [.n 9, .keep [2] []] rfl trivial ?_
    obtain rfl := Option.some.inj h
    refine AK.done ?_
    exact Exists.intro [_] (And.intro (And.intro rfl trivial) (gives trivial))
theorem F_expr_Size_r_ok : ∀ (fuel : Nat) (e1 : TExpr) {r : Int}, F_expr_Size_r fuel e1 = some r → ACalls Tryz.prog 55 [.agg (row_TExpr e1)] [] (Gives (.i .i64 r) [])
  | 0, _, _, h => by cases h
  | n + 1, e1, _, h => F_expr_Size_s_ok (F_expr_Size_r n) (fun _ _ h => F_expr_Size_r_ok n _ h) e1 h
theorem F_expr_Size_ok (e1 : TExpr) {r : Int} (h : F_expr_Size e1 = some r) : ACalls Tryz.prog 55 [.agg (row_TExpr e1)] [] (Gives (.i .i64 r) []) := F_expr_Size_r_ok _ e1 h

-- 75 baldric/expr.kids
noncomputable def F_expr_kids_k1 (kind1 : Int) (x6 : Bool) : Option Int :=
  bif x6 then
  some 1
  else
  bif (kind1 == 5) then
  some 2
  else
  bif (kind1 == 6) then
  some 3
  else
  some (-1)

noncomputable def F_expr_kids_k2 (kind1 : Int) (x4 : Bool) : Option Int :=
  bif x4 then
  some 0
  else
  bif (kind1 == 3) then
  F_expr_kids_k1 kind1 (kind1 == 3)
  else
  F_expr_kids_k1 kind1 (kind1 == 4)

noncomputable def F_expr_kids (kind1 : Int) : Option Int :=
  bif (kind1 == 1) then
  F_expr_kids_k2 kind1 (kind1 == 1)
  else
  F_expr_kids_k2 kind1 (kind1 == 2)

set_option maxRecDepth 100000 in
set_option maxHeartbeats 4000000 in
theorem F_expr_kids_ok (kind1 : Int) {r : Int} (h : F_expr_kids kind1 = some r) : ACalls Tryz.prog 75 [.i .i64 kind1] [] (Gives (.i .i64 r) []) := by
  refine ACalls.walk 14 Tryz.func75 rfl Tryz.ntmps75 rfl fun C hC => ?_
  unfold F_expr_kids at h
  refine AK.go tab_ok hC [.n 12] rfl trivial ?_
  refine AK.meet (fun σ => ∃ x4 : Bool, σ = ⟨[(3, .i .i64 kind1), (4, .b x4)], []⟩ ∧ F_expr_kids_k2 kind1 x4 = some r) ?_ ?_
  · refine AK.go tab_ok hC [.n 6] rfl trivial ?_
    rcases bifE h with ⟨hc11, h⟩ | ⟨hc11, h⟩
    · refine AK.go tab_ok hC [.br true, .n 1, .keep [3, 4] []] rfl ⟨trivial, hc11⟩ ?_
      exact AK.met (Exists.intro _ (And.intro rfl h))
    · refine AK.go tab_ok hC [.br false, .n 4, .keep [3, 4] []] rfl ⟨trivial, hc11⟩ ?_
      exact AK.met (Exists.intro _ (And.intro rfl h))
  · rintro σ ⟨x4, rfl, h⟩
    unfold F_expr_kids_k2 at h
    rcases bifE h with ⟨hc5, h⟩ | ⟨hc5, h⟩
    · refine AK.go tab_ok hC [.br true, .n 8, .keep [2] []] rfl ⟨trivial, hc5⟩ ?_
      obtain rfl := Option.some.inj h
      refine AK.done ?_
      exact Exists.intro [_] (And.intro (And.intro rfl trivial) (gives trivial))
    · refine AK.go tab_ok hC [.br false] rfl ⟨trivial, hc5⟩ ?_
      refine AK.meet (fun σ => ∃ x6 : Bool, σ = ⟨[(3, .i .i64 kind1), (7, .b x6)], []⟩ ∧ F_expr_kids_k1 kind1 x6 = some r) ?_ ?_
      · refine AK.go tab_ok hC [.n 6] rfl trivial ?_
        rcases bifE h with ⟨hc10, h⟩ | ⟨hc10, h⟩
        · refine AK.go tab_ok hC [.br true, .n 1, .keep [3, 7] []] rfl ⟨trivial, hc10⟩ ?_
          exact AK.met (Exists.intro _ (And.intro rfl h))
        · refine AK.go tab_ok hC [.br false, .n 4, .keep [3, 7] []] rfl ⟨trivial, hc10⟩ ?_
          exact AK.met (Exists.intro _ (And.intro rfl h))
      · rintro σ ⟨x6, rfl, h⟩
        unfold F_expr_kids_k1 at h
        rcases bifE h with ⟨hc7, h⟩ | ⟨hc7, h⟩
        · refine AK.go tab_ok hC [.br true, .n 8, .keep [2] []] rfl ⟨trivial, hc7⟩ ?_
          obtain rfl := Option.some.inj h
          refine AK.done ?_
          exact Exists.intro [_] (And.intro (And.intro rfl trivial) (gives trivial))
        · refine AK.go tab_ok hC [.br false, .n 6] rfl ⟨trivial, hc7⟩ ?_
          rcases bifE h with ⟨hc8, h⟩ | ⟨hc8, h⟩
          · refine AK.go tab_ok hC [.br true, .n 8, .keep [2] []] rfl ⟨trivial, hc8⟩ ?_
            obtain rfl := Option.some.inj h
            refine AK.done ?_
            exact Exists.intro [_] (And.intro (And.intro rfl trivial) (gives trivial))
          · refine AK.go tab_ok hC [.br false, .n 6] rfl ⟨trivial, hc8⟩ ?_
            rcases bifE h with ⟨hc9, h⟩ | ⟨hc9, h⟩
            · refine AK.go tab_ok hC [.br true, .n 8, .keep [2] []] rfl ⟨trivial, hc9⟩ ?_
              obtain rfl := Option.some.inj h
              refine AK.done ?_
              exact Exists.intro [_] (And.intro (And.intro rfl trivial) (gives trivial))
            · refine AK.go tab_ok hC [.br false, .n 9, .keep [2] []] rfl ⟨trivial, hc9⟩ ?_
              obtain rfl := Option.some.inj h
              refine AK.done ?_
              exact Exists.intro [_] (And.intro (And.intro rfl trivial) (gives trivial))

-- 76 baldric/calc.Known
noncomputable def F_calc_Known (op1 : Int) : Option Bool :=
  some ((decide (1 ≤ op1)) && (decide (op1 ≤ 11)))

set_option maxRecDepth 100000 in
set_option maxHeartbeats 4000000 in
theorem F_calc_Known_ok (op1 : Int) {r : Bool} (h : F_calc_Known op1 = some r) : ACalls Tryz.prog 76 [.i .i64 op1] [] (Gives (.b r) []) := by
  refine ACalls.walk 9 Tryz.func76 rfl Tryz.ntmps76 rfl fun C hC => ?_
  unfold F_calc_Known at h
  refine AK.go tab_ok hC [.n 6] rfl trivial ?_
  refine AK.meetX (fun σ => σ = ⟨[(2, .b ((decide (1 ≤ op1)) && (decide (op1 ≤ 11))))], []⟩) ?_ ?_
  · refine AK.go tab_ok hC [.n 4] rfl trivial ?_
    rcases boolOr (decide (1 ≤ op1)) with hc4 | hc4
    · refine AK.go tab_ok hC [.say 5 (.b true), .n 5, .say 2 (.b ((decide (1 ≤ op1)) && (decide (op1 ≤ 11)))), .keep [2] []] rfl ⟨⟨trivial, (congrArg V.b hc4)⟩, (congrArg V.b (andT hc4 rfl))⟩ ?_
      exact AK.met rfl
    · refine AK.go tab_ok hC [.say 5 (.b false), .n 5, .say 2 (.b ((decide (1 ≤ op1)) && (decide (op1 ≤ 11)))), .keep [2] []] rfl ⟨⟨trivial, (congrArg V.b hc4)⟩, (congrArg V.b (andF hc4 rfl))⟩ ?_
      exact AK.met rfl
  · rintro σ rfl
    refine AK.go tab_ok hC [.n 2, .keep [2] []] rfl trivial ?_
    obtain rfl := Option.some.inj h
    refine AK.done ?_
    exact Exists.intro [_] (And.intro (And.intro rfl trivial) (gives trivial))

-- 78 baldric/expr.parts$1
noncomputable def F_expr_parts_1 (rec_expr_parts : TExpr → Int → Option Bool) (k1 : TExpr) (v2 : Int) : Option Bool :=
  (rec_expr_parts k1 v2).bind fun x4 =>
  some (!x4)

set_option maxRecDepth 100000 in
set_option maxHeartbeats 4000000 in
theorem F_expr_parts_1_ok (rec_expr_parts : TExpr → Int → Option Bool) (hrec_expr_parts : ∀ (e1 : TExpr) (vars2 : Int) {r : Bool}, rec_expr_parts e1 vars2 = some r → ACalls Tryz.prog 56 [.agg (row_TExpr e1), .i .i64 vars2] [] (Gives (.b r) [])) (k1 : TExpr) (v2 : Int) {r : Bool} (h : F_expr_parts_1 rec_expr_parts k1 v2 = some r) : ACalls Tryz.prog 78 [.agg (row_TExpr k1), .loc 200000 0 0] [(200000, .var (row_I v2))] (Gives (.b r) [(200000, .var (row_I v2))]) := by
  refine ACalls.walk 8 Tryz.func78 rfl Tryz.ntmps78 rfl fun C hC => ?_
  unfold F_expr_parts_1 at h
  obtain ⟨x4, hx4, h⟩ := bindE h
  refine AK.go tab_ok hC [.n 8, .v .no [] (.agg (row_TExpr k1)), .n 1, .o (.c false [.d, .d] (.b x4)), .n 5, .keep [3] [200000]] rfl ⟨⟨trivial, rfl⟩, (hrec_expr_parts _ _ hx4)⟩ ?_
  obtain rfl := Option.some.inj h
  refine AK.done ?_
  exact Exists.intro [_] (And.intro (And.intro rfl trivial) (gives ⟨rfl, trivial⟩))

-- 96 slices.IndexFunc[[]baldric/api.Expr,baldric/api.Expr]
noncomputable def F_slices_IndexFunc_api_Expr_api_Expr_l1 (s1 : (List TExpr)) (rec_expr_parts : TExpr → Int → Option Bool) (v2 : Int) (x5 : Int) : Option (Int ⊕ (Int ⊕ Unit)) :=
  bif (decide (x5 < (s1.length : Int))) then
  (idx s1 x5).bind fun e9 =>
  (F_expr_parts_1 rec_expr_parts e9 v2).bind fun x10 =>
  bif x10 then
  some (.inr (.inl x5))
  else
  some (.inl (w64 (x5 + 1)))
  else
  some (.inr (.inr ()))

noncomputable def F_slices_IndexFunc_api_Expr_api_Expr_c2 (x7 : Int) : Option Int :=
  some x7

noncomputable def F_slices_IndexFunc_api_Expr_api_Expr_c3 : Option Int :=
  some (-1)

noncomputable def F_slices_IndexFunc_api_Expr_api_Expr (rec_expr_parts : TExpr → Int → Option Bool) (s1 : (List TExpr)) (v2 : Int) : Option Int :=
  (loopM (fun st => F_slices_IndexFunc_api_Expr_api_Expr_l1 s1 rec_expr_parts v2 st) 0).bind (Sum.elim (fun q => F_slices_IndexFunc_api_Expr_api_Expr_c2 q) (fun q => F_slices_IndexFunc_api_Expr_api_Expr_c3))

set_option maxRecDepth 100000 in
set_option maxHeartbeats 4000000 in
theorem F_slices_IndexFunc_api_Expr_api_Expr_ok (rec_expr_parts : TExpr → Int → Option Bool) (hrec_expr_parts : ∀ (e1 : TExpr) (vars2 : Int) {r : Bool}, rec_expr_parts e1 vars2 = some r → ACalls Tryz.prog 56 [.agg (row_TExpr e1), .i .i64 vars2] [] (Gives (.b r) [])) (s1 : (List TExpr)) (v2 : Int) {r : Int} (h : F_slices_IndexFunc_api_Expr_api_Expr rec_expr_parts s1 v2 = some r) : ACalls Tryz.prog 96 [.sl 3 (rowL_TExpr s1), .clo (.func 78) [] [.loc 200000 0 0]] [(200000, .var (row_I v2))] (Gives (.i .i64 r) [(200000, .var (row_I v2))]) := by
  refine ACalls.walk 19 Tryz.func96 rfl Tryz.ntmps96 rfl fun C hC => ?_
  unfold F_slices_IndexFunc_api_Expr_api_Expr at h
  refine AK.go tab_ok hC [.n 9, .o (.ln s1.length), .n 4, .keep [0, 1, 7, 8] [200000]] rfl ⟨trivial, lenR_TExpr _⟩ ?_
  obtain ⟨o12, hl12, h⟩ := bindE h
  refine AK.loop (body := (fun st => F_slices_IndexFunc_api_Expr_api_Expr_l1 s1 rec_expr_parts v2 st)) (fun st σ => σ = ⟨[(0, .sl 3 (rowL_TExpr s1)), (1, .clo (.func 78) [] [.loc 200000 0 0]), (7, .i .i64 (s1.length : Int)), (8, .i .i64 st)], [(200000, .var (row_I v2))]⟩) (Sum.elim (fun q e σ => e = .ret ∧ σ = ⟨[(4, .i .i64 q)], [(200000, .var (row_I v2))]⟩) (fun q e σ => e = .exit 0 ∧ σ = ⟨[], [(200000, .var (row_I v2))]⟩)) hl12 rfl ?_ ?_
  · rintro x5 o σ rfl h
    replace h : F_slices_IndexFunc_api_Expr_api_Expr_l1 s1 rec_expr_parts v2 x5 = some o := h
    unfold F_slices_IndexFunc_api_Expr_api_Expr_l1 at h
    refine AK.go tab_ok hC [.n 6] rfl trivial ?_
    rcases bifE h with ⟨hc8, h⟩ | ⟨hc8, h⟩
    · obtain ⟨e9, he9, h⟩ := bindE h
      obtain ⟨x10, hx10, h⟩ := bindE h
      refine AK.go tab_ok hC [.br true, .n 15, .o (.row (row_TExpr e9)), .v .no [] (.agg (row_TExpr e9)), .cm (.clo) [(200000, 200000)] [(200000, 200000)] [] [.d, .d] [(200000, .var (row_I v2))] (.b x10), .n 2] rfl ⟨⟨⟨⟨trivial, hc8⟩, (idxR_TExpr he9)⟩, rfl⟩, (F_expr_parts_1_ok rec_expr_parts hrec_expr_parts _ _ hx10)⟩ ?_
      rcases bifE h with ⟨hc11, h⟩ | ⟨hc11, h⟩
      · refine AK.go tab_ok hC [.br true, .n 9, .keep [4] [200000]] rfl ⟨trivial, hc11⟩ ?_
        obtain rfl := Option.some.inj h
        exact rndR rfl (And.intro rfl rfl)
      · refine AK.go tab_ok hC [.br false, .n 7, .keep [0, 1, 7, 8] [200000]] rfl ⟨trivial, hc11⟩ ?_
        obtain rfl := Option.some.inj h
        exact rndN rfl rfl
    · refine AK.go tab_ok hC [.br false, .n 2, .keep [] [200000]] rfl ⟨trivial, hc8⟩ ?_
      obtain rfl := Option.some.inj h
      exact rndX rfl (And.intro rfl rfl)
  · rcases o12 with (x7 | _)
    · replace h : F_slices_IndexFunc_api_Expr_api_Expr_c2 x7 = some r := h
      unfold F_slices_IndexFunc_api_Expr_api_Expr_c2 at h
      rintro e σ ⟨rfl, rfl⟩
      refine AK.go tab_ok hC [.n 2, .keep [4] [200000]] rfl trivial ?_
      obtain rfl := Option.some.inj h
      refine AK.done ?_
      exact Exists.intro [_] (And.intro (And.intro rfl trivial) (gives ⟨rfl, trivial⟩))
    · replace h : F_slices_IndexFunc_api_Expr_api_Expr_c3 = some r := h
      unfold F_slices_IndexFunc_api_Expr_api_Expr_c3 at h
      rintro e σ ⟨rfl, rfl⟩
      refine AK.go tab_ok hC [.n 8, .keep [4] [200000]] rfl trivial ?_
      obtain rfl := Option.some.inj h
      refine AK.done ?_
      exact Exists.intro [_] (And.intro (And.intro rfl trivial) (gives ⟨rfl, trivial⟩))

-- 77 slices.ContainsFunc[[]baldric/api.Expr,baldric/api.Expr]
noncomputable def F_slices_ContainsFunc_api_Expr_api_Expr (rec_expr_parts : TExpr → Int → Option Bool) (s1 : (List TExpr)) (v2 : Int) : Option Bool :=
  (F_slices_IndexFunc_api_Expr_api_Expr rec_expr_parts s1 v2).bind fun x4 =>
  some (decide (0 ≤ x4))

set_option maxRecDepth 100000 in
set_option maxHeartbeats 4000000 in
theorem F_slices_ContainsFunc_api_Expr_api_Expr_ok (rec_expr_parts : TExpr → Int → Option Bool) (hrec_expr_parts : ∀ (e1 : TExpr) (vars2 : Int) {r : Bool}, rec_expr_parts e1 vars2 = some r → ACalls Tryz.prog 56 [.agg (row_TExpr e1), .i .i64 vars2] [] (Gives (.b r) [])) (s1 : (List TExpr)) (v2 : Int) {r : Bool} (h : F_slices_ContainsFunc_api_Expr_api_Expr rec_expr_parts s1 v2 = some r) : ACalls Tryz.prog 77 [.sl 3 (rowL_TExpr s1), .clo (.func 78) [] [.loc 200000 0 0]] [(200000, .var (row_I v2))] (Gives (.b r) [(200000, .var (row_I v2))]) := by
  refine ACalls.walk 9 Tryz.func77 rfl Tryz.ntmps77 rfl fun C hC => ?_
  unfold F_slices_ContainsFunc_api_Expr_api_Expr at h
  obtain ⟨x4, hx4, h⟩ := bindE h
  refine AK.go tab_ok hC [.n 9, .cm (.fn) [(200000, 200000)] [(200000, 200000)] [] [.d, .d] [(200000, .var (row_I v2))] (.i .i64 x4), .n 5, .keep [4] [200000]] rfl ⟨trivial, (F_slices_IndexFunc_api_Expr_api_Expr_ok rec_expr_parts hrec_expr_parts _ _ hx4)⟩ ?_
  obtain rfl := Option.some.inj h
  refine AK.done ?_
  exact Exists.intro [_] (And.intro (And.intro rfl trivial) (gives ⟨rfl, trivial⟩))

-- 56 baldric/expr.parts
noncomputable def F_expr_parts_g1 (e1 : TExpr) : Option Bool :=
  bif (e1.Kind == 5) then
  (F_calc_Known e1.Num).bind fun x14 =>
  some (!x14)
  else
  some false

noncomputable def F_expr_parts_k2 (rec_expr_parts : TExpr → Int → Option Bool) (e1 : TExpr) (vars2 : Int) (x11 : Bool) : Option Bool :=
  bif x11 then
  some false
  else
  (F_slices_ContainsFunc_api_Expr_api_Expr rec_expr_parts e1.Kids vars2).bind fun x16 =>
  some (!x16)

noncomputable def F_expr_parts_s (rec_expr_parts : TExpr → Int → Option Bool) (e1 : TExpr) (vars2 : Int) : Option Bool :=
  (F_expr_kids e1.Kind).bind fun x5 =>
  bif ((e1.Kids.length : Int) != x5) then
  some false
  else
  bif ((e1.Kind == 2) && ((decide (e1.Num < 0)) || (decide (vars2 ≤ e1.Num)))) then
  some false
  else
  (F_expr_parts_g1 e1).bind (fun x11 => F_expr_parts_k2 rec_expr_parts e1 vars2 x11)
noncomputable def F_expr_parts_r : Nat → TExpr → Int → Option Bool
  | 0, _, _ => none
  | n + 1, e1, vars2 => F_expr_parts_s (F_expr_parts_r n) e1 vars2
noncomputable def F_expr_parts (e1 : TExpr) (vars2 : Int) : Option Bool := F_expr_parts_r (SizeOf.sizeOf e1) e1 vars2

set_option maxRecDepth 100000 in
set_option maxHeartbeats 4000000 in
theorem F_expr_parts_s_ok (rec_expr_parts : TExpr → Int → Option Bool) (hrec_expr_parts : ∀ (e1 : TExpr) (vars2 : Int) {r : Bool}, rec_expr_parts e1 vars2 = some r → ACalls Tryz.prog 56 [.agg (row_TExpr e1), .i .i64 vars2] [] (Gives (.b r) [])) (e1 : TExpr) (vars2 : Int) {r : Bool} (h : F_expr_parts_s rec_expr_parts e1 vars2 = some r) : ACalls Tryz.prog 56 [.agg (row_TExpr e1), .i .i64 vars2] [] (Gives (.b r) []) := by
  refine ACalls.walk 43 Tryz.func56 rfl Tryz.ntmps56 rfl fun C hC => ?_
  unfold F_expr_parts_s at h
  obtain ⟨x5, hx5, h⟩ := bindE h
  refine AK.go tab_ok hC [.n 10, .keep [2, 3] [2, 3]] rfl trivial ?_
  refine AK.draw2 tab_ok hC mixed [.a .no none false, .a .no none false, .a (.ln e1.Kids.length) none false, .a .no none false, .a .no none false, .a (.c false [.d] (.i .i64 x5)) none false, .a .no none false, .a .no none false] [] [] [2, 3, 5] [2, 3] rfl rfl rfl ⟨⟨trivial, lenR_TExpr _⟩, (F_expr_kids_ok _ hx5)⟩ rfl (by kernel_rfl) rfl rfl rfl ?_
  refine AK.go tab_ok hC [.n 1] rfl trivial ?_
  rcases bifE h with ⟨hc6, h⟩ | ⟨hc6, h⟩
  · refine AK.go tab_ok hC [.br true, .n 8, .keep [4] []] rfl ⟨trivial, hc6⟩ ?_
    obtain rfl := Option.some.inj h
    refine AK.done ?_
    exact Exists.intro [_] (And.intro (And.intro rfl trivial) (gives trivial))
  · refine AK.go tab_ok hC [.br false, .n 1] rfl ⟨trivial, hc6⟩ ?_
    refine AK.meetX (fun σ => σ = ⟨[(2, .loc 2 0 0), (3, .loc 3 0 0), (13, .b ((e1.Kind == 2) && ((decide (e1.Num < 0)) || (decide (vars2 ≤ e1.Num)))))], [(2, .var (row_TExpr e1)), (3, .var (row_I vars2))]⟩) ?_ ?_
    · refine AK.go tab_ok hC [.n 5] rfl trivial ?_
      rcases boolOr (e1.Kind == 2) with hc8 | hc8
      · refine AK.go tab_ok hC [.say 17 (.b true), .n 4] rfl ⟨trivial, (congrArg V.b hc8)⟩ ?_
        rcases boolOr (decide (e1.Num < 0)) with hc9 | hc9
        · refine AK.go tab_ok hC [.say 21 (.b true), .n 8, .say 13 (.b ((e1.Kind == 2) && ((decide (e1.Num < 0)) || (decide (vars2 ≤ e1.Num))))), .keep [2, 3, 13] [2, 3]] rfl ⟨⟨trivial, (congrArg V.b hc9)⟩, (congrArg V.b (andT hc8 (orT hc9 rfl)))⟩ ?_
          exact AK.met rfl
        · refine AK.go tab_ok hC [.say 21 (.b false), .n 8, .say 13 (.b ((e1.Kind == 2) && ((decide (e1.Num < 0)) || (decide (vars2 ≤ e1.Num))))), .keep [2, 3, 13] [2, 3]] rfl ⟨⟨trivial, (congrArg V.b hc9)⟩, (congrArg V.b (andT hc8 (orF hc9 rfl)))⟩ ?_
          exact AK.met rfl
      · refine AK.go tab_ok hC [.say 17 (.b false), .n 12, .say 13 (.b ((e1.Kind == 2) && ((decide (e1.Num < 0)) || (decide (vars2 ≤ e1.Num))))), .keep [2, 3, 13] [2, 3]] rfl ⟨⟨trivial, (congrArg V.b hc8)⟩, (congrArg V.b (andF hc8 rfl))⟩ ?_
        exact AK.met rfl
    · rintro σ rfl
      refine AK.go tab_ok hC [.n 1] rfl trivial ?_
      rcases bifE h with ⟨hc10, h⟩ | ⟨hc10, h⟩
      · refine AK.go tab_ok hC [.br true, .n 8, .keep [4] []] rfl ⟨trivial, hc10⟩ ?_
        obtain rfl := Option.some.inj h
        refine AK.done ?_
        exact Exists.intro [_] (And.intro (And.intro rfl trivial) (gives trivial))
      · refine AK.go tab_ok hC [.br false, .n 1] rfl ⟨trivial, hc10⟩ ?_
        obtain ⟨x11, hv12, h⟩ := bindE h
        replace h : F_expr_parts_k2 rec_expr_parts e1 vars2 x11 = some r := h
        refine AK.meetX (fun σ => σ = ⟨[(2, .loc 2 0 0), (3, .loc 3 0 0), (28, .b x11)], [(2, .var (row_TExpr e1)), (3, .var (row_I vars2))]⟩) ?_ ?_
        · replace h := hv12
          unfold F_expr_parts_g1 at h
          refine AK.go tab_ok hC [.n 5] rfl trivial ?_
          rcases bifE h with ⟨hc13, h⟩ | ⟨hc13, h⟩
          · obtain ⟨x14, hx14, h⟩ := bindE h
            refine AK.go tab_ok hC [.say 32 (.b true), .n 2, .o (.c false [.d] (.b x14)), .n 4, .keep [2, 3, 28] [2, 3]] rfl ⟨⟨trivial, (congrArg V.b hc13)⟩, (F_calc_Known_ok _ hx14)⟩ ?_
            obtain rfl := Option.some.inj h
            exact AK.met rfl
          · refine AK.go tab_ok hC [.say 32 (.b false), .n 7, .keep [2, 3, 28] [2, 3]] rfl ⟨trivial, (congrArg V.b hc13)⟩ ?_
            obtain rfl := Option.some.inj h
            exact AK.met rfl
        · rintro σ rfl
          replace h : F_expr_parts_k2 rec_expr_parts e1 vars2 x11 = some r := h
          unfold F_expr_parts_k2 at h
          refine AK.go tab_ok hC [.n 1] rfl trivial ?_
          rcases bifE h with ⟨hc15, h⟩ | ⟨hc15, h⟩
          · refine AK.go tab_ok hC [.br true, .n 8, .keep [4] []] rfl ⟨trivial, hc15⟩ ?_
            obtain rfl := Option.some.inj h
            refine AK.done ?_
            exact Exists.intro [_] (And.intro (And.intro rfl trivial) (gives trivial))
          · obtain ⟨x16, hx16, h⟩ := bindE h
            refine AK.go tab_ok hC [.br false, .n 8, .cm (.fn) [(200000, 3)] [(3, 200000)] [] [.d, .d] [(200000, .var (row_I vars2))] (.b x16), .n 5, .keep [4] []] rfl ⟨⟨trivial, hc15⟩, (F_slices_ContainsFunc_api_Expr_api_Expr_ok rec_expr_parts hrec_expr_parts _ _ hx16)⟩ ?_
            obtain rfl := Option.some.inj h
            refine AK.done ?_
            exact Exists.intro [_] (And.intro (And.intro rfl trivial) (gives trivial))
theorem F_expr_parts_r_ok : ∀ (fuel : Nat) (e1 : TExpr) (vars2 : Int) {r : Bool}, F_expr_parts_r fuel e1 vars2 = some r → ACalls Tryz.prog 56 [.agg (row_TExpr e1), .i .i64 vars2] [] (Gives (.b r) [])
  | 0, _, _, _, h => by cases h
  | n + 1, e1, vars2, _, h => F_expr_parts_s_ok (F_expr_parts_r n) (fun _ _ _ h => F_expr_parts_r_ok n _ _ h) e1 vars2 h
theorem F_expr_parts_ok (e1 : TExpr) (vars2 : Int) {r : Bool} (h : F_expr_parts e1 vars2 = some r) : ACalls Tryz.prog 56 [.agg (row_TExpr e1), .i .i64 vars2] [] (Gives (.b r) []) := F_expr_parts_r_ok _ e1 vars2 h

-- 42 baldric/expr.Right
noncomputable def F_expr_Right_g1 (e1 : TExpr) (vars2 : Int) : Option Bool :=
  (F_expr_Depth e1).bind fun x6 =>
  bif (decide (x6 ≤ 40)) then
  (F_expr_Size e1).bind fun x8 =>
  bif (decide (x8 ≤ 400)) then
  (F_expr_parts e1 vars2).bind fun x10 =>
  some x10
  else
  some false
  else
  some false

noncomputable def F_expr_Right_k2 (x4 : Bool) : Option Bool :=
  some x4

noncomputable def F_expr_Right (e1 : TExpr) (vars2 : Int) : Option Bool :=
  (F_expr_Right_g1 e1 vars2).bind (fun x4 => F_expr_Right_k2 x4)

set_option maxRecDepth 100000 in
set_option maxHeartbeats 4000000 in
theorem F_expr_Right_ok (e1 : TExpr) (vars2 : Int) {r : Bool} (h : F_expr_Right e1 vars2 = some r) : ACalls Tryz.prog 42 [.agg (row_TExpr e1), .i .i64 vars2] [] (Gives (.b r) []) := by
  refine ACalls.walk 18 Tryz.func42 rfl Tryz.ntmps42 rfl fun C hC => ?_
  unfold F_expr_Right at h
  refine AK.go tab_ok hC [.n 7] rfl trivial ?_
  obtain ⟨x4, hv5, h⟩ := bindE h
  replace h : F_expr_Right_k2 x4 = some r := h
  refine AK.meetX (fun σ => σ = ⟨[(4, .b x4)], []⟩) ?_ ?_
  · replace h := hv5
    unfold F_expr_Right_g1 at h
    obtain ⟨x6, hx6, h⟩ := bindE h
    refine AK.go tab_ok hC [.n 1, .v .no [] (.agg (row_TExpr e1)), .o (.c false [.d] (.i .i64 x6)), .n 2] rfl ⟨⟨trivial, rfl⟩, (F_expr_Depth_ok _ hx6)⟩ ?_
    rcases bifE h with ⟨hc7, h⟩ | ⟨hc7, h⟩
    · obtain ⟨x8, hx8, h⟩ := bindE h
      refine AK.go tab_ok hC [.say 8 (.b true), .v .no [] (.agg (row_TExpr e1)), .o (.c false [.d] (.i .i64 x8)), .n 3] rfl ⟨⟨⟨trivial, (congrArg V.b hc7)⟩, rfl⟩, (F_expr_Size_ok _ hx8)⟩ ?_
      rcases bifE h with ⟨hc9, h⟩ | ⟨hc9, h⟩
      · obtain ⟨x10, hx10, h⟩ := bindE h
        refine AK.go tab_ok hC [.say 13 (.b true), .v .no [] (.agg (row_TExpr e1)), .n 1, .o (.c false [.d, .d] (.b x10)), .n 3, .keep [4] []] rfl ⟨⟨⟨trivial, (congrArg V.b hc9)⟩, rfl⟩, (F_expr_parts_ok _ _ hx10)⟩ ?_
        obtain rfl := Option.some.inj h
        exact AK.met rfl
      · refine AK.go tab_ok hC [.say 13 (.b false), .n 6, .keep [4] []] rfl ⟨trivial, (congrArg V.b hc9)⟩ ?_
        obtain rfl := Option.some.inj h
        exact AK.met rfl
    · refine AK.go tab_ok hC [.say 8 (.b false), .n 11, .keep [4] []] rfl ⟨trivial, (congrArg V.b hc7)⟩ ?_
      obtain rfl := Option.some.inj h
      exact AK.met rfl
  · rintro σ rfl
    replace h : F_expr_Right_k2 x4 = some r := h
    unfold F_expr_Right_k2 at h
    refine AK.go tab_ok hC [.n 2, .keep [4] []] rfl trivial ?_
    obtain rfl := Option.some.inj h
    refine AK.done ?_
    exact Exists.intro [_] (And.intro (And.intro rfl trivial) (gives trivial))

-- 57 (baldric/expr.env).doer
noncomputable def F_expr_env_doer_k1 (v1 : (List Int)) (kind2 : Int) (x10 : Bool) : Option ((List Int) ⊕ ((List Int) ⊕ ((List Int) ⊕ ((List Int) ⊕ (List Int))))) :=
  bif x10 then
  some (.inr (.inr (.inl v1)))
  else
  bif (kind2 == 5) then
  some (.inr (.inr (.inr (.inl v1))))
  else
  some (.inr (.inr (.inr (.inr v1))))

noncomputable def F_expr_env_doer (v1 : (List Int)) (kind2 : Int) : Option ((List Int) ⊕ ((List Int) ⊕ ((List Int) ⊕ ((List Int) ⊕ (List Int))))) :=
  bif (kind2 == 1) then
  some (.inl v1)
  else
  bif (kind2 == 2) then
  some (.inr (.inl v1))
  else
  bif (kind2 == 3) then
  F_expr_env_doer_k1 v1 kind2 (kind2 == 3)
  else
  F_expr_env_doer_k1 v1 kind2 (kind2 == 4)

set_option maxRecDepth 100000 in
set_option maxHeartbeats 4000000 in
theorem F_expr_env_doer_ok (v1 : (List Int)) (kind2 : Int) {r : ((List Int) ⊕ ((List Int) ⊕ ((List Int) ⊕ ((List Int) ⊕ (List Int)))))} (h : F_expr_env_doer v1 kind2 = some r) : ACalls Tryz.prog 57 [.sl 1 (v1.map row_I), .i .i64 kind2] [] ((Sum.elim (fun q => (Gives (.clo (.func 79) [.sl 1 (q.map row_I)] []) [])) (Sum.elim (fun q => (Gives (.clo (.func 80) [.sl 1 (q.map row_I)] []) [])) (Sum.elim (fun q => (Gives (.clo (.func 81) [.sl 1 (q.map row_I)] []) [])) (Sum.elim (fun q => (Gives (.clo (.func 82) [.sl 1 (q.map row_I)] []) [])) (fun q => (Gives (.clo (.func 83) [.sl 1 (q.map row_I)] []) [])))))) r) := by
  refine ACalls.walk 25 Tryz.func57 rfl Tryz.ntmps57 rfl fun C hC => ?_
  unfold F_expr_env_doer at h
  refine AK.go tab_ok hC [.n 18] rfl trivial ?_
  rcases bifE h with ⟨hc8, h⟩ | ⟨hc8, h⟩
  · refine AK.go tab_ok hC [.br true, .n 10, .keep [4] []] rfl ⟨trivial, hc8⟩ ?_
    obtain rfl := Option.some.inj h
    refine AK.done ?_
    exact Exists.intro [_] (And.intro (And.intro rfl trivial) (gives trivial))
  · refine AK.go tab_ok hC [.br false, .n 6] rfl ⟨trivial, hc8⟩ ?_
    rcases bifE h with ⟨hc9, h⟩ | ⟨hc9, h⟩
    · refine AK.go tab_ok hC [.br true, .n 10, .keep [4] []] rfl ⟨trivial, hc9⟩ ?_
      obtain rfl := Option.some.inj h
      refine AK.done ?_
      exact Exists.intro [_] (And.intro (And.intro rfl trivial) (gives trivial))
    · refine AK.go tab_ok hC [.br false] rfl ⟨trivial, hc9⟩ ?_
      refine AK.meet (fun σ => ∃ x10 : Bool, σ = ⟨[(0, .sl 1 (v1.map row_I)), (5, .i .i64 kind2), (14, .b x10)], []⟩ ∧ F_expr_env_doer_k1 v1 kind2 x10 = some r) ?_ ?_
      · refine AK.go tab_ok hC [.n 6] rfl trivial ?_
        rcases bifE h with ⟨hc13, h⟩ | ⟨hc13, h⟩
        · refine AK.go tab_ok hC [.br true, .n 1, .keep [0, 5, 14] []] rfl ⟨trivial, hc13⟩ ?_
          exact AK.met (Exists.intro _ (And.intro rfl h))
        · refine AK.go tab_ok hC [.br false, .n 4, .keep [0, 5, 14] []] rfl ⟨trivial, hc13⟩ ?_
          exact AK.met (Exists.intro _ (And.intro rfl h))
      · rintro σ ⟨x10, rfl, h⟩
        unfold F_expr_env_doer_k1 at h
        rcases bifE h with ⟨hc11, h⟩ | ⟨hc11, h⟩
        · refine AK.go tab_ok hC [.br true, .n 10, .keep [4] []] rfl ⟨trivial, hc11⟩ ?_
          obtain rfl := Option.some.inj h
          refine AK.done ?_
          exact Exists.intro [_] (And.intro (And.intro rfl trivial) (gives trivial))
        · refine AK.go tab_ok hC [.br false, .n 6] rfl ⟨trivial, hc11⟩ ?_
          rcases bifE h with ⟨hc12, h⟩ | ⟨hc12, h⟩
          · refine AK.go tab_ok hC [.br true, .n 10, .keep [4] []] rfl ⟨trivial, hc12⟩ ?_
            obtain rfl := Option.some.inj h
            refine AK.done ?_
            exact Exists.intro [_] (And.intro (And.intro rfl trivial) (gives trivial))
          · refine AK.go tab_ok hC [.br false, .n 11, .keep [4] []] rfl ⟨trivial, hc12⟩ ?_
            obtain rfl := Option.some.inj h
            refine AK.done ?_
            exact Exists.intro [_] (And.intro (And.intro rfl trivial) (gives trivial))

-- 79 (baldric/expr.env).number
noncomputable def F_expr_env_number (v1 : (List Int)) (e2 : TExpr) : Option (Int × Int) :=
  some (e2.Num, 0)

set_option maxRecDepth 100000 in
set_option maxHeartbeats 4000000 in
theorem F_expr_env_number_ok (v1 : (List Int)) (e2 : TExpr) {r : (Int × Int)} (h : F_expr_env_number v1 e2 = some r) : ACalls Tryz.prog 79 [.sl 1 (v1.map row_I), .agg (row_TExpr e2)] [] (Gives (.tup [.i .i64 r.1, .i .i64 r.2]) []) := by
  refine ACalls.walk 8 Tryz.func79 rfl Tryz.ntmps79 rfl fun C hC => ?_
  unfold F_expr_env_number at h
  refine AK.go tab_ok hC [.n 16, .keep [4, 5] []] rfl trivial ?_
  obtain rfl := Option.some.inj h
  refine AK.done ?_
  exact Exists.intro [_, _] (And.intro (And.intro rfl (And.intro rfl trivial)) (gives trivial))

-- 80 (baldric/expr.env).variable
noncomputable def F_expr_env_variable (v1 : (List Int)) (e2 : TExpr) : Option (Int × Int) :=
  (idx v1 e2.Num).bind fun e5 =>
  some (e5, 0)

set_option maxRecDepth 100000 in
set_option maxHeartbeats 4000000 in
theorem F_expr_env_variable_ok (v1 : (List Int)) (e2 : TExpr) {r : (Int × Int)} (h : F_expr_env_variable v1 e2 = some r) : ACalls Tryz.prog 80 [.sl 1 (v1.map row_I), .agg (row_TExpr e2)] [] (Gives (.tup [.i .i64 r.1, .i .i64 r.2]) []) := by
  refine ACalls.walk 11 Tryz.func80 rfl Tryz.ntmps80 rfl fun C hC => ?_
  unfold F_expr_env_variable at h
  obtain ⟨e5, he5, h⟩ := bindE h
  refine AK.go tab_ok hC [.n 12, .o (.row (row_I e5)), .n 6, .keep [4, 5] []] rfl ⟨trivial, (idxM he5)⟩ ?_
  obtain rfl := Option.some.inj h
  refine AK.done ?_
  exact Exists.intro [_, _] (And.intro (And.intro rfl (And.intro rfl trivial)) (gives trivial))

-- 101 baldric/calc.sum
noncomputable def F_calc_sum (a1 : Int) (b2 : Int) : Option (Int × Int) :=
  bif (((decide (a1 < 0)) == (decide (b2 < 0))) && ((decide ((w64 (a1 + b2)) < 0)) != (decide (a1 < 0)))) then
  some (0, 6)
  else
  some ((w64 (a1 + b2)), 0)

set_option maxRecDepth 100000 in
set_option maxHeartbeats 4000000 in
theorem F_calc_sum_ok (a1 : Int) (b2 : Int) {r : (Int × Int)} (h : F_calc_sum a1 b2 = some r) : ACalls Tryz.prog 101 [.i .i64 a1, .i .i64 b2] [] (Gives (.tup [.i .i64 r.1, .i .i64 r.2]) []) := by
  refine ACalls.walk 23 Tryz.func101 rfl Tryz.ntmps101 rfl fun C hC => ?_
  unfold F_calc_sum at h
  refine AK.go tab_ok hC [.n 16] rfl trivial ?_
  refine AK.meetX (fun σ => σ = ⟨[(6, .i .i64 (w64 (a1 + b2))), (21, .b (((decide (a1 < 0)) == (decide (b2 < 0))) && ((decide ((w64 (a1 + b2)) < 0)) != (decide (a1 < 0)))))], []⟩) ?_ ?_
  · refine AK.go tab_ok hC [.n 7] rfl trivial ?_
    rcases boolOr ((decide (a1 < 0)) == (decide (b2 < 0))) with hc8 | hc8
    · refine AK.go tab_ok hC [.say 15 (.b true), .n 7, .say 21 (.b (((decide (a1 < 0)) == (decide (b2 < 0))) && ((decide ((w64 (a1 + b2)) < 0)) != (decide (a1 < 0))))), .keep [6, 21] []] rfl ⟨⟨trivial, (congrArg V.b hc8)⟩, (congrArg V.b (andT hc8 rfl))⟩ ?_
      exact AK.met rfl
    · refine AK.go tab_ok hC [.say 15 (.b false), .n 7, .say 21 (.b (((decide (a1 < 0)) == (decide (b2 < 0))) && ((decide ((w64 (a1 + b2)) < 0)) != (decide (a1 < 0))))), .keep [6, 21] []] rfl ⟨⟨trivial, (congrArg V.b hc8)⟩, (congrArg V.b (andF hc8 rfl))⟩ ?_
      exact AK.met rfl
  · rintro σ rfl
    refine AK.go tab_ok hC [.n 1] rfl trivial ?_
    rcases bifE h with ⟨hc9, h⟩ | ⟨hc9, h⟩
    · refine AK.go tab_ok hC [.br true, .n 8, .keep [4, 5] []] rfl ⟨trivial, hc9⟩ ?_
      obtain rfl := Option.some.inj h
      refine AK.done ?_
      exact Exists.intro [_, _] (And.intro (And.intro rfl (And.intro rfl trivial)) (gives trivial))
    · refine AK.go tab_ok hC [.br false, .n 10, .keep [4, 5] []] rfl ⟨trivial, hc9⟩ ?_
      obtain rfl := Option.some.inj h
      refine AK.done ?_
      exact Exists.intro [_, _] (And.intro (And.intro rfl (And.intro rfl trivial)) (gives trivial))

-- 102 baldric/calc.difference
noncomputable def F_calc_difference (a1 : Int) (b2 : Int) : Option (Int × Int) :=
  bif (((decide (a1 < 0)) != (decide (b2 < 0))) && ((decide ((w64 (a1 - b2)) < 0)) != (decide (a1 < 0)))) then
  some (0, 6)
  else
  some ((w64 (a1 - b2)), 0)

set_option maxRecDepth 100000 in
set_option maxHeartbeats 4000000 in
theorem F_calc_difference_ok (a1 : Int) (b2 : Int) {r : (Int × Int)} (h : F_calc_difference a1 b2 = some r) : ACalls Tryz.prog 102 [.i .i64 a1, .i .i64 b2] [] (Gives (.tup [.i .i64 r.1, .i .i64 r.2]) []) := by
  refine ACalls.walk 23 Tryz.func102 rfl Tryz.ntmps102 rfl fun C hC => ?_
  unfold F_calc_difference at h
  refine AK.go tab_ok hC [.n 16] rfl trivial ?_
  refine AK.meetX (fun σ => σ = ⟨[(6, .i .i64 (w64 (a1 - b2))), (21, .b (((decide (a1 < 0)) != (decide (b2 < 0))) && ((decide ((w64 (a1 - b2)) < 0)) != (decide (a1 < 0)))))], []⟩) ?_ ?_
  · refine AK.go tab_ok hC [.n 7] rfl trivial ?_
    rcases boolOr ((decide (a1 < 0)) != (decide (b2 < 0))) with hc8 | hc8
    · refine AK.go tab_ok hC [.say 15 (.b true), .n 7, .say 21 (.b (((decide (a1 < 0)) != (decide (b2 < 0))) && ((decide ((w64 (a1 - b2)) < 0)) != (decide (a1 < 0))))), .keep [6, 21] []] rfl ⟨⟨trivial, (congrArg V.b hc8)⟩, (congrArg V.b (andT hc8 rfl))⟩ ?_
      exact AK.met rfl
    · refine AK.go tab_ok hC [.say 15 (.b false), .n 7, .say 21 (.b (((decide (a1 < 0)) != (decide (b2 < 0))) && ((decide ((w64 (a1 - b2)) < 0)) != (decide (a1 < 0))))), .keep [6, 21] []] rfl ⟨⟨trivial, (congrArg V.b hc8)⟩, (congrArg V.b (andF hc8 rfl))⟩ ?_
      exact AK.met rfl
  · rintro σ rfl
    refine AK.go tab_ok hC [.n 1] rfl trivial ?_
    rcases bifE h with ⟨hc9, h⟩ | ⟨hc9, h⟩
    · refine AK.go tab_ok hC [.br true, .n 8, .keep [4, 5] []] rfl ⟨trivial, hc9⟩ ?_
      obtain rfl := Option.some.inj h
      refine AK.done ?_
      exact Exists.intro [_, _] (And.intro (And.intro rfl (And.intro rfl trivial)) (gives trivial))
    · refine AK.go tab_ok hC [.br false, .n 10, .keep [4, 5] []] rfl ⟨trivial, hc9⟩ ?_
      obtain rfl := Option.some.inj h
      refine AK.done ?_
      exact Exists.intro [_, _] (And.intro (And.intro rfl (And.intro rfl trivial)) (gives trivial))

-- 107 baldric/calc.size
noncomputable def F_calc_size (a1 : Int) : Option Int :=
  bif (decide (a1 < 0)) then
  some (IntKind.u64.wrap (0 - (IntKind.u64.wrap a1)))
  else
  some (IntKind.u64.wrap a1)

set_option maxRecDepth 100000 in
set_option maxHeartbeats 4000000 in
theorem F_calc_size_ok (a1 : Int) {r : Int} (h : F_calc_size a1 = some r) : ACalls Tryz.prog 107 [.i .i64 a1] [] (Gives (.i .u64 r) []) := by
  refine ACalls.walk 10 Tryz.func107 rfl Tryz.ntmps107 rfl fun C hC => ?_
  unfold F_calc_size at h
  refine AK.go tab_ok hC [.n 12] rfl trivial ?_
  rcases bifE h with ⟨hc4, h⟩ | ⟨hc4, h⟩
  · refine AK.go tab_ok hC [.br true, .n 3, .o (.any (.i .u64 (IntKind.u64.wrap a1)) none), .n 6, .keep [2] []] rfl ⟨⟨trivial, hc4⟩, (fun σ h1 h2 _ => Stp.convI rfl rfl (hC ▸ rfl) (h1 _ _ rfl) it_3 it_131)⟩ ?_
    obtain rfl := Option.some.inj h
    refine AK.done ?_
    exact Exists.intro [_] (And.intro (And.intro rfl trivial) (gives trivial))
  · refine AK.go tab_ok hC [.br false, .n 5, .o (.any (.i .u64 (IntKind.u64.wrap a1)) none), .n 4, .keep [2] []] rfl ⟨⟨trivial, hc4⟩, (fun σ h1 h2 _ => Stp.convI rfl rfl (hC ▸ rfl) (h1 _ _ rfl) it_3 it_131)⟩ ?_
    obtain rfl := Option.some.inj h
    refine AK.done ?_
    exact Exists.intro [_] (And.intro (And.intro rfl trivial) (gives trivial))

-- 106 math/bits.Mul64
noncomputable def F_math_bits_Mul64 (p1 : Int) (y2 : Int) : Option (Int × Int) :=
  some ((IntKind.u64.wrap ((IntKind.u64.wrap ((IntKind.u64.wrap ((shrI .u64 p1 32) * (shrI .u64 y2 32))) + (shrI .u64 (IntKind.u64.wrap ((IntKind.u64.wrap ((shrI .u64 p1 32) * (andI .u64 y2 4294967295))) + (shrI .u64 (IntKind.u64.wrap ((andI .u64 p1 4294967295) * (andI .u64 y2 4294967295))) 32))) 32))) + (shrI .u64 (IntKind.u64.wrap ((andI .u64 (IntKind.u64.wrap ((IntKind.u64.wrap ((shrI .u64 p1 32) * (andI .u64 y2 4294967295))) + (shrI .u64 (IntKind.u64.wrap ((andI .u64 p1 4294967295) * (andI .u64 y2 4294967295))) 32))) 4294967295) + (IntKind.u64.wrap ((andI .u64 p1 4294967295) * (shrI .u64 y2 32))))) 32))), (IntKind.u64.wrap (p1 * y2)))

set_option maxRecDepth 100000 in
set_option maxHeartbeats 4000000 in
theorem F_math_bits_Mul64_ok (p1 : Int) (y2 : Int) {r : (Int × Int)} (h : F_math_bits_Mul64 p1 y2 = some r) : ACalls Tryz.prog 106 [.i .u64 p1, .i .u64 y2] [] (Gives (.tup [.i .u64 r.1, .i .u64 r.2]) []) := by
  refine ACalls.walk 51 Tryz.func106 rfl Tryz.ntmps106 rfl fun C hC => ?_
  unfold F_math_bits_Mul64 at h
  refine AK.go tab_ok hC [.n 9, .o (.any (.i .u64 (andI .u64 p1 4294967295)) none), .n 6, .o (.any (.i .u64 (shrI .u64 p1 32)) none), .n 6, .o (.any (.i .u64 (andI .u64 y2 4294967295)) none), .n 6, .o (.any (.i .u64 (shrI .u64 y2 32)) none), .n 17, .o (.any (.i .u64 (shrI .u64 (IntKind.u64.wrap ((andI .u64 p1 4294967295) * (andI .u64 y2 4294967295))) 32)) none), .n 7, .o (.any (.i .u64 (andI .u64 (IntKind.u64.wrap ((IntKind.u64.wrap ((shrI .u64 p1 32) * (andI .u64 y2 4294967295))) + (shrI .u64 (IntKind.u64.wrap ((andI .u64 p1 4294967295) * (andI .u64 y2 4294967295))) 32))) 4294967295)) none), .n 6, .o (.any (.i .u64 (shrI .u64 (IntKind.u64.wrap ((IntKind.u64.wrap ((shrI .u64 p1 32) * (andI .u64 y2 4294967295))) + (shrI .u64 (IntKind.u64.wrap ((andI .u64 p1 4294967295) * (andI .u64 y2 4294967295))) 32))) 32)) none), .n 21, .o (.any (.i .u64 (shrI .u64 (IntKind.u64.wrap ((andI .u64 (IntKind.u64.wrap ((IntKind.u64.wrap ((shrI .u64 p1 32) * (andI .u64 y2 4294967295))) + (shrI .u64 (IntKind.u64.wrap ((andI .u64 p1 4294967295) * (andI .u64 y2 4294967295))) 32))) 4294967295) + (IntKind.u64.wrap ((andI .u64 p1 4294967295) * (shrI .u64 y2 32))))) 32)) none), .n 13, .keep [4, 5] []] rfl ⟨⟨⟨⟨⟨⟨⟨⟨trivial, (fun σ h1 h2 _ => Stp.andB rfl rfl (hC ▸ rfl) (h1 _ _ rfl) (h1 _ _ rfl))⟩, (fun σ h1 h2 _ => Stp.shr rfl rfl (hC ▸ rfl) (h1 _ _ rfl) (h1 _ _ rfl) (by decide))⟩, (fun σ h1 h2 _ => Stp.andB rfl rfl (hC ▸ rfl) (h1 _ _ rfl) (h1 _ _ rfl))⟩, (fun σ h1 h2 _ => Stp.shr rfl rfl (hC ▸ rfl) (h1 _ _ rfl) (h1 _ _ rfl) (by decide))⟩, (fun σ h1 h2 _ => Stp.shr rfl rfl (hC ▸ rfl) (h1 _ _ rfl) (h1 _ _ rfl) (by decide))⟩, (fun σ h1 h2 _ => Stp.andB rfl rfl (hC ▸ rfl) (h1 _ _ rfl) (h1 _ _ rfl))⟩, (fun σ h1 h2 _ => Stp.shr rfl rfl (hC ▸ rfl) (h1 _ _ rfl) (h1 _ _ rfl) (by decide))⟩, (fun σ h1 h2 _ => Stp.shr rfl rfl (hC ▸ rfl) (h1 _ _ rfl) (h1 _ _ rfl) (by decide))⟩ ?_
  obtain rfl := Option.some.inj h
  refine AK.done ?_
  exact Exists.intro [_, _] (And.intro (And.intro rfl (And.intro rfl trivial)) (gives trivial))

-- 103 baldric/calc.product
noncomputable def F_calc_product_k1 (x9 : (Int × Int)) (a1 : Int) (b2 : Int) (most10 : Int) : Option (Int × Int) :=
  bif ((decide (0 < x9.1)) || (decide (most10 < x9.2))) then
  some (0, 6)
  else
  some ((w64 (a1 * b2)), 0)

noncomputable def F_calc_product (a1 : Int) (b2 : Int) : Option (Int × Int) :=
  (F_calc_size a1).bind fun x7 =>
  (F_calc_size b2).bind fun x8 =>
  (F_math_bits_Mul64 x7 x8).bind fun x9 =>
  bif ((decide (a1 < 0)) != (decide (b2 < 0))) then
  F_calc_product_k1 x9 a1 b2 (IntKind.u64.wrap (9223372036854775807 + 1))
  else
  F_calc_product_k1 x9 a1 b2 9223372036854775807

set_option maxRecDepth 100000 in
set_option maxHeartbeats 4000000 in
theorem F_calc_product_ok (a1 : Int) (b2 : Int) {r : (Int × Int)} (h : F_calc_product a1 b2 = some r) : ACalls Tryz.prog 103 [.i .i64 a1, .i .i64 b2] [] (Gives (.tup [.i .i64 r.1, .i .i64 r.2]) []) := by
  refine ACalls.walk 34 Tryz.func103 rfl Tryz.ntmps103 rfl fun C hC => ?_
  unfold F_calc_product at h
  obtain ⟨x7, hx7, h⟩ := bindE h
  obtain ⟨x8, hx8, h⟩ := bindE h
  obtain ⟨x9, hx9, h⟩ := bindE h
  refine AK.go tab_ok hC [.n 9, .o (.c false [.d] (.i .u64 x7)), .n 1, .o (.c false [.d] (.i .u64 x8)), .o (.c false [.d, .d] (.tup [.i .u64 x9.1, .i .u64 x9.2])), .n 12] rfl ⟨⟨⟨trivial, (F_calc_size_ok _ hx7)⟩, (F_calc_size_ok _ hx8)⟩, (F_math_bits_Mul64_ok _ _ hx9)⟩ ?_
  refine AK.meet (fun σ => ∃ most10 : Int, σ = ⟨[(0, .i .i64 a1), (1, .i .i64 b2), (6, .i .u64 x9.1), (7, .i .u64 x9.2), (8, .i .u64 most10)], []⟩ ∧ F_calc_product_k1 x9 a1 b2 most10 = some r) ?_ ?_
  · refine AK.go tab_ok hC [.n 9] rfl trivial ?_
    rcases bifE h with ⟨hc14, h⟩ | ⟨hc14, h⟩
    · refine AK.go tab_ok hC [.br true, .n 5, .keep [0, 1, 6, 7, 8] []] rfl ⟨trivial, hc14⟩ ?_
      exact AK.met (Exists.intro _ (And.intro rfl h))
    · refine AK.go tab_ok hC [.br false, .n 1, .keep [0, 1, 6, 7, 8] []] rfl ⟨trivial, hc14⟩ ?_
      exact AK.met (Exists.intro _ (And.intro rfl h))
  · rintro σ ⟨most10, rfl, h⟩
    unfold F_calc_product_k1 at h
    refine AK.go tab_ok hC [.n 2] rfl trivial ?_
    refine AK.meetX (fun σ => σ = ⟨[(0, .i .i64 a1), (1, .i .i64 b2), (30, .b ((decide (0 < x9.1)) || (decide (most10 < x9.2))))], []⟩) ?_ ?_
    · refine AK.go tab_ok hC [.n 4] rfl trivial ?_
      rcases boolOr (decide (0 < x9.1)) with hc12 | hc12
      · refine AK.go tab_ok hC [.say 26 (.b true), .n 5, .say 30 (.b ((decide (0 < x9.1)) || (decide (most10 < x9.2)))), .keep [0, 1, 30] []] rfl ⟨⟨trivial, (congrArg V.b hc12)⟩, (congrArg V.b (orT hc12 rfl))⟩ ?_
        exact AK.met rfl
      · refine AK.go tab_ok hC [.say 26 (.b false), .n 5, .say 30 (.b ((decide (0 < x9.1)) || (decide (most10 < x9.2)))), .keep [0, 1, 30] []] rfl ⟨⟨trivial, (congrArg V.b hc12)⟩, (congrArg V.b (orF hc12 rfl))⟩ ?_
        exact AK.met rfl
    · rintro σ rfl
      refine AK.go tab_ok hC [.n 1] rfl trivial ?_
      rcases bifE h with ⟨hc13, h⟩ | ⟨hc13, h⟩
      · refine AK.go tab_ok hC [.br true, .n 8, .keep [4, 5] []] rfl ⟨trivial, hc13⟩ ?_
        obtain rfl := Option.some.inj h
        refine AK.done ?_
        exact Exists.intro [_, _] (And.intro (And.intro rfl (And.intro rfl trivial)) (gives trivial))
      · refine AK.go tab_ok hC [.br false, .n 12, .keep [4, 5] []] rfl ⟨trivial, hc13⟩ ?_
        obtain rfl := Option.some.inj h
        refine AK.done ?_
        exact Exists.intro [_, _] (And.intro (And.intro rfl (And.intro rfl trivial)) (gives trivial))

-- 104 baldric/calc.quotient
noncomputable def F_calc_quotient (a1 : Int) (b2 : Int) : Option (Int × Int × Int) :=
  bif (b2 == 0) then
  some (0, 0, 7)
  else
  bif ((a1 == (-9223372036854775808)) && (b2 == (-1))) then
  some (0, 0, 6)
  else
  (chk (b2 != 0)).bind fun _ =>
  (chk (b2 != 0)).bind fun _ =>
  some ((w64 (Int.tdiv a1 b2)), (Int.tmod a1 b2), 0)

set_option maxRecDepth 100000 in
set_option maxHeartbeats 4000000 in
theorem F_calc_quotient_ok (a1 : Int) (b2 : Int) {r : (Int × Int × Int)} (h : F_calc_quotient a1 b2 = some r) : ACalls Tryz.prog 104 [.i .i64 a1, .i .i64 b2] [] (Gives (.tup [.i .i64 r.1, .i .i64 r.2.1, .i .i64 r.2.2]) []) := by
  refine ACalls.walk 23 Tryz.func104 rfl Tryz.ntmps104 rfl fun C hC => ?_
  unfold F_calc_quotient at h
  refine AK.go tab_ok hC [.n 16] rfl trivial ?_
  rcases bifE h with ⟨hc9, h⟩ | ⟨hc9, h⟩
  · refine AK.go tab_ok hC [.br true, .n 10, .keep [4, 5, 6] []] rfl ⟨trivial, hc9⟩ ?_
    obtain rfl := Option.some.inj h
    refine AK.done ?_
    exact Exists.intro [_, _, _] (And.intro (And.intro rfl (And.intro rfl (And.intro rfl trivial))) (gives trivial))
  · refine AK.go tab_ok hC [.br false, .n 1] rfl ⟨trivial, hc9⟩ ?_
    refine AK.meetX (fun σ => σ = ⟨[(0, .i .i64 a1), (1, .i .i64 b2), (10, .b ((a1 == (-9223372036854775808)) && (b2 == (-1))))], []⟩) ?_ ?_
    · refine AK.go tab_ok hC [.n 4] rfl trivial ?_
      rcases boolOr (a1 == (-9223372036854775808)) with hc11 | hc11
      · refine AK.go tab_ok hC [.say 13 (.b true), .n 5, .say 10 (.b ((a1 == (-9223372036854775808)) && (b2 == (-1)))), .keep [0, 1, 10] []] rfl ⟨⟨trivial, (congrArg V.b hc11)⟩, (congrArg V.b (andT hc11 rfl))⟩ ?_
        exact AK.met rfl
      · refine AK.go tab_ok hC [.say 13 (.b false), .n 5, .say 10 (.b ((a1 == (-9223372036854775808)) && (b2 == (-1)))), .keep [0, 1, 10] []] rfl ⟨⟨trivial, (congrArg V.b hc11)⟩, (congrArg V.b (andF hc11 rfl))⟩ ?_
        exact AK.met rfl
    · rintro σ rfl
      refine AK.go tab_ok hC [.n 1] rfl trivial ?_
      rcases bifE h with ⟨hc12, h⟩ | ⟨hc12, h⟩
      · refine AK.go tab_ok hC [.br true, .n 10, .keep [4, 5, 6] []] rfl ⟨trivial, hc12⟩ ?_
        obtain rfl := Option.some.inj h
        refine AK.done ?_
        exact Exists.intro [_, _, _] (And.intro (And.intro rfl (And.intro rfl (And.intro rfl trivial))) (gives trivial))
      · obtain ⟨_, hk13, h⟩ := bindE h
        replace hk13 := chkE hk13
        obtain ⟨_, hk14, h⟩ := bindE h
        replace hk14 := chkE hk14
        refine AK.go tab_ok hC [.br false, .n 4, .keep [0, 1] []] rfl ⟨trivial, hc12⟩ ?_
        refine AK.draw2 tab_ok hC mixed [.a .no none false, .a .no none false, .a .no none false, .a .no none false, .a .no none false, .a .no none false, .a .no none false, .a .no none false, .a .no none false] [] [] [4, 5, 6] [] rfl rfl rfl ⟨⟨trivial, (neZ hk13)⟩, (neZ hk14)⟩ rfl (by kernel_rfl) rfl rfl rfl ?_
        refine AK.go tab_ok hC [.n 2, .keep [4, 5, 6] []] rfl trivial ?_
        obtain rfl := Option.some.inj h
        refine AK.done ?_
        exact Exists.intro [_, _, _] (And.intro (And.intro rfl (And.intro rfl (And.intro rfl trivial))) (gives trivial))

-- 105 baldric/calc.yes
noncomputable def F_calc_yes (is1 : Bool) : Option (Int × Int) :=
  bif is1 then
  some (1, 0)
  else
  some (0, 0)

set_option maxRecDepth 100000 in
set_option maxHeartbeats 4000000 in
theorem F_calc_yes_ok (is1 : Bool) {r : (Int × Int)} (h : F_calc_yes is1 = some r) : ACalls Tryz.prog 105 [.b is1] [] (Gives (.tup [.i .i64 r.1, .i .i64 r.2]) []) := by
  refine ACalls.walk 5 Tryz.func105 rfl Tryz.ntmps105 rfl fun C hC => ?_
  unfold F_calc_yes at h
  refine AK.go tab_ok hC [.n 12] rfl trivial ?_
  rcases bifE h with ⟨hc5, h⟩ | ⟨hc5, h⟩
  · refine AK.go tab_ok hC [.br true, .n 8, .keep [2, 3] []] rfl ⟨trivial, hc5⟩ ?_
    obtain rfl := Option.some.inj h
    refine AK.done ?_
    exact Exists.intro [_, _] (And.intro (And.intro rfl (And.intro rfl trivial)) (gives trivial))
  · refine AK.go tab_ok hC [.br false, .n 9, .keep [2, 3] []] rfl ⟨trivial, hc5⟩ ?_
    obtain rfl := Option.some.inj h
    refine AK.done ?_
    exact Exists.intro [_, _] (And.intro (And.intro rfl (And.intro rfl trivial)) (gives trivial))

-- 98 baldric/calc.Do
noncomputable def F_calc_Do_g1 (a2 : Int) (b3 : Int) : Option (Int × Int) :=
  bif (a2 != 0) then
  (F_calc_yes (b3 != 0)).bind fun x31 =>
  some (x31.1, x31.2)
  else
  (F_calc_yes false).bind fun x32 =>
  some (x32.1, x32.2)

noncomputable def F_calc_Do_k2 (x27 : Int) (x28 : Int) : Option (Int × Int) :=
  some (x27, x28)

noncomputable def F_calc_Do_g3 (a2 : Int) (b3 : Int) : Option (Int × Int) :=
  bif (a2 != 0) then
  (F_calc_yes true).bind fun x38 =>
  some (x38.1, x38.2)
  else
  (F_calc_yes (b3 != 0)).bind fun x39 =>
  some (x39.1, x39.2)

noncomputable def F_calc_Do_k4 (x34 : Int) (x35 : Int) : Option (Int × Int) :=
  some (x34, x35)

noncomputable def F_calc_Do (op1 : Int) (a2 : Int) (b3 : Int) : Option (Int × Int) :=
  bif (op1 == 1) then
  (F_calc_sum a2 b3).bind fun x9 =>
  some (x9.1, x9.2)
  else
  bif (op1 == 2) then
  (F_calc_difference a2 b3).bind fun x11 =>
  some (x11.1, x11.2)
  else
  bif (op1 == 3) then
  (F_calc_product a2 b3).bind fun x13 =>
  some (x13.1, x13.2)
  else
  bif (op1 == 4) then
  (F_calc_quotient a2 b3).bind fun x15 =>
  some (x15.1, x15.2.2)
  else
  bif (op1 == 5) then
  (F_calc_quotient a2 b3).bind fun x17 =>
  some (x17.2.1, x17.2.2)
  else
  bif (op1 == 6) then
  (F_calc_yes (a2 == b3)).bind fun x19 =>
  some (x19.1, x19.2)
  else
  bif (op1 == 7) then
  (F_calc_yes (a2 != b3)).bind fun x21 =>
  some (x21.1, x21.2)
  else
  bif (op1 == 8) then
  (F_calc_yes (decide (a2 < b3))).bind fun x23 =>
  some (x23.1, x23.2)
  else
  bif (op1 == 9) then
  (F_calc_yes (decide (a2 ≤ b3))).bind fun x25 =>
  some (x25.1, x25.2)
  else
  bif (op1 == 10) then
  (F_calc_Do_g1 a2 b3).bind (fun v => F_calc_Do_k2 v.1 v.2)
  else
  bif (op1 == 11) then
  (F_calc_Do_g3 a2 b3).bind (fun v => F_calc_Do_k4 v.1 v.2)
  else
  some (0, 1)

set_option maxRecDepth 100000 in
set_option maxHeartbeats 4000000 in
theorem F_calc_Do_ok (op1 : Int) (a2 : Int) (b3 : Int) {r : (Int × Int)} (h : F_calc_Do op1 a2 b3 = some r) : ACalls Tryz.prog 98 [.i .i64 op1, .i .i64 a2, .i .i64 b3] [] (Gives (.tup [.i .i64 r.1, .i .i64 r.2]) []) := by
  refine ACalls.walk 112 Tryz.func98 rfl Tryz.ntmps98 rfl fun C hC => ?_
  unfold F_calc_Do at h
  refine AK.go tab_ok hC [.n 19] rfl trivial ?_
  rcases bifE h with ⟨hc8, h⟩ | ⟨hc8, h⟩
  · obtain ⟨x9, hx9, h⟩ := bindE h
    refine AK.go tab_ok hC [.br true, .n 4, .o (.c false [.d, .d] (.tup [.i .i64 x9.1, .i .i64 x9.2])), .n 9, .keep [6, 7] []] rfl ⟨⟨trivial, hc8⟩, (F_calc_sum_ok _ _ hx9)⟩ ?_
    obtain rfl := Option.some.inj h
    refine AK.done ?_
    exact Exists.intro [_, _] (And.intro (And.intro rfl (And.intro rfl trivial)) (gives trivial))
  · refine AK.go tab_ok hC [.br false, .n 6] rfl ⟨trivial, hc8⟩ ?_
    rcases bifE h with ⟨hc10, h⟩ | ⟨hc10, h⟩
    · obtain ⟨x11, hx11, h⟩ := bindE h
      refine AK.go tab_ok hC [.br true, .n 4, .o (.c false [.d, .d] (.tup [.i .i64 x11.1, .i .i64 x11.2])), .n 9, .keep [6, 7] []] rfl ⟨⟨trivial, hc10⟩, (F_calc_difference_ok _ _ hx11)⟩ ?_
      obtain rfl := Option.some.inj h
      refine AK.done ?_
      exact Exists.intro [_, _] (And.intro (And.intro rfl (And.intro rfl trivial)) (gives trivial))
    · refine AK.go tab_ok hC [.br false, .n 6] rfl ⟨trivial, hc10⟩ ?_
      rcases bifE h with ⟨hc12, h⟩ | ⟨hc12, h⟩
      · obtain ⟨x13, hx13, h⟩ := bindE h
        refine AK.go tab_ok hC [.br true, .n 4, .o (.c false [.d, .d] (.tup [.i .i64 x13.1, .i .i64 x13.2])), .n 9, .keep [6, 7] []] rfl ⟨⟨trivial, hc12⟩, (F_calc_product_ok _ _ hx13)⟩ ?_
        obtain rfl := Option.some.inj h
        refine AK.done ?_
        exact Exists.intro [_, _] (And.intro (And.intro rfl (And.intro rfl trivial)) (gives trivial))
      · refine AK.go tab_ok hC [.br false, .n 6] rfl ⟨trivial, hc12⟩ ?_
        rcases bifE h with ⟨hc14, h⟩ | ⟨hc14, h⟩
        · obtain ⟨x15, hx15, h⟩ := bindE h
          refine AK.go tab_ok hC [.br true, .n 4, .o (.c false [.d, .d] (.tup [.i .i64 x15.1, .i .i64 x15.2.1, .i .i64 x15.2.2])), .n 20, .keep [6, 7] []] rfl ⟨⟨trivial, hc14⟩, (F_calc_quotient_ok _ _ hx15)⟩ ?_
          obtain rfl := Option.some.inj h
          refine AK.done ?_
          exact Exists.intro [_, _] (And.intro (And.intro rfl (And.intro rfl trivial)) (gives trivial))
        · refine AK.go tab_ok hC [.br false, .n 6] rfl ⟨trivial, hc14⟩ ?_
          rcases bifE h with ⟨hc16, h⟩ | ⟨hc16, h⟩
          · obtain ⟨x17, hx17, h⟩ := bindE h
            refine AK.go tab_ok hC [.br true, .n 4, .o (.c false [.d, .d] (.tup [.i .i64 x17.1, .i .i64 x17.2.1, .i .i64 x17.2.2])), .n 20, .keep [6, 7] []] rfl ⟨⟨trivial, hc16⟩, (F_calc_quotient_ok _ _ hx17)⟩ ?_
            obtain rfl := Option.some.inj h
            refine AK.done ?_
            exact Exists.intro [_, _] (And.intro (And.intro rfl (And.intro rfl trivial)) (gives trivial))
          · refine AK.go tab_ok hC [.br false, .n 6] rfl ⟨trivial, hc16⟩ ?_
            rcases bifE h with ⟨hc18, h⟩ | ⟨hc18, h⟩
            · obtain ⟨x19, hx19, h⟩ := bindE h
              refine AK.go tab_ok hC [.br true, .n 5, .o (.c false [.d] (.tup [.i .i64 x19.1, .i .i64 x19.2])), .n 9, .keep [6, 7] []] rfl ⟨⟨trivial, hc18⟩, (F_calc_yes_ok _ hx19)⟩ ?_
              obtain rfl := Option.some.inj h
              refine AK.done ?_
              exact Exists.intro [_, _] (And.intro (And.intro rfl (And.intro rfl trivial)) (gives trivial))
            · refine AK.go tab_ok hC [.br false, .n 6] rfl ⟨trivial, hc18⟩ ?_
              rcases bifE h with ⟨hc20, h⟩ | ⟨hc20, h⟩
              · obtain ⟨x21, hx21, h⟩ := bindE h
                refine AK.go tab_ok hC [.br true, .n 5, .o (.c false [.d] (.tup [.i .i64 x21.1, .i .i64 x21.2])), .n 9, .keep [6, 7] []] rfl ⟨⟨trivial, hc20⟩, (F_calc_yes_ok _ hx21)⟩ ?_
                obtain rfl := Option.some.inj h
                refine AK.done ?_
                exact Exists.intro [_, _] (And.intro (And.intro rfl (And.intro rfl trivial)) (gives trivial))
              · refine AK.go tab_ok hC [.br false, .n 6] rfl ⟨trivial, hc20⟩ ?_
                rcases bifE h with ⟨hc22, h⟩ | ⟨hc22, h⟩
                · obtain ⟨x23, hx23, h⟩ := bindE h
                  refine AK.go tab_ok hC [.br true, .n 5, .o (.c false [.d] (.tup [.i .i64 x23.1, .i .i64 x23.2])), .n 9, .keep [6, 7] []] rfl ⟨⟨trivial, hc22⟩, (F_calc_yes_ok _ hx23)⟩ ?_
                  obtain rfl := Option.some.inj h
                  refine AK.done ?_
                  exact Exists.intro [_, _] (And.intro (And.intro rfl (And.intro rfl trivial)) (gives trivial))
                · refine AK.go tab_ok hC [.br false, .n 6] rfl ⟨trivial, hc22⟩ ?_
                  rcases bifE h with ⟨hc24, h⟩ | ⟨hc24, h⟩
                  · obtain ⟨x25, hx25, h⟩ := bindE h
                    refine AK.go tab_ok hC [.br true, .n 5, .o (.c false [.d] (.tup [.i .i64 x25.1, .i .i64 x25.2])), .n 9, .keep [6, 7] []] rfl ⟨⟨trivial, hc24⟩, (F_calc_yes_ok _ hx25)⟩ ?_
                    obtain rfl := Option.some.inj h
                    refine AK.done ?_
                    exact Exists.intro [_, _] (And.intro (And.intro rfl (And.intro rfl trivial)) (gives trivial))
                  · refine AK.go tab_ok hC [.br false, .n 6] rfl ⟨trivial, hc24⟩ ?_
                    rcases bifE h with ⟨hc26, h⟩ | ⟨hc26, h⟩
                    · refine AK.go tab_ok hC [.br true, .n 1] rfl ⟨trivial, hc26⟩ ?_
                      obtain ⟨v, hv29, h⟩ := bindE h
                      replace h : F_calc_Do_k2 v.1 v.2 = some r := h
                      refine AK.meetX (fun σ => σ = ⟨[(6, .i .i64 v.1), (7, .i .i64 v.2)], []⟩) ?_ ?_
                      · replace h := hv29
                        unfold F_calc_Do_g1 at h
                        refine AK.go tab_ok hC [.n 4] rfl trivial ?_
                        rcases bifE h with ⟨hc30, h⟩ | ⟨hc30, h⟩
                        · obtain ⟨x31, hx31, h⟩ := bindE h
                          refine AK.go tab_ok hC [.say 94 (.b true), .n 3, .o (.c false [.d] (.tup [.i .i64 x31.1, .i .i64 x31.2])), .n 5, .keep [6, 7] []] rfl ⟨⟨trivial, (congrArg V.b hc30)⟩, (F_calc_yes_ok _ hx31)⟩ ?_
                          obtain rfl := Option.some.inj h
                          exact AK.met rfl
                        · obtain ⟨x32, hx32, h⟩ := bindE h
                          refine AK.go tab_ok hC [.say 94 (.b false), .n 3, .o (.c false [.d] (.tup [.i .i64 x32.1, .i .i64 x32.2])), .n 5, .keep [6, 7] []] rfl ⟨⟨trivial, (congrArg V.b hc30)⟩, (F_calc_yes_ok _ hx32)⟩ ?_
                          obtain rfl := Option.some.inj h
                          exact AK.met rfl
                      · rintro σ rfl
                        obtain ⟨x27, x28⟩ := v
                        replace h : F_calc_Do_k2 x27 x28 = some r := h
                        unfold F_calc_Do_k2 at h
                        refine AK.go tab_ok hC [.n 4, .keep [6, 7] []] rfl trivial ?_
                        obtain rfl := Option.some.inj h
                        refine AK.done ?_
                        exact Exists.intro [_, _] (And.intro (And.intro rfl (And.intro rfl trivial)) (gives trivial))
                    · refine AK.go tab_ok hC [.br false, .n 6] rfl ⟨trivial, hc26⟩ ?_
                      rcases bifE h with ⟨hc33, h⟩ | ⟨hc33, h⟩
                      · refine AK.go tab_ok hC [.br true, .n 1] rfl ⟨trivial, hc33⟩ ?_
                        obtain ⟨v, hv36, h⟩ := bindE h
                        replace h : F_calc_Do_k4 v.1 v.2 = some r := h
                        refine AK.meetX (fun σ => σ = ⟨[(6, .i .i64 v.1), (7, .i .i64 v.2)], []⟩) ?_ ?_
                        · replace h := hv36
                          unfold F_calc_Do_g3 at h
                          refine AK.go tab_ok hC [.n 4] rfl trivial ?_
                          rcases bifE h with ⟨hc37, h⟩ | ⟨hc37, h⟩
                          · obtain ⟨x38, hx38, h⟩ := bindE h
                            refine AK.go tab_ok hC [.say 105 (.b true), .n 3, .o (.c false [.d] (.tup [.i .i64 x38.1, .i .i64 x38.2])), .n 5, .keep [6, 7] []] rfl ⟨⟨trivial, (congrArg V.b hc37)⟩, (F_calc_yes_ok _ hx38)⟩ ?_
                            obtain rfl := Option.some.inj h
                            exact AK.met rfl
                          · obtain ⟨x39, hx39, h⟩ := bindE h
                            refine AK.go tab_ok hC [.say 105 (.b false), .n 3, .o (.c false [.d] (.tup [.i .i64 x39.1, .i .i64 x39.2])), .n 5, .keep [6, 7] []] rfl ⟨⟨trivial, (congrArg V.b hc37)⟩, (F_calc_yes_ok _ hx39)⟩ ?_
                            obtain rfl := Option.some.inj h
                            exact AK.met rfl
                        · rintro σ rfl
                          obtain ⟨x34, x35⟩ := v
                          replace h : F_calc_Do_k4 x34 x35 = some r := h
                          unfold F_calc_Do_k4 at h
                          refine AK.go tab_ok hC [.n 4, .keep [6, 7] []] rfl trivial ?_
                          obtain rfl := Option.some.inj h
                          refine AK.done ?_
                          exact Exists.intro [_, _] (And.intro (And.intro rfl (And.intro rfl trivial)) (gives trivial))
                      · refine AK.go tab_ok hC [.br false, .n 10, .keep [6, 7] []] rfl ⟨trivial, hc33⟩ ?_
                        obtain rfl := Option.some.inj h
                        refine AK.done ?_
                        exact Exists.intro [_, _] (And.intro (And.intro rfl (And.intro rfl trivial)) (gives trivial))

-- 97 baldric/calc.Neg
noncomputable def F_calc_Neg (a1 : Int) : Option (Int × Int) :=
  (F_calc_Do 2 0 a1).bind fun x4 =>
  some (x4.1, x4.2)

set_option maxRecDepth 100000 in
set_option maxHeartbeats 4000000 in
theorem F_calc_Neg_ok (a1 : Int) {r : (Int × Int)} (h : F_calc_Neg a1 = some r) : ACalls Tryz.prog 97 [.i .i64 a1] [] (Gives (.tup [.i .i64 r.1, .i .i64 r.2]) []) := by
  refine ACalls.walk 8 Tryz.func97 rfl Tryz.ntmps97 rfl fun C hC => ?_
  unfold F_calc_Neg at h
  obtain ⟨x4, hx4, h⟩ := bindE h
  refine AK.go tab_ok hC [.n 9, .o (.c false [.d, .d, .d] (.tup [.i .i64 x4.1, .i .i64 x4.2])), .n 7, .keep [2, 3] []] rfl ⟨trivial, (F_calc_Do_ok _ _ _ hx4)⟩ ?_
  obtain rfl := Option.some.inj h
  refine AK.done ?_
  exact Exists.intro [_, _] (And.intro (And.intro rfl (And.intro rfl trivial)) (gives trivial))

-- 81 (baldric/expr.env).turned
noncomputable def F_expr_env_turned (rec_expr_env_eval : (List Int) → TExpr → Option (Int × Int)) (v1 : (List Int)) (e2 : TExpr) : Option (Int × Int) :=
  (idx e2.Kids 0).bind fun e7 =>
  (rec_expr_env_eval v1 e7).bind fun x8 =>
  bif (x8.2 != 0) then
  some (0, x8.2)
  else
  bif (e2.Kind == 3) then
  (F_calc_Neg x8.1).bind fun x11 =>
  some (x11.1, x11.2)
  else
  (F_calc_Do 6 x8.1 0).bind fun x12 =>
  some (x12.1, x12.2)

set_option maxRecDepth 100000 in
set_option maxHeartbeats 4000000 in
theorem F_expr_env_turned_ok (rec_expr_env_eval : (List Int) → TExpr → Option (Int × Int)) (hrec_expr_env_eval : ∀ (v1 : (List Int)) (e2 : TExpr) {r : (Int × Int)}, rec_expr_env_eval v1 e2 = some r → ACalls Tryz.prog 43 [.sl 1 (v1.map row_I), .agg (row_TExpr e2)] [] (Gives (.tup [.i .i64 r.1, .i .i64 r.2]) [])) (v1 : (List Int)) (e2 : TExpr) {r : (Int × Int)} (h : F_expr_env_turned rec_expr_env_eval v1 e2 = some r) : ACalls Tryz.prog 81 [.sl 1 (v1.map row_I), .agg (row_TExpr e2)] [] (Gives (.tup [.i .i64 r.1, .i .i64 r.2]) []) := by
  refine ACalls.walk 33 Tryz.func81 rfl Tryz.ntmps81 rfl fun C hC => ?_
  unfold F_expr_env_turned at h
  obtain ⟨e7, he7, h⟩ := bindE h
  obtain ⟨x8, hx8, h⟩ := bindE h
  refine AK.go tab_ok hC [.n 12, .o (.row (row_TExpr e7)), .v .no [] (.agg (row_TExpr e7)), .o (.c false [.d, .d] (.tup [.i .i64 x8.1, .i .i64 x8.2])), .n 16] rfl ⟨⟨⟨trivial, (idxR_TExpr he7)⟩, rfl⟩, (hrec_expr_env_eval _ _ hx8)⟩ ?_
  rcases bifE h with ⟨hc9, h⟩ | ⟨hc9, h⟩
  · refine AK.go tab_ok hC [.br true, .n 10, .keep [4, 5] []] rfl ⟨trivial, hc9⟩ ?_
    obtain rfl := Option.some.inj h
    refine AK.done ?_
    exact Exists.intro [_, _] (And.intro (And.intro rfl (And.intro rfl trivial)) (gives trivial))
  · refine AK.go tab_ok hC [.br false, .n 8] rfl ⟨trivial, hc9⟩ ?_
    rcases bifE h with ⟨hc10, h⟩ | ⟨hc10, h⟩
    · obtain ⟨x11, hx11, h⟩ := bindE h
      refine AK.go tab_ok hC [.br true, .n 3, .o (.c false [.d] (.tup [.i .i64 x11.1, .i .i64 x11.2])), .n 9, .keep [4, 5] []] rfl ⟨⟨trivial, hc10⟩, (F_calc_Neg_ok _ hx11)⟩ ?_
      obtain rfl := Option.some.inj h
      refine AK.done ?_
      exact Exists.intro [_, _] (And.intro (And.intro rfl (And.intro rfl trivial)) (gives trivial))
    · obtain ⟨x12, hx12, h⟩ := bindE h
      refine AK.go tab_ok hC [.br false, .n 6, .o (.c false [.d, .d, .d] (.tup [.i .i64 x12.1, .i .i64 x12.2])), .n 7, .keep [4, 5] []] rfl ⟨⟨trivial, hc10⟩, (F_calc_Do_ok _ _ _ hx12)⟩ ?_
      obtain rfl := Option.some.inj h
      refine AK.done ?_
      exact Exists.intro [_, _] (And.intro (And.intro rfl (And.intro rfl trivial)) (gives trivial))

-- 82 (baldric/expr.env).two
noncomputable def F_expr_env_two_k1 (x8 : (Int × Int)) (e2 : TExpr) (rec_expr_env_eval : (List Int) → TExpr → Option (Int × Int)) (v1 : (List Int)) (x10 : Bool) : Option (Int × Int) :=
  bif x10 then
  (F_calc_Do 7 x8.1 0).bind fun x12 =>
  some (x12.1, x12.2)
  else
  (idx e2.Kids 1).bind fun e13 =>
  (rec_expr_env_eval v1 e13).bind fun x14 =>
  bif (x14.2 != 0) then
  some (0, x14.2)
  else
  (F_calc_Do e2.Num x8.1 x14.1).bind fun x16 =>
  some (x16.1, x16.2)

noncomputable def F_expr_env_two (rec_expr_env_eval : (List Int) → TExpr → Option (Int × Int)) (v1 : (List Int)) (e2 : TExpr) : Option (Int × Int) :=
  (idx e2.Kids 0).bind fun e7 =>
  (rec_expr_env_eval v1 e7).bind fun x8 =>
  bif (x8.2 != 0) then
  some (0, x8.2)
  else
  bif ((e2.Num == 10) && (x8.1 == 0)) then
  F_expr_env_two_k1 x8 e2 rec_expr_env_eval v1 ((e2.Num == 10) && (x8.1 == 0))
  else
  bif (e2.Num == 11) then
  F_expr_env_two_k1 x8 e2 rec_expr_env_eval v1 (x8.1 != 0)
  else
  F_expr_env_two_k1 x8 e2 rec_expr_env_eval v1 false

set_option maxRecDepth 100000 in
set_option maxHeartbeats 4000000 in
theorem F_expr_env_two_ok (rec_expr_env_eval : (List Int) → TExpr → Option (Int × Int)) (hrec_expr_env_eval : ∀ (v1 : (List Int)) (e2 : TExpr) {r : (Int × Int)}, rec_expr_env_eval v1 e2 = some r → ACalls Tryz.prog 43 [.sl 1 (v1.map row_I), .agg (row_TExpr e2)] [] (Gives (.tup [.i .i64 r.1, .i .i64 r.2]) [])) (v1 : (List Int)) (e2 : TExpr) {r : (Int × Int)} (h : F_expr_env_two rec_expr_env_eval v1 e2 = some r) : ACalls Tryz.prog 82 [.sl 1 (v1.map row_I), .agg (row_TExpr e2)] [] (Gives (.tup [.i .i64 r.1, .i .i64 r.2]) []) := by
  refine ACalls.walk 60 Tryz.func82 rfl Tryz.ntmps82 rfl fun C hC => ?_
  unfold F_expr_env_two at h
  obtain ⟨e7, he7, h⟩ := bindE h
  obtain ⟨x8, hx8, h⟩ := bindE h
  refine AK.go tab_ok hC [.n 12, .o (.row (row_TExpr e7)), .v .no [] (.agg (row_TExpr e7)), .o (.c false [.d, .d] (.tup [.i .i64 x8.1, .i .i64 x8.2])), .n 16] rfl ⟨⟨⟨trivial, (idxR_TExpr he7)⟩, rfl⟩, (hrec_expr_env_eval _ _ hx8)⟩ ?_
  rcases bifE h with ⟨hc9, h⟩ | ⟨hc9, h⟩
  · refine AK.go tab_ok hC [.br true, .n 10, .keep [4, 5] []] rfl ⟨trivial, hc9⟩ ?_
    obtain rfl := Option.some.inj h
    refine AK.done ?_
    exact Exists.intro [_, _] (And.intro (And.intro rfl (And.intro rfl trivial)) (gives trivial))
  · refine AK.go tab_ok hC [.br false] rfl ⟨trivial, hc9⟩ ?_
    refine AK.meet (fun σ => ∃ x10 : Bool, σ = ⟨[(0, .sl 1 (v1.map row_I)), (3, .loc 3 0 0), (6, .i .i64 x8.1), (22, .b x10)], [(3, .var (row_TExpr e2))]⟩ ∧ F_expr_env_two_k1 x8 e2 rec_expr_env_eval v1 x10 = some r) ?_ ?_
    · refine AK.go tab_ok hC [.n 1] rfl trivial ?_
      refine AK.meetX (fun σ => σ = ⟨[(0, .sl 1 (v1.map row_I)), (3, .loc 3 0 0), (6, .i .i64 x8.1), (22, .b ((e2.Num == 10) && (x8.1 == 0)))], [(3, .var (row_TExpr e2))]⟩) ?_ ?_
      · refine AK.go tab_ok hC [.n 5] rfl trivial ?_
        rcases boolOr (e2.Num == 10) with hc18 | hc18
        · refine AK.go tab_ok hC [.say 26 (.b true), .n 5, .say 22 (.b ((e2.Num == 10) && (x8.1 == 0))), .keep [0, 3, 6, 22] [3]] rfl ⟨⟨trivial, (congrArg V.b hc18)⟩, (congrArg V.b (andT hc18 rfl))⟩ ?_
          exact AK.met rfl
        · refine AK.go tab_ok hC [.say 26 (.b false), .n 5, .say 22 (.b ((e2.Num == 10) && (x8.1 == 0))), .keep [0, 3, 6, 22] [3]] rfl ⟨⟨trivial, (congrArg V.b hc18)⟩, (congrArg V.b (andF hc18 rfl))⟩ ?_
          exact AK.met rfl
      · rintro σ rfl
        refine AK.go tab_ok hC [.n 1] rfl trivial ?_
        rcases bifE h with ⟨hc19, h⟩ | ⟨hc19, h⟩
        · refine AK.go tab_ok hC [.br true, .n 1, .keep [0, 3, 6, 22] [3]] rfl ⟨trivial, hc19⟩ ?_
          exact AK.met (Exists.intro _ (And.intro rfl h))
        · refine AK.go tab_ok hC [.br false, .n 5] rfl ⟨trivial, hc19⟩ ?_
          rcases bifE h with ⟨hc20, h⟩ | ⟨hc20, h⟩
          · refine AK.go tab_ok hC [.say 33 (.b true), .n 5, .keep [0, 3, 6, 22] [3]] rfl ⟨trivial, (congrArg V.b hc20)⟩ ?_
            exact AK.met (Exists.intro _ (And.intro rfl h))
          · refine AK.go tab_ok hC [.say 33 (.b false), .n 5, .keep [0, 3, 6, 22] [3]] rfl ⟨trivial, (congrArg V.b hc20)⟩ ?_
            exact AK.met (Exists.intro _ (And.intro rfl h))
    · rintro σ ⟨x10, rfl, h⟩
      unfold F_expr_env_two_k1 at h
      rcases bifE h with ⟨hc11, h⟩ | ⟨hc11, h⟩
      · obtain ⟨x12, hx12, h⟩ := bindE h
        refine AK.go tab_ok hC [.br true, .n 3, .o (.c false [.d, .d, .d] (.tup [.i .i64 x12.1, .i .i64 x12.2])), .n 9, .keep [4, 5] []] rfl ⟨⟨trivial, hc11⟩, (F_calc_Do_ok _ _ _ hx12)⟩ ?_
        obtain rfl := Option.some.inj h
        refine AK.done ?_
        exact Exists.intro [_, _] (And.intro (And.intro rfl (And.intro rfl trivial)) (gives trivial))
      · obtain ⟨e13, he13, h⟩ := bindE h
        obtain ⟨x14, hx14, h⟩ := bindE h
        refine AK.go tab_ok hC [.br false, .n 8, .o (.row (row_TExpr e13)), .v .no [] (.agg (row_TExpr e13)), .o (.c false [.d, .d] (.tup [.i .i64 x14.1, .i .i64 x14.2])), .n 14] rfl ⟨⟨⟨⟨trivial, hc11⟩, (idxR_TExpr he13)⟩, rfl⟩, (hrec_expr_env_eval _ _ hx14)⟩ ?_
        rcases bifE h with ⟨hc15, h⟩ | ⟨hc15, h⟩
        · refine AK.go tab_ok hC [.br true, .n 9, .keep [4, 5] []] rfl ⟨trivial, hc15⟩ ?_
          obtain rfl := Option.some.inj h
          refine AK.done ?_
          exact Exists.intro [_, _] (And.intro (And.intro rfl (And.intro rfl trivial)) (gives trivial))
        · obtain ⟨x16, hx16, h⟩ := bindE h
          refine AK.go tab_ok hC [.br false, .n 8, .o (.c false [.d, .d, .d] (.tup [.i .i64 x16.1, .i .i64 x16.2])), .n 7, .keep [4, 5] []] rfl ⟨⟨trivial, hc15⟩, (F_calc_Do_ok _ _ _ hx16)⟩ ?_
          obtain rfl := Option.some.inj h
          refine AK.done ?_
          exact Exists.intro [_, _] (And.intro (And.intro rfl (And.intro rfl trivial)) (gives trivial))

-- 83 (baldric/expr.env).choice
noncomputable def F_expr_env_choice (rec_expr_env_eval : (List Int) → TExpr → Option (Int × Int)) (v1 : (List Int)) (e2 : TExpr) : Option (Int × Int) :=
  (idx e2.Kids 0).bind fun e7 =>
  (rec_expr_env_eval v1 e7).bind fun x8 =>
  bif (x8.2 != 0) then
  some (0, x8.2)
  else
  bif (x8.1 != 0) then
  (idx e2.Kids 1).bind fun e11 =>
  (rec_expr_env_eval v1 e11).bind fun x12 =>
  some (x12.1, x12.2)
  else
  (idx e2.Kids 2).bind fun e13 =>
  (rec_expr_env_eval v1 e13).bind fun x14 =>
  some (x14.1, x14.2)

set_option maxRecDepth 100000 in
set_option maxHeartbeats 4000000 in
theorem F_expr_env_choice_ok (rec_expr_env_eval : (List Int) → TExpr → Option (Int × Int)) (hrec_expr_env_eval : ∀ (v1 : (List Int)) (e2 : TExpr) {r : (Int × Int)}, rec_expr_env_eval v1 e2 = some r → ACalls Tryz.prog 43 [.sl 1 (v1.map row_I), .agg (row_TExpr e2)] [] (Gives (.tup [.i .i64 r.1, .i .i64 r.2]) [])) (v1 : (List Int)) (e2 : TExpr) {r : (Int × Int)} (h : F_expr_env_choice rec_expr_env_eval v1 e2 = some r) : ACalls Tryz.prog 83 [.sl 1 (v1.map row_I), .agg (row_TExpr e2)] [] (Gives (.tup [.i .i64 r.1, .i .i64 r.2]) []) := by
  refine ACalls.walk 40 Tryz.func83 rfl Tryz.ntmps83 rfl fun C hC => ?_
  unfold F_expr_env_choice at h
  obtain ⟨e7, he7, h⟩ := bindE h
  obtain ⟨x8, hx8, h⟩ := bindE h
  refine AK.go tab_ok hC [.n 12, .o (.row (row_TExpr e7)), .v .no [] (.agg (row_TExpr e7)), .o (.c false [.d, .d] (.tup [.i .i64 x8.1, .i .i64 x8.2])), .n 16] rfl ⟨⟨⟨trivial, (idxR_TExpr he7)⟩, rfl⟩, (hrec_expr_env_eval _ _ hx8)⟩ ?_
  rcases bifE h with ⟨hc9, h⟩ | ⟨hc9, h⟩
  · refine AK.go tab_ok hC [.br true, .n 10, .keep [4, 5] []] rfl ⟨trivial, hc9⟩ ?_
    obtain rfl := Option.some.inj h
    refine AK.done ?_
    exact Exists.intro [_, _] (And.intro (And.intro rfl (And.intro rfl trivial)) (gives trivial))
  · refine AK.go tab_ok hC [.br false, .n 7] rfl ⟨trivial, hc9⟩ ?_
    rcases bifE h with ⟨hc10, h⟩ | ⟨hc10, h⟩
    · obtain ⟨e11, he11, h⟩ := bindE h
      obtain ⟨x12, hx12, h⟩ := bindE h
      refine AK.go tab_ok hC [.br true, .n 5, .o (.row (row_TExpr e11)), .v .no [] (.agg (row_TExpr e11)), .o (.c false [.d, .d] (.tup [.i .i64 x12.1, .i .i64 x12.2])), .n 9, .keep [4, 5] []] rfl ⟨⟨⟨⟨trivial, hc10⟩, (idxR_TExpr he11)⟩, rfl⟩, (hrec_expr_env_eval _ _ hx12)⟩ ?_
      obtain rfl := Option.some.inj h
      refine AK.done ?_
      exact Exists.intro [_, _] (And.intro (And.intro rfl (And.intro rfl trivial)) (gives trivial))
    · obtain ⟨e13, he13, h⟩ := bindE h
      obtain ⟨x14, hx14, h⟩ := bindE h
      refine AK.go tab_ok hC [.br false, .n 8, .o (.row (row_TExpr e13)), .v .no [] (.agg (row_TExpr e13)), .o (.c false [.d, .d] (.tup [.i .i64 x14.1, .i .i64 x14.2])), .n 7, .keep [4, 5] []] rfl ⟨⟨⟨⟨trivial, hc10⟩, (idxR_TExpr he13)⟩, rfl⟩, (hrec_expr_env_eval _ _ hx14)⟩ ?_
      obtain rfl := Option.some.inj h
      refine AK.done ?_
      exact Exists.intro [_, _] (And.intro (And.intro rfl (And.intro rfl trivial)) (gives trivial))

-- 43 (baldric/expr.env).eval
noncomputable def F_expr_env_eval_a1 (e2 : TExpr) (a8 : (List Int)) : Option (Int × Int) :=
  (F_expr_env_number a8 e2).bind fun x13 =>
  some (x13.1, x13.2)

noncomputable def F_expr_env_eval_a2 (e2 : TExpr) (a9 : (List Int)) : Option (Int × Int) :=
  (F_expr_env_variable a9 e2).bind fun x14 =>
  some (x14.1, x14.2)

noncomputable def F_expr_env_eval_a3 (rec_expr_env_eval : (List Int) → TExpr → Option (Int × Int)) (e2 : TExpr) (a10 : (List Int)) : Option (Int × Int) :=
  (F_expr_env_turned rec_expr_env_eval a10 e2).bind fun x15 =>
  some (x15.1, x15.2)

noncomputable def F_expr_env_eval_a4 (rec_expr_env_eval : (List Int) → TExpr → Option (Int × Int)) (e2 : TExpr) (a11 : (List Int)) : Option (Int × Int) :=
  (F_expr_env_two rec_expr_env_eval a11 e2).bind fun x16 =>
  some (x16.1, x16.2)

noncomputable def F_expr_env_eval_a5 (rec_expr_env_eval : (List Int) → TExpr → Option (Int × Int)) (e2 : TExpr) (a12 : (List Int)) : Option (Int × Int) :=
  (F_expr_env_choice rec_expr_env_eval a12 e2).bind fun x17 =>
  some (x17.1, x17.2)

noncomputable def F_expr_env_eval_s (rec_expr_env_eval : (List Int) → TExpr → Option (Int × Int)) (v1 : (List Int)) (e2 : TExpr) : Option (Int × Int) :=
  (F_expr_env_doer v1 e2.Kind).bind fun x7 =>
  (Sum.elim (fun q => F_expr_env_eval_a1 e2 q) (Sum.elim (fun q => F_expr_env_eval_a2 e2 q) (Sum.elim (fun q => F_expr_env_eval_a3 rec_expr_env_eval e2 q) (Sum.elim (fun q => F_expr_env_eval_a4 rec_expr_env_eval e2 q) (fun q => F_expr_env_eval_a5 rec_expr_env_eval e2 q))))) x7
noncomputable def F_expr_env_eval_r : Nat → (List Int) → TExpr → Option (Int × Int)
  | 0, _, _ => none
  | n + 1, v1, e2 => F_expr_env_eval_s (F_expr_env_eval_r n) v1 e2
noncomputable def F_expr_env_eval (v1 : (List Int)) (e2 : TExpr) : Option (Int × Int) := F_expr_env_eval_r (SizeOf.sizeOf e2) v1 e2

set_option maxRecDepth 100000 in
set_option maxHeartbeats 4000000 in
theorem F_expr_env_eval_s_ok (rec_expr_env_eval : (List Int) → TExpr → Option (Int × Int)) (hrec_expr_env_eval : ∀ (v1 : (List Int)) (e2 : TExpr) {r : (Int × Int)}, rec_expr_env_eval v1 e2 = some r → ACalls Tryz.prog 43 [.sl 1 (v1.map row_I), .agg (row_TExpr e2)] [] (Gives (.tup [.i .i64 r.1, .i .i64 r.2]) [])) (v1 : (List Int)) (e2 : TExpr) {r : (Int × Int)} (h : F_expr_env_eval_s rec_expr_env_eval v1 e2 = some r) : ACalls Tryz.prog 43 [.sl 1 (v1.map row_I), .agg (row_TExpr e2)] [] (Gives (.tup [.i .i64 r.1, .i .i64 r.2]) []) := by
  refine ACalls.walk 14 Tryz.func43 rfl Tryz.ntmps43 rfl fun C hC => ?_
  unfold F_expr_env_eval_s at h
  refine AK.go tab_ok hC [.n 8] rfl trivial ?_
  obtain ⟨x7, hx7, h⟩ := bindE h
  rcases x7 with (a8 | (a9 | (a10 | (a11 | a12))))
  · replace h : F_expr_env_eval_a1 e2 a8 = some r := h
    unfold F_expr_env_eval_a1 at h
    obtain ⟨x13, hx13, h⟩ := bindE h
    refine AK.go tab_ok hC [.keep [0, 3, 4, 5] [3]] rfl trivial ?_
    refine AK.draw2 tab_ok hC mixed [.a .no none false, .a .no none false, .a .no none false, .a (.any (.clo (.func 79) [.sl 1 (a8.map row_I)] []) none) none false, .a .no (some ([], .agg (row_TExpr e2))) false, .a (.c false [.d, .d] (.tup [.i .i64 x13.1, .i .i64 x13.2])) none false, .a .no none false, .a .no none false, .m .s, .m .s] [] [] [4, 5] [] rfl rfl rfl ⟨⟨⟨trivial, (fun σ h1 h2 _ => Stp.callSame (md := .cm (.fn) [] [] [] [.d, .d] [] (.clo (.func 79) [.sl 1 (a8.map row_I)] []) []) tab_ok hC h1 h2 rfl ⟨trivial, (F_expr_env_doer_ok _ _ hx7)⟩)⟩, rfl⟩, (F_expr_env_number_ok _ _ hx13)⟩ rfl (by kernel_rfl) rfl rfl rfl ?_
    refine AK.go tab_ok hC [.n 2, .keep [4, 5] []] rfl trivial ?_
    obtain rfl := Option.some.inj h
    refine AK.done ?_
    exact Exists.intro [_, _] (And.intro (And.intro rfl (And.intro rfl trivial)) (gives trivial))
  · replace h : F_expr_env_eval_a2 e2 a9 = some r := h
    unfold F_expr_env_eval_a2 at h
    obtain ⟨x14, hx14, h⟩ := bindE h
    refine AK.go tab_ok hC [.keep [0, 3, 4, 5] [3]] rfl trivial ?_
    refine AK.draw2 tab_ok hC mixed [.a .no none false, .a .no none false, .a .no none false, .a (.any (.clo (.func 80) [.sl 1 (a9.map row_I)] []) none) none false, .a .no (some ([], .agg (row_TExpr e2))) false, .a (.c false [.d, .d] (.tup [.i .i64 x14.1, .i .i64 x14.2])) none false, .a .no none false, .a .no none false, .m .s, .m .s] [] [] [4, 5] [] rfl rfl rfl ⟨⟨⟨trivial, (fun σ h1 h2 _ => Stp.callSame (md := .cm (.fn) [] [] [] [.d, .d] [] (.clo (.func 80) [.sl 1 (a9.map row_I)] []) []) tab_ok hC h1 h2 rfl ⟨trivial, (F_expr_env_doer_ok _ _ hx7)⟩)⟩, rfl⟩, (F_expr_env_variable_ok _ _ hx14)⟩ rfl (by kernel_rfl) rfl rfl rfl ?_
    refine AK.go tab_ok hC [.n 2, .keep [4, 5] []] rfl trivial ?_
    obtain rfl := Option.some.inj h
    refine AK.done ?_
    exact Exists.intro [_, _] (And.intro (And.intro rfl (And.intro rfl trivial)) (gives trivial))
  · replace h : F_expr_env_eval_a3 rec_expr_env_eval e2 a10 = some r := h
    unfold F_expr_env_eval_a3 at h
    obtain ⟨x15, hx15, h⟩ := bindE h
    refine AK.go tab_ok hC [.keep [0, 3, 4, 5] [3]] rfl trivial ?_
    refine AK.draw2 tab_ok hC mixed [.a .no none false, .a .no none false, .a .no none false, .a (.any (.clo (.func 81) [.sl 1 (a10.map row_I)] []) none) none false, .a .no (some ([], .agg (row_TExpr e2))) false, .a (.c false [.d, .d] (.tup [.i .i64 x15.1, .i .i64 x15.2])) none false, .a .no none false, .a .no none false, .m .s, .m .s] [] [] [4, 5] [] rfl rfl rfl ⟨⟨⟨trivial, (fun σ h1 h2 _ => Stp.callSame (md := .cm (.fn) [] [] [] [.d, .d] [] (.clo (.func 81) [.sl 1 (a10.map row_I)] []) []) tab_ok hC h1 h2 rfl ⟨trivial, (F_expr_env_doer_ok _ _ hx7)⟩)⟩, rfl⟩, (F_expr_env_turned_ok rec_expr_env_eval hrec_expr_env_eval _ _ hx15)⟩ rfl (by kernel_rfl) rfl rfl rfl ?_
    refine AK.go tab_ok hC [.n 2, .keep [4, 5] []] rfl trivial ?_
    obtain rfl := Option.some.inj h
    refine AK.done ?_
    exact Exists.intro [_, _] (And.intro (And.intro rfl (And.intro rfl trivial)) (gives trivial))
  · replace h : F_expr_env_eval_a4 rec_expr_env_eval e2 a11 = some r := h
    unfold F_expr_env_eval_a4 at h
    obtain ⟨x16, hx16, h⟩ := bindE h
    refine AK.go tab_ok hC [.keep [0, 3, 4, 5] [3]] rfl trivial ?_
    refine AK.draw2 tab_ok hC mixed [.a .no none false, .a .no none false, .a .no none false, .a (.any (.clo (.func 82) [.sl 1 (a11.map row_I)] []) none) none false, .a .no (some ([], .agg (row_TExpr e2))) false, .a (.c false [.d, .d] (.tup [.i .i64 x16.1, .i .i64 x16.2])) none false, .a .no none false, .a .no none false, .m .s, .m .s] [] [] [4, 5] [] rfl rfl rfl ⟨⟨⟨trivial, (fun σ h1 h2 _ => Stp.callSame (md := .cm (.fn) [] [] [] [.d, .d] [] (.clo (.func 82) [.sl 1 (a11.map row_I)] []) []) tab_ok hC h1 h2 rfl ⟨trivial, (F_expr_env_doer_ok _ _ hx7)⟩)⟩, rfl⟩, (F_expr_env_two_ok rec_expr_env_eval hrec_expr_env_eval _ _ hx16)⟩ rfl (by kernel_rfl) rfl rfl rfl ?_
    refine AK.go tab_ok hC [.n 2, .keep [4, 5] []] rfl trivial ?_
    obtain rfl := Option.some.inj h
    refine AK.done ?_
    exact Exists.intro [_, _] (And.intro (And.intro rfl (And.intro rfl trivial)) (gives trivial))
  · replace h : F_expr_env_eval_a5 rec_expr_env_eval e2 a12 = some r := h
    unfold F_expr_env_eval_a5 at h
    obtain ⟨x17, hx17, h⟩ := bindE h
    refine AK.go tab_ok hC [.keep [0, 3, 4, 5] [3]] rfl trivial ?_
    refine AK.draw2 tab_ok hC mixed [.a .no none false, .a .no none false, .a .no none false, .a (.any (.clo (.func 83) [.sl 1 (a12.map row_I)] []) none) none false, .a .no (some ([], .agg (row_TExpr e2))) false, .a (.c false [.d, .d] (.tup [.i .i64 x17.1, .i .i64 x17.2])) none false, .a .no none false, .a .no none false, .m .s, .m .s] [] [] [4, 5] [] rfl rfl rfl ⟨⟨⟨trivial, (fun σ h1 h2 _ => Stp.callSame (md := .cm (.fn) [] [] [] [.d, .d] [] (.clo (.func 83) [.sl 1 (a12.map row_I)] []) []) tab_ok hC h1 h2 rfl ⟨trivial, (F_expr_env_doer_ok _ _ hx7)⟩)⟩, rfl⟩, (F_expr_env_choice_ok rec_expr_env_eval hrec_expr_env_eval _ _ hx17)⟩ rfl (by kernel_rfl) rfl rfl rfl ?_
    refine AK.go tab_ok hC [.n 2, .keep [4, 5] []] rfl trivial ?_
    obtain rfl := Option.some.inj h
    refine AK.done ?_
    exact Exists.intro [_, _] (And.intro (And.intro rfl (And.intro rfl trivial)) (gives trivial))
theorem F_expr_env_eval_r_ok : ∀ (fuel : Nat) (v1 : (List Int)) (e2 : TExpr) {r : (Int × Int)}, F_expr_env_eval_r fuel v1 e2 = some r → ACalls Tryz.prog 43 [.sl 1 (v1.map row_I), .agg (row_TExpr e2)] [] (Gives (.tup [.i .i64 r.1, .i .i64 r.2]) [])
  | 0, _, _, _, h => by cases h
  | n + 1, v1, e2, _, h => F_expr_env_eval_s_ok (F_expr_env_eval_r n) (fun _ _ _ h => F_expr_env_eval_r_ok n _ _ h) v1 e2 h
theorem F_expr_env_eval_ok (v1 : (List Int)) (e2 : TExpr) {r : (Int × Int)} (h : F_expr_env_eval v1 e2 = some r) : ACalls Tryz.prog 43 [.sl 1 (v1.map row_I), .agg (row_TExpr e2)] [] (Gives (.tup [.i .i64 r.1, .i .i64 r.2]) []) := F_expr_env_eval_r_ok _ v1 e2 h

-- 29 baldric/expr.Eval
noncomputable def F_expr_Eval (e1 : TExpr) (vars2 : (List Int)) : Option (Int × Int) :=
  (F_expr_Right e1 (vars2.length : Int)).bind fun x7 =>
  bif (!x7) then
  some (0, 1)
  else
  (F_expr_env_eval vars2 e1).bind fun x9 =>
  some (x9.1, x9.2)

set_option maxRecDepth 100000 in
set_option maxHeartbeats 4000000 in
theorem F_expr_Eval_ok (e1 : TExpr) (vars2 : (List Int)) {r : (Int × Int)} (h : F_expr_Eval e1 vars2 = some r) : ACalls Tryz.prog 29 [.agg (row_TExpr e1), .sl 1 (vars2.map row_I)] [] (Gives (.tup [.i .i64 r.1, .i .i64 r.2]) []) := by
  refine ACalls.walk 16 Tryz.func29 rfl Tryz.ntmps29 rfl fun C hC => ?_
  unfold F_expr_Eval at h
  obtain ⟨x7, hx7, h⟩ := bindE h
  refine AK.go tab_ok hC [.n 10, .v .no [] (.agg (row_TExpr e1)), .n 1, .o (.ln vars2.length), .o (.c false [.d, .d] (.b x7)), .n 3] rfl ⟨⟨⟨trivial, rfl⟩, mapLen⟩, (F_expr_Right_ok _ _ hx7)⟩ ?_
  rcases bifE h with ⟨hc8, h⟩ | ⟨hc8, h⟩
  · refine AK.go tab_ok hC [.br true, .n 8, .keep [4, 5] []] rfl ⟨trivial, hc8⟩ ?_
    obtain rfl := Option.some.inj h
    refine AK.done ?_
    exact Exists.intro [_, _] (And.intro (And.intro rfl (And.intro rfl trivial)) (gives trivial))
  · obtain ⟨x9, hx9, h⟩ := bindE h
    refine AK.go tab_ok hC [.br false, .n 5, .v .no [] (.agg (row_TExpr e1)), .o (.c false [.d, .d] (.tup [.i .i64 x9.1, .i .i64 x9.2])), .n 7, .keep [4, 5] []] rfl ⟨⟨⟨trivial, hc8⟩, rfl⟩, (F_expr_env_eval_ok _ _ hx9)⟩ ?_
    obtain rfl := Option.some.inj h
    refine AK.done ?_
    exact Exists.intro [_, _] (And.intro (And.intro rfl (And.intro rfl trivial)) (gives trivial))

-- 16 (baldric/bind.binder).guarded
noncomputable def F_bind_binder_guarded (b1 : Tbind_binder) : Option Int :=
  (F_expr_Eval b1.task.Guard b1.env).bind fun x4 =>
  bif (x4.2 != 0) then
  some x4.2
  else
  bif (x4.1 == 0) then
  some 9
  else
  some 0

set_option maxRecDepth 100000 in
set_option maxHeartbeats 4000000 in
theorem F_bind_binder_guarded_ok (b1 : Tbind_binder) {r : Int} (h : F_bind_binder_guarded b1 = some r) : ACalls Tryz.prog 16 [.agg (row_Tbind_binder b1)] [] (Gives (.i .i64 r) []) := by
  refine ACalls.walk 21 Tryz.func16 rfl Tryz.ntmps16 rfl fun C hC => ?_
  unfold F_bind_binder_guarded at h
  obtain ⟨x4, hx4, h⟩ := bindE h
  refine AK.go tab_ok hC [.n 10, .v .no [] (.agg (row_TExpr b1.task.Guard)), .n 2, .o (.c false [.d, .d] (.tup [.i .i64 x4.1, .i .i64 x4.2])), .n 16] rfl ⟨⟨trivial, rfl⟩, (F_expr_Eval_ok _ _ hx4)⟩ ?_
  rcases bifE h with ⟨hc5, h⟩ | ⟨hc5, h⟩
  · refine AK.go tab_ok hC [.br true, .n 9, .keep [2] []] rfl ⟨trivial, hc5⟩ ?_
    obtain rfl := Option.some.inj h
    refine AK.done ?_
    exact Exists.intro [_] (And.intro (And.intro rfl trivial) (gives trivial))
  · refine AK.go tab_ok hC [.br false, .n 7] rfl ⟨trivial, hc5⟩ ?_
    rcases bifE h with ⟨hc6, h⟩ | ⟨hc6, h⟩
    · refine AK.go tab_ok hC [.br true, .n 8, .keep [2] []] rfl ⟨trivial, hc6⟩ ?_
      obtain rfl := Option.some.inj h
      refine AK.done ?_
      exact Exists.intro [_] (And.intro (And.intro rfl trivial) (gives trivial))
    · refine AK.go tab_ok hC [.br false, .n 9, .keep [2] []] rfl ⟨trivial, hc6⟩ ?_
      obtain rfl := Option.some.inj h
      refine AK.done ?_
      exact Exists.intro [_] (And.intro (And.intro rfl trivial) (gives trivial))

-- 18 slices.Clone[[][]int,[]int]
noncomputable def F_slices_Clone_int_int_v2 (s1 : (List (List Int))) : Option (List (List Int)) :=
  (chk (decide (([] : List (List Int)).length + s1.length ≤ 4294967296))).bind fun _ =>
  some (([] : List (List Int)) ++ s1)

set_option maxRecDepth 100000 in
set_option maxHeartbeats 4000000 in
theorem F_slices_Clone_int_int_v2_ok (s1 : (List (List Int))) {r : (List (List Int))} (h : F_slices_Clone_int_int_v2 s1 = some r) : ACalls Tryz.prog 18 [.sl 1 (s1.map row_LI)] [] (Gives (.own 30000 r.length) [(30000, .arr 1 (r.map row_LI))]) := by
  refine ACalls.walk 8 Tryz.func18 rfl Tryz.ntmps18 rfl fun C hC => ?_
  unfold F_slices_Clone_int_int_v2 at h
  refine AK.go tab_ok hC [.n 9] rfl trivial ?_
  refine AK.eqNil rfl rfl rfl (hC ▸ rfl) rfl rfl un_23 ?_ ?_
  · intro hz4
    replace h : some ([] : List (List Int)) = some r := by simpa [chk, List.map_eq_nil_iff.1 hz4] using h
    refine AK.go tab_ok hC [.n 10, .adopt 2 30000 1, .sayO 30000 (.arr 1 (([] : List (List Int)).map row_LI)), .say 2 (.own 30000 ([] : List (List Int)).length), .keep [2] [30000]] rfl ⟨⟨trivial, rfl⟩, rfl⟩ ?_
    obtain rfl := Option.some.inj h
    refine AK.done ?_
    exact Exists.intro [_] (And.intro (And.intro rfl trivial) (gives ⟨rfl, trivial⟩))
  · obtain ⟨_, hk5, h⟩ := bindE h
    replace hk5 := chkE hk5
    refine AK.go tab_ok hC [.n 8, .sayO 5 (.arr 1 (([] : List (List Int)).map row_LI)), .say 5 (.own 5 ([] : List (List Int)).length), .n 1, .app ((([] : List (List Int)) ++ s1).map row_LI) (([] : List (List Int)) ++ s1).length, .n 4, .keep [2] [5], .ren 5 30000, .keep [2] [30000]] rfl ⟨⟨⟨trivial, rfl⟩, rfl⟩, ⟨mapLen, appLim hk5 mapLen, mapApps, appLn mapLen⟩⟩ ?_
    obtain rfl := Option.some.inj h
    refine AK.done ?_
    exact Exists.intro [_] (And.intro (And.intro rfl trivial) (gives ⟨rfl, trivial⟩))

-- 35 baldric/colour.Member
noncomputable def F_colour_Member_k1 (x8 : (Bool × Tcolour_set)) (n10 : Int) : Option (Int × Bool) :=
  (F_colour_set_has x8.2 n10).bind fun x11 =>
  bif (!x11) then
  some (0, false)
  else
  some (n10, true)

noncomputable def F_colour_Member (l1 : (List TColour)) (k2 : Int) (n3 : Int) : Option (Int × Bool) :=
  (F_colour_of l1 k2).bind fun x8 =>
  bif (!x8.1) then
  some (0, false)
  else
  (F_colour_set_colour x8.2).bind fun x13 =>
  bif (x13.Kind == 1) then
  bif ((decide (n3 < x13.Lo)) || (decide (x13.Hi < n3))) then
  some (0, false)
  else
  F_colour_Member_k1 x8 (w64 (n3 - x13.Lo))
  else
  F_colour_Member_k1 x8 n3

set_option maxRecDepth 100000 in
set_option maxHeartbeats 4000000 in
theorem F_colour_Member_ok (l1 : (List TColour)) (k2 : Int) (n3 : Int) {r : (Int × Bool)} (h : F_colour_Member l1 k2 n3 = some r) : ACalls Tryz.prog 35 [.sl 7 (l1.map row_TColour), .i .i64 k2, .i .i64 n3] [] (Gives (.tup [.i .i64 r.1, .b r.2]) []) := by
  refine ACalls.walk 43 Tryz.func35 rfl Tryz.ntmps35 rfl fun C hC => ?_
  unfold F_colour_Member at h
  obtain ⟨x8, hx8, h⟩ := bindE h
  refine AK.go tab_ok hC [.n 10, .o (.c false [.d, .d] (.tup [.agg (row_Tcolour_set x8.2), .b x8.1])), .n 5, .sayO 8 (.var (row_Tcolour_set x8.2)), .n 10] rfl ⟨⟨trivial, (F_colour_of_ok _ _ hx8)⟩, rfl⟩ ?_
  rcases bifE h with ⟨hc9, h⟩ | ⟨hc9, h⟩
  · refine AK.go tab_ok hC [.br true, .n 8, .keep [6, 7] []] rfl ⟨trivial, hc9⟩ ?_
    obtain rfl := Option.some.inj h
    refine AK.done ?_
    exact Exists.intro [_, _] (And.intro (And.intro rfl (And.intro rfl trivial)) (gives trivial))
  · refine AK.go tab_ok hC [.br false, .n 2] rfl ⟨trivial, hc9⟩ ?_
    refine AK.meet (fun σ => ∃ n10 : Int, σ = ⟨[(2, .i .i64 n10), (8, .loc 8 0 0)], [(8, .var (row_Tcolour_set x8.2))]⟩ ∧ F_colour_Member_k1 x8 n10 = some r) ?_ ?_
    · obtain ⟨x13, hx13, h⟩ := bindE h
      refine AK.go tab_ok hC [.n 2, .v .no [] (.agg (row_Tcolour_set x8.2)), .o (.c false [.d] (.agg (row_TColour x13))), .n 2, .sayO 10 (.var (row_TColour x13)), .n 9] rfl ⟨⟨⟨trivial, rfl⟩, (F_colour_set_colour_ok _ hx13)⟩, rfl⟩ ?_
      rcases bifE h with ⟨hc14, h⟩ | ⟨hc14, h⟩
      · refine AK.go tab_ok hC [.br true, .n 2] rfl ⟨trivial, hc14⟩ ?_
        refine AK.meetX (fun σ => σ = ⟨[(2, .i .i64 n3), (8, .loc 8 0 0), (10, .loc 10 0 0), (33, .b ((decide (n3 < x13.Lo)) || (decide (x13.Hi < n3))))], [(8, .var (row_Tcolour_set x8.2)), (10, .var (row_TColour x13))]⟩) ?_ ?_
        · refine AK.go tab_ok hC [.n 6] rfl trivial ?_
          rcases boolOr (decide (n3 < x13.Lo)) with hc16 | hc16
          · refine AK.go tab_ok hC [.say 28 (.b true), .n 6, .say 33 (.b ((decide (n3 < x13.Lo)) || (decide (x13.Hi < n3)))), .keep [2, 8, 10, 33] [8, 10]] rfl ⟨⟨trivial, (congrArg V.b hc16)⟩, (congrArg V.b (orT hc16 rfl))⟩ ?_
            exact AK.met rfl
          · refine AK.go tab_ok hC [.say 28 (.b false), .n 6, .say 33 (.b ((decide (n3 < x13.Lo)) || (decide (x13.Hi < n3)))), .keep [2, 8, 10, 33] [8, 10]] rfl ⟨⟨trivial, (congrArg V.b hc16)⟩, (congrArg V.b (orF hc16 rfl))⟩ ?_
            exact AK.met rfl
        · rintro σ rfl
          refine AK.go tab_ok hC [.n 1] rfl trivial ?_
          rcases bifE h with ⟨hc17, h⟩ | ⟨hc17, h⟩
          · refine AK.go tab_ok hC [.br true, .n 9, .keep [6, 7] []] rfl ⟨trivial, hc17⟩ ?_
            obtain rfl := Option.some.inj h
            refine AK.done ?_
            exact Exists.intro [_, _] (And.intro (And.intro rfl (And.intro rfl trivial)) (gives trivial))
          · refine AK.go tab_ok hC [.br false, .n 9, .keep [2, 8] [8]] rfl ⟨trivial, hc17⟩ ?_
            exact AK.met (Exists.intro _ (And.intro rfl h))
      · refine AK.go tab_ok hC [.br false, .n 1, .keep [2, 8] [8]] rfl ⟨trivial, hc14⟩ ?_
        exact AK.met (Exists.intro _ (And.intro rfl h))
    · rintro σ ⟨n10, rfl, h⟩
      unfold F_colour_Member_k1 at h
      obtain ⟨x11, hx11, h⟩ := bindE h
      refine AK.go tab_ok hC [.n 3, .v .no [] (.agg (row_Tcolour_set x8.2)), .n 1, .o (.c false [.d, .d] (.b x11)), .n 3] rfl ⟨⟨trivial, rfl⟩, (F_colour_set_has_ok _ _ hx11)⟩ ?_
      rcases bifE h with ⟨hc12, h⟩ | ⟨hc12, h⟩
      · refine AK.go tab_ok hC [.br true, .n 8, .keep [6, 7] []] rfl ⟨trivial, hc12⟩ ?_
        obtain rfl := Option.some.inj h
        refine AK.done ?_
        exact Exists.intro [_, _] (And.intro (And.intro rfl (And.intro rfl trivial)) (gives trivial))
      · refine AK.go tab_ok hC [.br false, .n 10, .keep [6, 7] []] rfl ⟨trivial, hc12⟩ ?_
        obtain rfl := Option.some.inj h
        refine AK.done ?_
        exact Exists.intro [_, _] (And.intro (And.intro rfl (And.intro rfl trivial)) (gives trivial))

-- 72 maps.Keys[baldric/bag.counts,int,int]
noncomputable def F_maps_Keys_bag_counts_int_int (m1 : (List (Int × Int))) : Option Unit :=
  some ()

set_option maxRecDepth 100000 in
set_option maxHeartbeats 4000000 in
theorem F_maps_Keys_bag_counts_int_int_ok (m1 : (List (Int × Int))) {r : Unit} (h : F_maps_Keys_bag_counts_int_int m1 = some r) : ACalls Tryz.prog 72 [.map 200000] [(200000, .map (mapV (V.i .i64) (V.i .i64) m1))] (Gives (.clo (.func 92) [] [.loc 1 0 0]) [(1, .var [.map 200000]), (200000, .map (mapV (V.i .i64) (V.i .i64) m1))]) := by
  refine ACalls.walk 4 Tryz.func72 rfl Tryz.ntmps72 rfl fun C hC => ?_
  unfold F_maps_Keys_bag_counts_int_int at h
  refine AK.go tab_ok hC [.n 13, .keep [2] [1, 200000]] rfl trivial ?_
  obtain rfl := Option.some.inj h
  refine AK.done ?_
  exact Exists.intro [_] (And.intro (And.intro rfl trivial) (gives ⟨rfl, rfl, trivial⟩))

-- 100 slices.AppendSeq[[]int,int]
noncomputable def F_slices_AppendSeq_int_int_v2_round (l1 : (List Int)) (p2 : Int) : Option (List Int) :=
  (chk (decide (l1.length + ([p2] : List Int).length ≤ 4294967296))).bind fun _ =>
  some (l1 ++ ([p2] : List Int))

set_option maxRecDepth 100000 in
set_option maxHeartbeats 4000000 in
theorem F_slices_AppendSeq_int_int_v2_round_ok (lpl lpf : Nat) (l1 : (List Int)) (p2 : Int) {r : (List Int)} (h : F_slices_AppendSeq_int_int_v2_round l1 p2 = some r) : ARound Tryz.prog lpl (LK_100_0 lpf) [.junk, .junk, .loc 200001 0 0, .junk, .junk, .junk, .junk, .i .i64 p2, .junk, .junk, .junk, .junk, .junk] [(200000, .lp lpl (LK_100_0 lpf) [.junk, .junk, .loc 200001 0 0, .junk, .junk, .junk, .junk, .junk, .junk, .junk, .junk, .junk, .junk] 0), (200001, .var [.own 100000 l1.length]), (100000, .arr 1 (l1.map row_I))] (Gives (.b true) [(100000, .arr 1 (r.map row_I)), (200000, .lp lpl (LK_100_0 lpf) [.junk, .junk, .loc 200001 0 0, .junk, .junk, .junk, .junk, .junk, .junk, .junk, .junk, .junk, .junk] 0), (200001, .var [.own 100000 r.length])]) := by
  refine ARound.walk (b := 200000) 13 rfl rfl fun C hC => ?_
  unfold F_slices_AppendSeq_int_int_v2_round at h
  refine AK.go tab_ok hC [.n 3] rfl trivial ?_
  refine AK.done (And.intro rfl (Exists.intro _ (And.intro rfl ?_)))
  obtain ⟨_, hk4, h⟩ := bindE h
  replace hk4 := chkE hk4
  refine AK.go tab_ok hC [.n 4, .v (.bd []) [] (.sl 1 (([p2] : List Int).map row_I)), .app ((l1 ++ ([p2] : List Int)).map row_I) (l1 ++ ([p2] : List Int)).length, .n 1, .sayO 200001 (.var [.own 100000 (l1 ++ ([p2] : List Int)).length]), .n 2, .keep [] [100000, 200000, 200001]] rfl ⟨⟨⟨trivial, rfl⟩, ⟨mapLen, appLim hk4 mapLen, mapApps, appLn mapLen⟩⟩, rfl⟩ ?_
  obtain rfl := Option.some.inj h
  refine AK.done ?_
  exact Exists.intro _ (And.intro rfl (gives ⟨rfl, rfl, rfl, trivial⟩))

-- 92 maps.Keys[baldric/bag.counts,int,int]$1
noncomputable def F_maps_Keys_bag_counts_int_int_1_m1 (l6 : (List Int)) (k8 : Int) (v9 : Int) : Option ((List Int) ⊕ Empty) :=
  (F_slices_AppendSeq_int_int_v2_round l6 k8).bind fun x10 =>
  some (.inl x10)

noncomputable def F_maps_Keys_bag_counts_int_int_1_c2 (l6 : (List Int)) : Option (List Int) :=
  some l6

noncomputable def F_maps_Keys_bag_counts_int_int_1 (l1 : (List Int)) (m2 : (List (Int × Int))) : Option (List Int) :=
  (rangeM (fun st p => F_maps_Keys_bag_counts_int_int_1_m1 st p.1 p.2) l1 m2).bind (Sum.elim (fun q => F_maps_Keys_bag_counts_int_int_1_c2 q) (fun q => Empty.elim q))

set_option maxRecDepth 100000 in
set_option maxHeartbeats 4000000 in
theorem F_maps_Keys_bag_counts_int_int_1_ok (lpl lpf : Nat) (l1 : (List Int)) (m2 : (List (Int × Int))) {r : (List Int)} (h : F_maps_Keys_bag_counts_int_int_1 l1 m2 = some r) : ACalls Tryz.prog 92 [.clo (.yield lpl) [] [], .loc 200002 0 0] [(200000, .lp lpl (LK_100_0 lpf) [.junk, .junk, .loc 200001 0 0, .junk, .junk, .junk, .junk, .junk, .junk, .junk, .junk, .junk, .junk] 0), (200001, .var [.own 100000 l1.length]), (100000, .arr 1 (l1.map row_I)), (200002, .var [.map 200003]), (200003, .map (mapV (V.i .i64) (V.i .i64) m2))] (Gives (.tup []) [(100000, .arr 1 (r.map row_I)), (200000, .lp lpl (LK_100_0 lpf) [.junk, .junk, .loc 200001 0 0, .junk, .junk, .junk, .junk, .junk, .junk, .junk, .junk, .junk, .junk] 0), (200001, .var [.own 100000 r.length]), (200002, .var [.map 200003]), (200003, .map (mapV (V.i .i64) (V.i .i64) m2))]) := by
  refine ACalls.walk 14 Tryz.func92 rfl Tryz.ntmps92 rfl fun C hC => ?_
  unfold F_maps_Keys_bag_counts_int_int_1 at h
  refine AK.go tab_ok hC [.n 3] rfl trivial ?_
  refine AK.openMap (b := 200003) ky_3 rfl fun bm4 cl4 L4 hbn4 hpm4 => ?_
  refine AK.go tab_ok hC [.x (fun σ => (σ.set 5 (.itr bm4 cl4 #[] none)).put 5 (.loc 5 0 0)), .n 3, .keep [0, 5] [5, 100000, 200000, 200001, 200002, 200003]] rfl ⟨trivial, (Stp.range (b := 200003) rfl rfl (hC ▸ rfl) rfl rfl mt_111 rfl)⟩ ?_
  obtain ⟨o11, hl11, h⟩ := bindE h
  refine AK.range (body := (fun st p => F_maps_Keys_bag_counts_int_int_1_m1 st p.1 p.2)) (fun st seen σ => ∃ cur : Option MapEntry, σ = ⟨[(0, .clo (.yield lpl) [] []), (5, .loc 5 0 0)], [(5, .itr bm4 cl4 seen cur), (100000, .arr 1 (st.map row_I)), (200000, .lp lpl (LK_100_0 lpf) [.junk, .junk, .loc 200001 0 0, .junk, .junk, .junk, .junk, .junk, .junk, .junk, .junk, .junk, .junk] 0), (200001, .var [.own 100000 st.length]), (200002, .var [.map 200003]), (200003, .mapX bm4 cl4 (typV (V.i .i64) (V.i .i64) L4) (mapV (V.i .i64) (V.i .i64) m2))]⟩) (fun (q : Empty) _ _ => False) (fun st e σ => e = .exit 0 ∧ σ = ⟨[], [(100000, .arr 1 (st.map row_I)), (200000, .lp lpl (LK_100_0 lpf) [.junk, .junk, .loc 200001 0 0, .junk, .junk, .junk, .junk, .junk, .junk, .junk, .junk, .junk, .junk] 0), (200001, .var [.own 100000 st.length]), (200002, .var [.map 200003]), (200003, .mapX bm4 cl4 (typV (V.i .i64) (V.i .i64) L4) (mapV (V.i .i64) (V.i .i64) m2))]⟩) hbn4 hpm4 hl11 (Exists.intro _ rfl) ?_ ?_
  · rintro l6 seen σ ⟨cur, rfl⟩ hex
    refine AK.go tab_ok hC [.n 2] rfl trivial ?_
    refine AK.nextT (b := 5) (m := 200003) rfl rfl rfl (hC ▸ rfl) rfl rfl rfl rfl ?_ ?_
    · intro hleft
      refine AK.go tab_ok hC [.n 7, .keep [] [100000, 200000, 200001, 200002, 200003]] rfl trivial ?_
      exact AK.done (Or.inl (And.intro hleft (And.intro (fun h => (by cases h)) (And.intro rfl rfl))))
    · intro xk8 k8 v9 hq5
      obtain ⟨o, h⟩ := hex _ hq5
      have ho := h
      replace h : F_maps_Keys_bag_counts_int_int_1_m1 l6 k8 v9 = some o := h
      unfold F_maps_Keys_bag_counts_int_int_1_m1 at h
      obtain ⟨x10, hx10, h⟩ := bindE h
      refine AK.go tab_ok hC [.n 10, .x (fun σ => σ.put 8 (.tup [.i .i64 k8, .i .i64 v9])), .n 8, .x (fun σ => (σ.after [100000] [(100000, .arr 1 (x10.map row_I)), (200000, .lp lpl (LK_100_0 lpf) [.junk, .junk, .loc 200001 0 0, .junk, .junk, .junk, .junk, .junk, .junk, .junk, .junk, .junk, .junk] 0), (200001, .var [.own 100000 x10.length])]).put 12 (.b true)), .n 6, .keep [0, 5] [5, 100000, 200000, 200001, 200002, 200003]] rfl ⟨⟨trivial, (Stp.entryT (b := 5) (m := 200003) rfl rfl (hC ▸ rfl) rfl hq5 rfl rfl)⟩, (Stp.yieldV (b := 200000) (M := [(200000, 200000), (200001, 200001), (100000, 100000)]) (N := [(100000, 100000), (200000, 200000), (200001, 200001)]) (dead := [100000]) (ms := [.d, .d, .d, .d, .d, .d, .d, .d, .d, .d, .d, .d, .d]) (outs := [(100000, .arr 1 (x10.map row_I)), (200000, .lp lpl (LK_100_0 lpf) [.junk, .junk, .loc 200001 0 0, .junk, .junk, .junk, .junk, .junk, .junk, .junk, .junk, .junk, .junk] 0), (200001, .var [.own 100000 x10.length])]) (r := .b true) rfl rfl rfl rfl rfl rfl rfl (hC ▸ rfl) rfl rfl (F_slices_AppendSeq_int_int_v2_round_ok _ _ _ _ hx10))⟩ ?_
      obtain rfl := Option.some.inj h
      exact AK.done (Or.inr (Exists.intro _ (And.intro hq5 (Or.inl (Exists.intro _ (And.intro ho (And.intro rfl (Exists.intro _ rfl))))))))
  · rcases o11 with (l6 | q)
    · replace h : F_maps_Keys_bag_counts_int_int_1_c2 l6 = some r := h
      unfold F_maps_Keys_bag_counts_int_int_1_c2 at h
      rintro e σ ⟨rfl, rfl⟩
      refine AK.go tab_ok hC [.n 1] rfl trivial ?_
      refine AK.closeMap (b := 200003) rfl ?_
      refine AK.go tab_ok hC [.keep [] [100000, 200000, 200001, 200002, 200003]] rfl trivial ?_
      obtain rfl := Option.some.inj h
      refine AK.done ?_
      exact Exists.intro [] (And.intro trivial (gives ⟨rfl, rfl, rfl, rfl, rfl, trivial⟩))
    · exact q.elim

-- 100 slices.AppendSeq[[]int,int]
noncomputable def F_slices_AppendSeq_int_int (m1 : (List (Int × Int))) : Option (List Int) :=
  (F_maps_Keys_bag_counts_int_int_1 ([] : List Int) m1).bind fun x3 =>
  some x3

set_option maxRecDepth 100000 in
set_option maxHeartbeats 4000000 in
theorem F_slices_AppendSeq_int_int_ok (m1 : (List (Int × Int))) {r : (List Int)} (h : F_slices_AppendSeq_int_int m1 = some r) : ACalls Tryz.prog 100 [.lit (.slice none 0 0), .clo (.func 92) [] [.loc 200000 0 0]] [(200000, .var [.map 200001]), (200001, .map (mapV (V.i .i64) (V.i .i64) m1))] (Gives (.own 30000 r.length) [(30000, .arr 1 (r.map row_I)), (200000, .var [.map 200001]), (200001, .map (mapV (V.i .i64) (V.i .i64) m1))]) := by
  refine ACalls.walkR 13 Tryz.func100 rfl Tryz.ntmps100 rfl fun C hC hR => ?_
  unfold F_slices_AppendSeq_int_int at h
  refine AK.go tab_ok hC [.n 13, .keep [2, 4, 6] [2, 200000, 200001]] rfl trivial ?_
  obtain ⟨x3, hx3, h⟩ := bindE h
  refine AK.go tab_ok hC [.adoptO 2 0 45040 1, .sayO 45040 (.arr 1 (([] : List Int).map row_I)), .sayO 2 (.var [.own 45040 ([] : List Int).length])] rfl ⟨⟨trivial, rfl⟩, rfl⟩ ?_
  refine AK.rangeF 60000 [2] [(200000, 60000), (200001, 2), (100000, 45040), (200002, 200000), (200003, 200001)] [(45040, 100000), (60000, 200000), (2, 200001), (200000, 200002), (200001, 200003)] [45040] [.d, .d] LK_100_0 hC hR (fun _ => rfl) rfl rfl rfl rfl fun lpl lpf => ?_
  refine Exists.intro [(100000, .arr 1 (x3.map row_I)), (200000, .lp lpl (LK_100_0 lpf) [.junk, .junk, .loc 200001 0 0, .junk, .junk, .junk, .junk, .junk, .junk, .junk, .junk, .junk, .junk] 0), (200001, .var [.own 100000 x3.length]), (200002, .var [.map 200003]), (200003, .map (mapV (V.i .i64) (V.i .i64) m1))] (Exists.intro (.tup []) (Exists.intro _ (Exists.intro _ (Exists.intro [.junk, .junk, .loc 2 0 0, .junk, .junk, .junk, .junk, .junk, .junk, .junk, .junk, .junk, .junk] (Exists.intro 0 (And.intro rfl ?_))))))
  refine And.intro (F_maps_Keys_bag_counts_int_int_1_ok _ _ _ _ hx3) (And.intro rfl (And.intro (bne_iff_ne.1 (show (0 != 1) = true from rfl)) ?_))
  refine atJ0 rfl ?_
  refine AK.go tab_ok hC [.n 9, .keep [4] [45040, 200000, 200001], .ren 45040 30000, .keep [4] [30000, 200000, 200001]] rfl trivial ?_
  obtain rfl := Option.some.inj h
  refine AK.done ?_
  exact Exists.intro [_] (And.intro (And.intro rfl trivial) (gives ⟨rfl, rfl, rfl, trivial⟩))

-- 91 slices.Collect[int]
noncomputable def F_slices_Collect_int (m1 : (List (Int × Int))) : Option (List Int) :=
  (F_slices_AppendSeq_int_int m1).bind fun x3 =>
  some x3

set_option maxRecDepth 100000 in
set_option maxHeartbeats 4000000 in
theorem F_slices_Collect_int_ok (m1 : (List (Int × Int))) {r : (List Int)} (h : F_slices_Collect_int m1 = some r) : ACalls Tryz.prog 91 [.clo (.func 92) [] [.loc 200000 0 0]] [(200000, .var [.map 200001]), (200001, .map (mapV (V.i .i64) (V.i .i64) m1))] (Gives (.own 30000 r.length) [(30000, .arr 1 (r.map row_I)), (200000, .var [.map 200001]), (200001, .map (mapV (V.i .i64) (V.i .i64) m1))]) := by
  refine ACalls.walk 5 Tryz.func91 rfl Tryz.ntmps91 rfl fun C hC => ?_
  unfold F_slices_Collect_int at h
  obtain ⟨x3, hx3, h⟩ := bindE h
  refine AK.go tab_ok hC [.n 8, .cm (.fn) [(200000, 200000), (200001, 200001)] [(4, 30000), (200000, 200000), (200001, 200001)] [] [.d, .d] [(30000, .arr 1 (x3.map row_I)), (200000, .var [.map 200001]), (200001, .map (mapV (V.i .i64) (V.i .i64) m1))] (.own 30000 x3.length), .n 4, .keep [2] [4, 200000, 200001], .ren 4 30000, .keep [2] [30000, 200000, 200001]] rfl ⟨trivial, (F_slices_AppendSeq_int_int_ok _ hx3)⟩ ?_
  obtain rfl := Option.some.inj h
  refine AK.done ?_
  exact Exists.intro [_] (And.intro (And.intro rfl trivial) (gives ⟨rfl, rfl, rfl, trivial⟩))

-- 69 math/bits.Len64
noncomputable def F_math_bits_Len64_k1 (x7 : Int) (n8 : Int) : Option Int :=
  (sidx (⟨#[0, 1, 2, 2, 3, 3, 3, 3, 4, 4, 4, 4, 4, 4, 4, 4, 5, 5, 5, 5, 5, 5, 5, 5, 5, 5, 5, 5, 5, 5, 5, 5, 6, 6, 6, 6, 6, 6, 6, 6, 6, 6, 6, 6, 6, 6, 6, 6, 6, 6, 6, 6, 6, 6, 6, 6, 6, 6, 6, 6, 6, 6, 6, 6, 7, 7, 7, 7, 7, 7, 7, 7, 7, 7, 7, 7, 7, 7, 7, 7, 7, 7, 7, 7, 7, 7, 7, 7, 7, 7, 7, 7, 7, 7, 7, 7, 7, 7, 7, 7, 7, 7, 7, 7, 7, 7, 7, 7, 7, 7, 7, 7, 7, 7, 7, 7, 7, 7, 7, 7, 7, 7, 7, 7, 7, 7, 7, 7, 8, 8, 8, 8, 8, 8, 8, 8, 8, 8, 8, 8, 8, 8, 8, 8, 8, 8, 8, 8, 8, 8, 8, 8, 8, 8, 8, 8, 8, 8, 8, 8, 8, 8, 8, 8, 8, 8, 8, 8, 8, 8, 8, 8, 8, 8, 8, 8, 8, 8, 8, 8, 8, 8, 8, 8, 8, 8, 8, 8, 8, 8, 8, 8, 8, 8, 8, 8, 8, 8, 8, 8, 8, 8, 8, 8, 8, 8, 8, 8, 8, 8, 8, 8, 8, 8, 8, 8, 8, 8, 8, 8, 8, 8, 8, 8, 8, 8, 8, 8, 8, 8, 8, 8, 8, 8, 8, 8, 8, 8, 8, 8, 8, 8, 8, 8, 8, 8, 8, 8, 8, 8, 8, 8, 8, 8, 8, 8]⟩ : ByteArray) (IntKind.u8.wrap x7)).bind fun c9 =>
  some (w64 (n8 + (w64 c9)))

noncomputable def F_math_bits_Len64_k2 (x5 : Int) (n6 : Int) : Option Int :=
  bif (decide (256 ≤ x5)) then
  F_math_bits_Len64_k1 (shrI .u64 x5 8) (w64 (n6 + 8))
  else
  F_math_bits_Len64_k1 x5 n6

noncomputable def F_math_bits_Len64_k3 (x3 : Int) (n4 : Int) : Option Int :=
  bif (decide (65536 ≤ x3)) then
  F_math_bits_Len64_k2 (shrI .u64 x3 16) (w64 (n4 + 16))
  else
  F_math_bits_Len64_k2 x3 n4

noncomputable def F_math_bits_Len64 (p1 : Int) : Option Int :=
  bif (decide (4294967296 ≤ p1)) then
  F_math_bits_Len64_k3 (shrI .u64 p1 32) 32
  else
  F_math_bits_Len64_k3 p1 0

set_option maxRecDepth 100000 in
set_option maxHeartbeats 4000000 in
theorem F_math_bits_Len64_ok (p1 : Int) {r : Int} (h : F_math_bits_Len64 p1 = some r) : ACalls Tryz.prog 69 [.i .u64 p1] [] (Gives (.i .i64 r) []) := by
  refine ACalls.walk 25 Tryz.func69 rfl Tryz.ntmps69 rfl fun C hC => ?_
  unfold F_math_bits_Len64 at h
  refine AK.go tab_ok hC [.n 5] rfl trivial ?_
  refine AK.meet (fun σ => ∃ x3 : Int, ∃ n4 : Int, σ = ⟨[(0, .i .u64 x3), (2, .i .i64 n4)], []⟩ ∧ F_math_bits_Len64_k3 x3 n4 = some r) ?_ ?_
  · refine AK.go tab_ok hC [.n 6] rfl trivial ?_
    rcases bifE h with ⟨hc12, h⟩ | ⟨hc12, h⟩
    · refine AK.go tab_ok hC [.br true, .n 3, .o (.any (.i .u64 (shrI .u64 p1 32)) none), .n 6, .keep [0, 2] []] rfl ⟨⟨trivial, hc12⟩, (fun σ h1 h2 _ => Stp.shr rfl rfl (hC ▸ rfl) (h1 _ _ rfl) (h1 _ _ rfl) (by decide))⟩ ?_
      exact AK.met (Exists.intro _ (Exists.intro _ (And.intro rfl h)))
    · refine AK.go tab_ok hC [.br false, .n 1, .keep [0, 2] []] rfl ⟨trivial, hc12⟩ ?_
      exact AK.met (Exists.intro _ (Exists.intro _ (And.intro rfl h)))
  · rintro σ ⟨x3, n4, rfl, h⟩
    unfold F_math_bits_Len64_k3 at h
    refine AK.meet (fun σ => ∃ x5 : Int, ∃ n6 : Int, σ = ⟨[(0, .i .u64 x5), (2, .i .i64 n6)], []⟩ ∧ F_math_bits_Len64_k2 x5 n6 = some r) ?_ ?_
    · refine AK.go tab_ok hC [.n 6] rfl trivial ?_
      rcases bifE h with ⟨hc11, h⟩ | ⟨hc11, h⟩
      · refine AK.go tab_ok hC [.br true, .n 3, .o (.any (.i .u64 (shrI .u64 x3 16)) none), .n 8, .keep [0, 2] []] rfl ⟨⟨trivial, hc11⟩, (fun σ h1 h2 _ => Stp.shr rfl rfl (hC ▸ rfl) (h1 _ _ rfl) (h1 _ _ rfl) (by decide))⟩ ?_
        exact AK.met (Exists.intro _ (Exists.intro _ (And.intro rfl h)))
      · refine AK.go tab_ok hC [.br false, .n 1, .keep [0, 2] []] rfl ⟨trivial, hc11⟩ ?_
        exact AK.met (Exists.intro _ (Exists.intro _ (And.intro rfl h)))
    · rintro σ ⟨x5, n6, rfl, h⟩
      unfold F_math_bits_Len64_k2 at h
      refine AK.meet (fun σ => ∃ x7 : Int, ∃ n8 : Int, σ = ⟨[(0, .i .u64 x7), (2, .i .i64 n8)], []⟩ ∧ F_math_bits_Len64_k1 x7 n8 = some r) ?_ ?_
      · refine AK.go tab_ok hC [.n 6] rfl trivial ?_
        rcases bifE h with ⟨hc10, h⟩ | ⟨hc10, h⟩
        · refine AK.go tab_ok hC [.br true, .n 3, .o (.any (.i .u64 (shrI .u64 x5 8)) none), .n 8, .keep [0, 2] []] rfl ⟨⟨trivial, hc10⟩, (fun σ h1 h2 _ => Stp.shr rfl rfl (hC ▸ rfl) (h1 _ _ rfl) (h1 _ _ rfl) (by decide))⟩ ?_
          exact AK.met (Exists.intro _ (Exists.intro _ (And.intro rfl h)))
        · refine AK.go tab_ok hC [.br false, .n 1, .keep [0, 2] []] rfl ⟨trivial, hc10⟩ ?_
          exact AK.met (Exists.intro _ (Exists.intro _ (And.intro rfl h)))
      · rintro σ ⟨x7, n8, rfl, h⟩
        unfold F_math_bits_Len64_k1 at h
        obtain ⟨c9, hc9, h⟩ := bindE h
        refine AK.go tab_ok hC [.n 4, .o (.any (.i .u8 (IntKind.u8.wrap x7)) none), .o (.num c9), .o (.any (.i .i64 (w64 c9)) none), .n 5, .keep [2] []] rfl ⟨⟨⟨trivial, (fun σ h1 h2 _ => Stp.convI rfl rfl (hC ▸ rfl) (h1 _ _ rfl) it_131 it_5)⟩, hc9⟩, (fun σ h1 h2 _ => Stp.convI rfl rfl (hC ▸ rfl) (h1 _ _ rfl) it_5 it_3)⟩ ?_
        obtain rfl := Option.some.inj h
        refine AK.done ?_
        exact Exists.intro [_] (And.intro (And.intro rfl trivial) (gives trivial))

-- 48 math/bits.Len
noncomputable def F_math_bits_Len (p1 : Int) : Option Int :=
  (F_math_bits_Len64 p1).bind fun x3 =>
  some x3

set_option maxRecDepth 100000 in
set_option maxHeartbeats 4000000 in
theorem F_math_bits_Len_ok (p1 : Int) {r : Int} (h : F_math_bits_Len p1 = some r) : ACalls Tryz.prog 48 [.i .u64 p1] [] (Gives (.i .i64 r) []) := by
  refine ACalls.walk 8 Tryz.func48 rfl Tryz.ntmps48 rfl fun C hC => ?_
  unfold F_math_bits_Len at h
  obtain ⟨x3, hx3, h⟩ := bindE h
  refine AK.go tab_ok hC [.n 12, .o (.c false [.d] (.i .i64 x3)), .n 4, .keep [2] []] rfl ⟨trivial, (F_math_bits_Len64_ok _ hx3)⟩ ?_
  obtain rfl := Option.some.inj h
  refine AK.done ?_
  exact Exists.intro [_] (And.intro (And.intro rfl trivial) (gives trivial))

-- 89 cmp.isNaN[int]
noncomputable def F_cmp_isNaN_int (p1 : Int) : Option Bool :=
  some (p1 != p1)

set_option maxRecDepth 100000 in
set_option maxHeartbeats 4000000 in
theorem F_cmp_isNaN_int_ok (p1 : Int) {r : Bool} (h : F_cmp_isNaN_int p1 = some r) : ACalls Tryz.prog 89 [.i .i64 p1] [] (Gives (.b r) []) := by
  refine ACalls.walk 6 Tryz.func89 rfl Tryz.ntmps89 rfl fun C hC => ?_
  unfold F_cmp_isNaN_int at h
  refine AK.go tab_ok hC [.n 14, .keep [2] []] rfl trivial ?_
  obtain rfl := Option.some.inj h
  refine AK.done ?_
  exact Exists.intro [_] (And.intro (And.intro rfl trivial) (gives trivial))

-- 65 cmp.Less[int]
noncomputable def F_cmp_Less_int_g1 (p1 : Int) (y2 : Int) : Option Bool :=
  (F_cmp_isNaN_int p1).bind fun x6 =>
  bif x6 then
  (F_cmp_isNaN_int y2).bind fun x8 =>
  bif (!x8) then
  some true
  else
  some (decide (p1 < y2))
  else
  some (decide (p1 < y2))

noncomputable def F_cmp_Less_int_k2 (x4 : Bool) : Option Bool :=
  some x4

noncomputable def F_cmp_Less_int (p1 : Int) (y2 : Int) : Option Bool :=
  (F_cmp_Less_int_g1 p1 y2).bind (fun x4 => F_cmp_Less_int_k2 x4)

set_option maxRecDepth 100000 in
set_option maxHeartbeats 4000000 in
theorem F_cmp_Less_int_ok (p1 : Int) (y2 : Int) {r : Bool} (h : F_cmp_Less_int p1 y2 = some r) : ACalls Tryz.prog 65 [.i .i64 p1, .i .i64 y2] [] (Gives (.b r) []) := by
  refine ACalls.walk 17 Tryz.func65 rfl Tryz.ntmps65 rfl fun C hC => ?_
  unfold F_cmp_Less_int at h
  refine AK.go tab_ok hC [.n 6] rfl trivial ?_
  obtain ⟨x4, hv5, h⟩ := bindE h
  replace h : F_cmp_Less_int_k2 x4 = some r := h
  refine AK.meetX (fun σ => σ = ⟨[(4, .b x4)], []⟩) ?_ ?_
  · replace h := hv5
    unfold F_cmp_Less_int_g1 at h
    obtain ⟨x6, hx6, h⟩ := bindE h
    refine AK.go tab_ok hC [.n 2, .o (.c false [.d] (.b x6)), .n 1] rfl ⟨trivial, (F_cmp_isNaN_int_ok _ hx6)⟩ ?_
    rcases bifE h with ⟨hc7, h⟩ | ⟨hc7, h⟩
    · obtain ⟨x8, hx8, h⟩ := bindE h
      refine AK.go tab_ok hC [.say 7 (.b true), .n 1, .o (.c false [.d] (.b x8)), .n 3] rfl ⟨⟨trivial, (congrArg V.b hc7)⟩, (F_cmp_isNaN_int_ok _ hx8)⟩ ?_
      rcases bifE h with ⟨hc9, h⟩ | ⟨hc9, h⟩
      · refine AK.go tab_ok hC [.say 12 (.b true), .n 6, .keep [4] []] rfl ⟨trivial, (congrArg V.b hc9)⟩ ?_
        obtain rfl := Option.some.inj h
        exact AK.met rfl
      · refine AK.go tab_ok hC [.say 12 (.b false), .n 6, .keep [4] []] rfl ⟨trivial, (congrArg V.b hc9)⟩ ?_
        obtain rfl := Option.some.inj h
        exact AK.met rfl
    · refine AK.go tab_ok hC [.say 7 (.b false), .n 11, .keep [4] []] rfl ⟨trivial, (congrArg V.b hc7)⟩ ?_
      obtain rfl := Option.some.inj h
      exact AK.met rfl
  · rintro σ rfl
    replace h : F_cmp_Less_int_k2 x4 = some r := h
    unfold F_cmp_Less_int_k2 at h
    refine AK.go tab_ok hC [.n 2, .keep [4] []] rfl trivial ?_
    obtain rfl := Option.some.inj h
    refine AK.done ?_
    exact Exists.intro [_] (And.intro (And.intro rfl trivial) (gives trivial))

-- 59 slices.insertionSortOrdered[int]
noncomputable def F_slices_insertionSortOrdered_int_v2_g1 (a2 : Int) (j13 : Int) (l14 : (List Int)) : Option Bool :=
  bif (decide (a2 < j13)) then
  (idx l14 j13).bind fun e21 =>
  (idx l14 (w64 (j13 - 1))).bind fun e22 =>
  (F_cmp_Less_int e21 e22).bind fun x23 =>
  some x23
  else
  some false

noncomputable def F_slices_insertionSortOrdered_int_v2_k2 (l14 : (List Int)) (j13 : Int) (x18 : Bool) : Option ((Int × (List Int)) ⊕ (List Int)) :=
  bif x18 then
  (idx l14 (w64 (j13 - 1))).bind fun e25 =>
  (idx l14 j13).bind fun e26 =>
  (idx l14 j13).bind fun e27 =>
  (idx (l14.set j13.toNat e25) (w64 (j13 - 1))).bind fun e28 =>
  some (.inl ((w64 (j13 - 1)), ((l14.set j13.toNat e25).set (w64 (j13 - 1)).toNat e26)))
  else
  some (.inr l14)

noncomputable def F_slices_insertionSortOrdered_int_v2_l3 (a2 : Int) (j13 : Int) (l14 : (List Int)) : Option ((Int × (List Int)) ⊕ (List Int)) :=
  (F_slices_insertionSortOrdered_int_v2_g1 a2 j13 l14).bind (fun x18 => F_slices_insertionSortOrdered_int_v2_k2 l14 j13 x18)

noncomputable def F_slices_insertionSortOrdered_int_v2_c4 (i6 : Int) (l17 : (List Int)) : Option ((Int × (List Int)) ⊕ (List Int)) :=
  some (.inl ((w64 (i6 + 1)), l17))

noncomputable def F_slices_insertionSortOrdered_int_v2_l5 (b3 : Int) (a2 : Int) (i6 : Int) (l7 : (List Int)) : Option ((Int × (List Int)) ⊕ (List Int)) :=
  bif (decide (i6 < b3)) then
  (loopM (fun st => F_slices_insertionSortOrdered_int_v2_l3 a2 st.1 st.2) (i6, l7)).bind (fun q => F_slices_insertionSortOrdered_int_v2_c4 i6 q)
  else
  some (.inr l7)

noncomputable def F_slices_insertionSortOrdered_int_v2_c6 (l10 : (List Int)) : Option (List Int) :=
  some l10

noncomputable def F_slices_insertionSortOrdered_int_v2 (l1 : (List Int)) (a2 : Int) (b3 : Int) : Option (List Int) :=
  (loopM (fun st => F_slices_insertionSortOrdered_int_v2_l5 b3 a2 st.1 st.2) ((w64 (a2 + 1)), l1)).bind (fun q => F_slices_insertionSortOrdered_int_v2_c6 q)

set_option maxRecDepth 100000 in
set_option maxHeartbeats 4000000 in
theorem F_slices_insertionSortOrdered_int_v2_ok (l1 : (List Int)) (a2 : Int) (b3 : Int) {r : (List Int)} (h : F_slices_insertionSortOrdered_int_v2 l1 a2 b3 = some r) : ACalls Tryz.prog 59 [.own 200000 l1.length, .i .i64 a2, .i .i64 b3] [(200000, .arr 1 (l1.map row_I))] (Gives (.tup []) [(200000, .arr 1 (r.map row_I))]) := by
  refine ACalls.walk 49 Tryz.func59 rfl Tryz.ntmps59 rfl fun C hC => ?_
  unfold F_slices_insertionSortOrdered_int_v2 at h
  refine AK.go tab_ok hC [.n 8, .keep [0, 1, 2, 6] [200000]] rfl trivial ?_
  obtain ⟨l10, hl30, h⟩ := bindE h
  refine AK.loop (body := (fun st => F_slices_insertionSortOrdered_int_v2_l5 b3 a2 st.1 st.2)) (fun st σ => σ = ⟨[(0, .own 200000 st.2.length), (1, .i .i64 a2), (2, .i .i64 b3), (6, .i .i64 st.1)], [(200000, .arr 1 (st.2.map row_I))]⟩) (fun q e σ => e = .exit 0 ∧ σ = ⟨[], [(200000, .arr 1 (q.map row_I))]⟩) hl30 rfl ?_ ?_
  · rintro ⟨i6, l7⟩ o σ rfl h
    replace h : F_slices_insertionSortOrdered_int_v2_l5 b3 a2 i6 l7 = some o := h
    unfold F_slices_insertionSortOrdered_int_v2_l5 at h
    refine AK.go tab_ok hC [.n 8] rfl trivial ?_
    rcases bifE h with ⟨hc11, h⟩ | ⟨hc11, h⟩
    · refine AK.go tab_ok hC [.br true, .n 11, .keep [0, 1, 2, 6, 7] [200000]] rfl ⟨trivial, hc11⟩ ?_
      obtain ⟨l17, hl29, h⟩ := bindE h
      refine AK.loop (body := (fun st => F_slices_insertionSortOrdered_int_v2_l3 a2 st.1 st.2)) (fun st σ => σ = ⟨[(0, .own 200000 st.2.length), (1, .i .i64 a2), (2, .i .i64 b3), (6, .i .i64 i6), (7, .i .i64 st.1)], [(200000, .arr 1 (st.2.map row_I))]⟩) (fun q e σ => e = .exit 2 ∧ σ = ⟨[(0, .own 200000 q.length), (1, .i .i64 a2), (2, .i .i64 b3), (6, .i .i64 i6)], [(200000, .arr 1 (q.map row_I))]⟩) hl29 rfl ?_ ?_
      · rintro ⟨j13, l14⟩ o σ rfl h
        replace h : F_slices_insertionSortOrdered_int_v2_l3 a2 j13 l14 = some o := h
        unfold F_slices_insertionSortOrdered_int_v2_l3 at h
        refine AK.go tab_ok hC [.n 2] rfl trivial ?_
        obtain ⟨x18, hv19, h⟩ := bindE h
        replace h : F_slices_insertionSortOrdered_int_v2_k2 l14 j13 x18 = some o := h
        refine AK.meetX (fun σ => σ = ⟨[(0, .own 200000 l14.length), (1, .i .i64 a2), (2, .i .i64 b3), (6, .i .i64 i6), (7, .i .i64 j13), (30, .b x18)], [(200000, .arr 1 (l14.map row_I))]⟩) ?_ ?_
        · replace h := hv19
          unfold F_slices_insertionSortOrdered_int_v2_g1 at h
          refine AK.go tab_ok hC [.keep [0, 1, 2, 6, 7] [200000]] rfl trivial ?_
          rcases bifE h with ⟨hc20, h⟩ | ⟨hc20, h⟩
          · obtain ⟨e21, he21, h⟩ := bindE h
            obtain ⟨e22, he22, h⟩ := bindE h
            obtain ⟨x23, hx23, h⟩ := bindE h
            refine AK.draw2 tab_ok hC mixed [.a .no none false, .a .no none false, .a .no none false, .a .no (some ([], .b true)) false, .a .no none false, .a .no none false, .a .no none false, .a (.row (row_I e21)) none false, .a .no none false, .a .no none false, .a .no none false, .a .no none false, .a (.row (row_I e22)) none false, .a (.c false [.d, .d] (.b x23)) none false, .a .no none false] [] [] [0, 1, 2, 6, 7, 30] [200000] rfl rfl rfl ⟨⟨⟨⟨⟨⟨trivial, (congrArg V.b hc20)⟩, (idxOw he21 rfl)⟩, (mapGet (idxE he21).2)⟩, (idxOw he22 rfl)⟩, (mapGet (idxE he22).2)⟩, (F_cmp_Less_int_ok _ _ hx23)⟩ rfl (by kernel_rfl) rfl rfl rfl ?_
            refine AK.go tab_ok hC [.keep [0, 1, 2, 6, 7, 30] [200000]] rfl trivial ?_
            obtain rfl := Option.some.inj h
            exact AK.met rfl
          · refine AK.draw2 tab_ok hC mixed [.a .no none false, .a .no none false, .a .no none false, .a .no (some ([], .b false)) false, .a .no none false, .a .no none false, .a .no none false, .a .no none false, .a .no none false, .a .no none false, .a .no none false, .a .no none false, .a .no none false, .a .no none false, .a .no none false] [] [] [0, 1, 2, 6, 7, 30] [200000] rfl rfl rfl ⟨trivial, (congrArg V.b hc20)⟩ rfl (by kernel_rfl) rfl rfl rfl ?_
            refine AK.go tab_ok hC [.keep [0, 1, 2, 6, 7, 30] [200000]] rfl trivial ?_
            obtain rfl := Option.some.inj h
            exact AK.met rfl
        · rintro σ rfl
          replace h : F_slices_insertionSortOrdered_int_v2_k2 l14 j13 x18 = some o := h
          unfold F_slices_insertionSortOrdered_int_v2_k2 at h
          refine AK.go tab_ok hC [.n 1] rfl trivial ?_
          rcases bifE h with ⟨hc24, h⟩ | ⟨hc24, h⟩
          · obtain ⟨e25, he25, h⟩ := bindE h
            obtain ⟨e26, he26, h⟩ := bindE h
            obtain ⟨e27, he27, h⟩ := bindE h
            obtain ⟨e28, he28, h⟩ := bindE h
            refine AK.go tab_ok hC [.br true, .n 4, .keep [0, 1, 2, 6, 7] [200000]] rfl ⟨trivial, hc24⟩ ?_
            refine AK.draw2 tab_ok hC mixed [.a .no none false, .a .no none false, .a .no none true, .a .no none true, .a .no none true, .a .no none false, .a .no none false, .a .no none false, .a .no none false, .a (.row (row_I e25)) none false, .a .no none false, .a .no none false, .a .no none false, .a (.row (row_I e26)) none false, .a .no none false, .m (.st (row_I e27) ((l14.set j13.toNat e25).map row_I)), .a .no none false, .m (.st (row_I e28) (((l14.set j13.toNat e25).set (w64 (j13 - 1)).toNat e26).map row_I))] [0, 1, 2, 6, 7] [] [0, 1, 2, 6, 7] [200000] rfl rfl rfl ⟨⟨⟨⟨⟨⟨⟨⟨trivial, (idxOw he25 rfl)⟩, (mapGet (idxE he25).2)⟩, (idxOw he26 rfl)⟩, (mapGet (idxE he26).2)⟩, (idxOw he27 rfl)⟩, ⟨(mapGet (idxE he27).2), mapSet rfl⟩⟩, (idxOw he28 (by simp))⟩, ⟨(mapGet (idxE he28).2), mapSet rfl⟩⟩ rfl (by kernel_rfl) rfl rfl rfl ?_
            refine AK.go tab_ok hC [.n 7, .say 0 (.own 200000 ((l14.set j13.toNat e25).set (w64 (j13 - 1)).toNat e26).length), .keep [0, 1, 2, 6, 7] [200000]] rfl ⟨trivial, (congrArg (fun n => V.own 200000 n) (by simp))⟩ ?_
            obtain rfl := Option.some.inj h
            exact rndN rfl rfl
          · refine AK.go tab_ok hC [.br false, .n 2, .keep [0, 1, 2, 6] [200000]] rfl ⟨trivial, hc24⟩ ?_
            obtain rfl := Option.some.inj h
            exact rndX rfl (And.intro rfl rfl)
      · replace h : F_slices_insertionSortOrdered_int_v2_c4 i6 l17 = some o := h
        unfold F_slices_insertionSortOrdered_int_v2_c4 at h
        rintro e σ ⟨rfl, rfl⟩
        refine AK.go tab_ok hC [.n 8, .keep [0, 1, 2, 6] [200000]] rfl trivial ?_
        obtain rfl := Option.some.inj h
        exact rndN rfl rfl
    · refine AK.go tab_ok hC [.br false, .n 2, .keep [] [200000]] rfl ⟨trivial, hc11⟩ ?_
      obtain rfl := Option.some.inj h
      exact rndX rfl (And.intro rfl rfl)
  · replace h : F_slices_insertionSortOrdered_int_v2_c6 l10 = some r := h
    unfold F_slices_insertionSortOrdered_int_v2_c6 at h
    rintro e σ ⟨rfl, rfl⟩
    refine AK.go tab_ok hC [.n 1, .keep [] [200000]] rfl trivial ?_
    obtain rfl := Option.some.inj h
    refine AK.done ?_
    exact Exists.intro [] (And.intro trivial (gives ⟨rfl, trivial⟩))

-- 47 slices.pdqsortOrdered[int]
noncomputable def F_slices_pdqsortOrdered_int_v2_l1 (l1 : (List Int)) (a6 : Int) (b7 : Int) (limit8 : Int) (wasBalanced9 : Bool) (wasPartitioned10 : Bool) : Option ((Int × Int × Int × Bool × Bool) ⊕ (List Int)) :=
  bif (decide ((w64 (b7 - a6)) ≤ 12)) then
  (F_slices_insertionSortOrdered_int_v2 l1 a6 b7).bind fun x18 =>
  (chk (decide (x18.length = l1.length))).bind fun _ =>
  some (.inr x18)
  else
  bif (limit8 == 0) then
  none
  else
  bif (!wasBalanced9) then
  none
  else
  none

noncomputable def F_slices_pdqsortOrdered_int_v2_c2 (l16 : (List Int)) : Option (List Int) :=
  some l16

noncomputable def F_slices_pdqsortOrdered_int_v2 (l1 : (List Int)) (a2 : Int) (b3 : Int) (limit4 : Int) : Option (List Int) :=
  (loopM (fun st => F_slices_pdqsortOrdered_int_v2_l1 l1 st.1 st.2.1 st.2.2.1 st.2.2.2.1 st.2.2.2.2) (a2, b3, limit4, true, true)).bind (fun q => F_slices_pdqsortOrdered_int_v2_c2 q)

set_option maxRecDepth 100000 in
set_option maxHeartbeats 4000000 in
theorem F_slices_pdqsortOrdered_int_v2_ok (l1 : (List Int)) (a2 : Int) (b3 : Int) (limit4 : Int) {r : (List Int)} (h : F_slices_pdqsortOrdered_int_v2 l1 a2 b3 limit4 = some r) : ACalls Tryz.prog 47 [.own 200000 l1.length, .i .i64 a2, .i .i64 b3, .i .i64 limit4] [(200000, .arr 1 (l1.map row_I))] (Gives (.tup []) [(200000, .arr 1 (r.map row_I))]) := by
  refine ACalls.walk 134 Tryz.func47 rfl Tryz.ntmps47 rfl fun C hC => ?_
  unfold F_slices_pdqsortOrdered_int_v2 at h
  refine AK.go tab_ok hC [.n 11, .keep [0, 1, 2, 3, 8, 9] [200000]] rfl trivial ?_
  obtain ⟨l16, hl22, h⟩ := bindE h
  refine AK.loop (body := (fun st => F_slices_pdqsortOrdered_int_v2_l1 l1 st.1 st.2.1 st.2.2.1 st.2.2.2.1 st.2.2.2.2)) (fun st σ => σ = ⟨[(0, .own 200000 l1.length), (1, .i .i64 st.1), (2, .i .i64 st.2.1), (3, .i .i64 st.2.2.1), (8, .b st.2.2.2.1), (9, .b st.2.2.2.2)], [(200000, .arr 1 (l1.map row_I))]⟩) (fun q e σ => e = .ret ∧ σ = ⟨[], [(200000, .arr 1 (q.map row_I))]⟩) hl22 rfl ?_ ?_
  · rintro ⟨a6, b7, limit8, wasBalanced9, wasPartitioned10⟩ o σ rfl h
    replace h : F_slices_pdqsortOrdered_int_v2_l1 l1 a6 b7 limit8 wasBalanced9 wasPartitioned10 = some o := h
    unfold F_slices_pdqsortOrdered_int_v2_l1 at h
    refine AK.go tab_ok hC [.n 16] rfl trivial ?_
    rcases bifE h with ⟨hc17, h⟩ | ⟨hc17, h⟩
    · obtain ⟨x18, hx18, h⟩ := bindE h
      obtain ⟨_, hk19, h⟩ := bindE h
      replace hk19 := chkE hk19
      refine AK.go tab_ok hC [.br true, .n 5, .cm (.fn) [(200000, 200000)] [(200000, 200000)] [] [.d, .d, .d] [(200000, .arr 1 (x18.map row_I))] (.tup []), .say 0 (.own 200000 x18.length), .say 24 (.own 200000 x18.length), .n 5, .keep [] [200000]] rfl ⟨⟨⟨⟨trivial, hc17⟩, (F_slices_insertionSortOrdered_int_v2_ok _ _ _ hx18)⟩, (by simp [of_decide_eq_true hk19])⟩, (by simp [of_decide_eq_true hk19])⟩ ?_
      obtain rfl := Option.some.inj h
      exact rndR rfl (And.intro rfl rfl)
    · refine AK.go tab_ok hC [.br false, .n 9] rfl ⟨trivial, hc17⟩ ?_
      rcases bifE h with ⟨hc20, h⟩ | ⟨hc20, h⟩
      · refine AK.go tab_ok hC [.br true, .n 5] rfl ⟨trivial, hc20⟩ ?_
        cases h
      · refine AK.go tab_ok hC [.br false, .n 9] rfl ⟨trivial, hc20⟩ ?_
        rcases bifE h with ⟨hc21, h⟩ | ⟨hc21, h⟩
        · refine AK.go tab_ok hC [.br true, .n 5] rfl ⟨trivial, hc21⟩ ?_
          cases h
        · refine AK.go tab_ok hC [.br false, .n 7] rfl ⟨trivial, hc21⟩ ?_
          cases h
  · replace h : F_slices_pdqsortOrdered_int_v2_c2 l16 = some r := h
    unfold F_slices_pdqsortOrdered_int_v2_c2 at h
    rintro e σ ⟨rfl, rfl⟩
    refine AK.go tab_ok hC [.n 1, .keep [] [200000]] rfl trivial ?_
    obtain rfl := Option.some.inj h
    refine AK.done ?_
    exact Exists.intro [] (And.intro trivial (gives ⟨rfl, trivial⟩))

-- 33 slices.Sort[[]int,int]
noncomputable def F_slices_Sort_int_int_v2 (l1 : (List Int)) : Option (List Int) :=
  (F_math_bits_Len (IntKind.u64.wrap (l1.length : Int))).bind fun x3 =>
  (F_slices_pdqsortOrdered_int_v2 l1 0 (l1.length : Int) x3).bind fun x4 =>
  (chk (decide (x4.length = l1.length))).bind fun _ =>
  some x4

set_option maxRecDepth 100000 in
set_option maxHeartbeats 4000000 in
theorem F_slices_Sort_int_int_v2_ok (l1 : (List Int)) {r : (List Int)} (h : F_slices_Sort_int_int_v2 l1 = some r) : ACalls Tryz.prog 33 [.own 200000 l1.length] [(200000, .arr 1 (l1.map row_I))] (Gives (.tup []) [(200000, .arr 1 (r.map row_I))]) := by
  refine ACalls.walk 11 Tryz.func33 rfl Tryz.ntmps33 rfl fun C hC => ?_
  unfold F_slices_Sort_int_int_v2 at h
  obtain ⟨x3, hx3, h⟩ := bindE h
  obtain ⟨x4, hx4, h⟩ := bindE h
  obtain ⟨_, hk5, h⟩ := bindE h
  replace hk5 := chkE hk5
  refine AK.go tab_ok hC [.n 11, .o (.any (.i .u64 (IntKind.u64.wrap (l1.length : Int))) none), .o (.c false [.d] (.i .i64 x3)), .cm (.fn) [(200000, 200000)] [(200000, 200000)] [] [.d, .d, .d, .d] [(200000, .arr 1 (x4.map row_I))] (.tup []), .say 0 (.own 200000 x4.length), .say 3 (.own 200000 x4.length), .say 5 (.own 200000 x4.length), .n 1, .keep [] [200000]] rfl ⟨⟨⟨⟨⟨⟨trivial, (fun σ h1 h2 _ => Stp.convI rfl rfl (hC ▸ rfl) (h1 _ _ rfl) it_3 it_107)⟩, (F_math_bits_Len_ok _ hx3)⟩, (F_slices_pdqsortOrdered_int_v2_ok _ _ _ _ hx4)⟩, (by simp [of_decide_eq_true hk5])⟩, (by simp [of_decide_eq_true hk5])⟩, (by simp [of_decide_eq_true hk5])⟩ ?_
  obtain rfl := Option.some.inj h
  refine AK.done ?_
  exact Exists.intro [] (And.intro trivial (gives ⟨rfl, trivial⟩))

-- 71 slices.Sorted[int]
noncomputable def F_slices_Sorted_int (m1 : (List (Int × Int))) : Option (List Int) :=
  (F_slices_Collect_int m1).bind fun x3 =>
  (F_slices_Sort_int_int_v2 x3).bind fun x4 =>
  (chk (decide (x4.length = x3.length))).bind fun _ =>
  some x4

set_option maxRecDepth 100000 in
set_option maxHeartbeats 4000000 in
theorem F_slices_Sorted_int_ok (m1 : (List (Int × Int))) {r : (List Int)} (h : F_slices_Sorted_int m1 = some r) : ACalls Tryz.prog 71 [.clo (.func 92) [] [.loc 200000 0 0]] [(200000, .var [.map 200001]), (200001, .map (mapV (V.i .i64) (V.i .i64) m1))] (Gives (.own 30000 r.length) [(30000, .arr 1 (r.map row_I)), (200000, .var [.map 200001]), (200001, .map (mapV (V.i .i64) (V.i .i64) m1))]) := by
  refine ACalls.walk 9 Tryz.func71 rfl Tryz.ntmps71 rfl fun C hC => ?_
  unfold F_slices_Sorted_int at h
  obtain ⟨x3, hx3, h⟩ := bindE h
  obtain ⟨x4, hx4, h⟩ := bindE h
  obtain ⟨_, hk5, h⟩ := bindE h
  replace hk5 := chkE hk5
  refine AK.go tab_ok hC [.n 8, .cm (.fn) [(200000, 200000), (200001, 200001)] [(5, 30000), (200000, 200000), (200001, 200001)] [] [.d] [(30000, .arr 1 (x3.map row_I)), (200000, .var [.map 200001]), (200001, .map (mapV (V.i .i64) (V.i .i64) m1))] (.own 30000 x3.length), .n 6, .cm (.fn) [(200000, 5)] [(5, 200000)] [] [.d] [(200000, .arr 1 (x4.map row_I))] (.tup []), .say 3 (.own 5 x4.length), .say 5 (.own 5 x4.length), .say 6 (.own 5 x4.length), .n 9, .keep [2] [5, 200000, 200001], .ren 5 30000, .keep [2] [30000, 200000, 200001]] rfl ⟨⟨⟨⟨⟨trivial, (F_slices_Collect_int_ok _ hx3)⟩, (F_slices_Sort_int_int_v2_ok _ hx4)⟩, (by simp [of_decide_eq_true hk5])⟩, (by simp [of_decide_eq_true hk5])⟩, (by simp [of_decide_eq_true hk5])⟩ ?_
  obtain rfl := Option.some.inj h
  refine AK.done ?_
  exact Exists.intro [_] (And.intro (And.intro rfl trivial) (gives ⟨rfl, rfl, rfl, trivial⟩))

-- 52 (baldric/bag.counts).bag
noncomputable def F_bag_counts_bag_k1 (x6 : Int) (l12 : (List (Int × Int))) : Option ((Int × (List (Int × Int))) ⊕ (List (Int × Int))) :=
  some (.inl ((w64 (x6 + 1)), l12))

noncomputable def F_bag_counts_bag_l2 (x4 : (List Int)) (m1 : (List (Int × Int))) (x6 : Int) (l7 : (List (Int × Int))) : Option ((Int × (List (Int × Int))) ⊕ (List (Int × Int))) :=
  bif (decide (x6 < (x4.length : Int))) then
  (idx x4 x6).bind fun e13 =>
  bif (decide (0 < ((mget m1 e13).getD 0))) then
  (chk (decide (l7.length + ([(e13, ((mget m1 e13).getD 0))] : List (Int × Int)).length ≤ 4294967296))).bind fun _ =>
  F_bag_counts_bag_k1 x6 (l7 ++ ([(e13, ((mget m1 e13).getD 0))] : List (Int × Int)))
  else
  F_bag_counts_bag_k1 x6 l7
  else
  some (.inr l7)

noncomputable def F_bag_counts_bag_c3 (l10 : (List (Int × Int))) : Option (List (Int × Int)) :=
  some l10

noncomputable def F_bag_counts_bag (m1 : (List (Int × Int))) : Option (List (Int × Int)) :=
  (F_maps_Keys_bag_counts_int_int m1).bind fun x3 =>
  (F_slices_Sorted_int m1).bind fun x4 =>
  (loopM (fun st => F_bag_counts_bag_l2 x4 m1 st.1 st.2) (0, ([] : List (Int × Int)))).bind (fun q => F_bag_counts_bag_c3 q)

set_option maxRecDepth 100000 in
set_option maxHeartbeats 4000000 in
theorem F_bag_counts_bag_ok (m1 : (List (Int × Int))) {r : (List (Int × Int))} (h : F_bag_counts_bag m1 = some r) : ACalls Tryz.prog 52 [.map 200000] [(200000, .map (mapV (V.i .i64) (V.i .i64) m1))] (Gives (.own 30000 r.length) [(30000, .arr 2 (r.map row_A2I))]) := by
  refine ACalls.walk 28 Tryz.func52 rfl Tryz.ntmps52 rfl fun C hC => ?_
  unfold F_bag_counts_bag at h
  obtain ⟨x3, hx3, h⟩ := bindE h
  obtain ⟨x4, hx4, h⟩ := bindE h
  refine AK.go tab_ok hC [.n 14, .cm (.fn) [(200000, 200000)] [(7, 1), (200000, 200000)] [] [.d] [(1, .var [.map 200000]), (200000, .map (mapV (V.i .i64) (V.i .i64) m1))] (.clo (.func 92) [] [.loc 1 0 0]), .cm (.fn) [(200000, 7), (200001, 200000)] [(8, 30000), (7, 200000), (200000, 200001)] [] [.d] [(30000, .arr 1 (x4.map row_I)), (200000, .var [.map 200001]), (200001, .map (mapV (V.i .i64) (V.i .i64) m1))] (.own 30000 x4.length), .n 5, .adopt 3 18 2, .sayO 18 (.arr 2 (([] : List (Int × Int)).map row_A2I)), .say 3 (.own 18 ([] : List (Int × Int)).length), .keep [0, 3, 8, 9, 10] [8, 18, 200000]] rfl ⟨⟨⟨⟨trivial, (F_maps_Keys_bag_counts_int_int_ok _ hx3)⟩, (F_slices_Sorted_int_ok _ hx4)⟩, rfl⟩, (congrArg (fun n => V.own 18 n) (by simp))⟩ ?_
  obtain ⟨l10, hl16, h⟩ := bindE h
  refine AK.loop (body := (fun st => F_bag_counts_bag_l2 x4 m1 st.1 st.2)) (fun st σ => σ = ⟨[(0, .map 200000), (3, .own 18 st.2.length), (8, .own 8 x4.length), (9, .i .i64 (x4.length : Int)), (10, .i .i64 st.1)], [(8, .arr 1 (x4.map row_I)), (18, .arr 2 (st.2.map row_A2I)), (200000, .map (mapV (V.i .i64) (V.i .i64) m1))]⟩) (fun q e σ => e = .exit 0 ∧ σ = ⟨[(3, .own 18 q.length)], [(18, .arr 2 (q.map row_A2I))]⟩) hl16 rfl ?_ ?_
  · rintro ⟨x6, l7⟩ o σ rfl h
    replace h : F_bag_counts_bag_l2 x4 m1 x6 l7 = some o := h
    unfold F_bag_counts_bag_l2 at h
    refine AK.go tab_ok hC [.n 6] rfl trivial ?_
    rcases bifE h with ⟨hc11, h⟩ | ⟨hc11, h⟩
    · refine AK.go tab_ok hC [.br true, .n 2] rfl ⟨trivial, hc11⟩ ?_
      refine AK.meet (fun σ => ∃ l12 : (List (Int × Int)), σ = ⟨[(0, .map 200000), (3, .own 18 l12.length), (8, .own 8 x4.length), (9, .i .i64 (x4.length : Int)), (10, .i .i64 x6)], [(8, .arr 1 (x4.map row_I)), (18, .arr 2 (l12.map row_A2I)), (200000, .map (mapV (V.i .i64) (V.i .i64) m1))]⟩ ∧ F_bag_counts_bag_k1 x6 l12 = some o) ?_ ?_
      · obtain ⟨e13, he13, h⟩ := bindE h
        refine AK.go tab_ok hC [.n 4, .o (.row (row_I e13)), .n 7, .o (.any (.i .i64 ((mget m1 e13).getD 0)) none), .n 3] rfl ⟨⟨⟨trivial, (idxOw he13 rfl)⟩, (mapGet (idxE he13).2)⟩, (fun σ h1 h2 _ => Stp.lookup (e := (V.i .i64)) (f := (V.i .i64)) (l := m1) (k := e13) (z := 0) rfl rfl (hC ▸ rfl) (h1 _ _ rfl) (h2 _ _ rfl) (h1 _ _ rfl) mt_111 ky_3 zi_3 rfl)⟩ ?_
        rcases bifE h with ⟨hc14, h⟩ | ⟨hc14, h⟩
        · obtain ⟨_, hk15, h⟩ := bindE h
          replace hk15 := chkE hk15
          refine AK.go tab_ok hC [.br true, .n 5, .o (.any (.i .i64 ((mget m1 e13).getD 0)) none), .v .no [] (.agg (row_A2I (e13, ((mget m1 e13).getD 0)))), .v (.bd []) [] (.sl 2 (([(e13, ((mget m1 e13).getD 0))] : List (Int × Int)).map row_A2I)), .app ((l7 ++ ([(e13, ((mget m1 e13).getD 0))] : List (Int × Int))).map row_A2I) (l7 ++ ([(e13, ((mget m1 e13).getD 0))] : List (Int × Int))).length, .n 3, .keep [0, 3, 8, 9, 10] [8, 18, 200000]] rfl ⟨⟨⟨⟨⟨trivial, hc14⟩, (fun σ h1 h2 _ => Stp.lookup (e := (V.i .i64)) (f := (V.i .i64)) (l := m1) (k := e13) (z := 0) rfl rfl (hC ▸ rfl) (h1 _ _ rfl) (h2 _ _ rfl) (h1 _ _ rfl) mt_111 ky_3 zi_3 rfl)⟩, rfl⟩, rfl⟩, ⟨mapLen, appLim hk15 mapLen, mapApps, appLn mapLen⟩⟩ ?_
          exact AK.met (Exists.intro _ (And.intro rfl h))
        · refine AK.go tab_ok hC [.br false, .n 2, .keep [0, 3, 8, 9, 10] [8, 18, 200000]] rfl ⟨trivial, hc14⟩ ?_
          exact AK.met (Exists.intro _ (And.intro rfl h))
      · rintro σ ⟨l12, rfl, h⟩
        unfold F_bag_counts_bag_k1 at h
        refine AK.go tab_ok hC [.n 4, .keep [0, 3, 8, 9, 10] [8, 18, 200000]] rfl trivial ?_
        obtain rfl := Option.some.inj h
        exact rndN rfl rfl
    · refine AK.go tab_ok hC [.br false, .n 2, .keep [3] [18]] rfl ⟨trivial, hc11⟩ ?_
      obtain rfl := Option.some.inj h
      exact rndX rfl (And.intro rfl rfl)
  · replace h : F_bag_counts_bag_c3 l10 = some r := h
    unfold F_bag_counts_bag_c3 at h
    rintro e σ ⟨rfl, rfl⟩
    refine AK.go tab_ok hC [.n 9, .keep [2] [18], .ren 18 30000, .keep [2] [30000]] rfl trivial ?_
    obtain rfl := Option.some.inj h
    refine AK.done ?_
    exact Exists.intro [_] (And.intro (And.intro rfl trivial) (gives ⟨rfl, trivial⟩))

-- 37 baldric/bag.Of
noncomputable def F_bag_Of_k1 (x4 : Int) (m10 : (List (Int × Int))) : Option ((Int × (List (Int × Int))) ⊕ (List (Int × Int))) :=
  some (.inl ((w64 (x4 + 1)), m10))

noncomputable def F_bag_Of_l2 (l1 : (List Int)) (x4 : Int) (m5 : (List (Int × Int))) : Option ((Int × (List (Int × Int))) ⊕ (List (Int × Int))) :=
  bif (decide (x4 < (l1.length : Int))) then
  (idx l1 x4).bind fun e11 =>
  bif (decide (0 ≤ e11)) then
  F_bag_Of_k1 x4 (mset ltI m5 e11 (min2 (w64 (((mget m5 e11).getD 0) + 1)) 1048576))
  else
  F_bag_Of_k1 x4 m5
  else
  some (.inr m5)

noncomputable def F_bag_Of_c3 (m8 : (List (Int × Int))) : Option (List (Int × Int)) :=
  (F_bag_counts_bag m8).bind fun x14 =>
  some x14

noncomputable def F_bag_Of (l1 : (List Int)) : Option (List (Int × Int)) :=
  (loopM (fun st => F_bag_Of_l2 l1 st.1 st.2) (0, ([] : (List (Int × Int))))).bind (fun q => F_bag_Of_c3 q)

set_option maxRecDepth 100000 in
set_option maxHeartbeats 4000000 in
theorem F_bag_Of_ok (l1 : (List Int)) {r : (List (Int × Int))} (h : F_bag_Of l1 = some r) : ACalls Tryz.prog 37 [.sl 1 (l1.map row_I)] [] (Gives (.own 30000 r.length) [(30000, .arr 2 (r.map row_A2I))]) := by
  refine ACalls.walk 25 Tryz.func37 rfl Tryz.ntmps37 rfl fun C hC => ?_
  unfold F_bag_Of at h
  refine AK.go tab_ok hC [.n 8, .sayO 6 (.map (mapV (V.i .i64) (V.i .i64) ([] : (List (Int × Int))))), .n 7, .o (.ln l1.length), .n 4, .keep [3, 7, 8, 9] [6]] rfl ⟨⟨trivial, rfl⟩, mapLen⟩ ?_
  obtain ⟨m8, hl13, h⟩ := bindE h
  refine AK.loop (body := (fun st => F_bag_Of_l2 l1 st.1 st.2)) (fun st σ => σ = ⟨[(3, .map 6), (7, .sl 1 (l1.map row_I)), (8, .i .i64 (l1.length : Int)), (9, .i .i64 st.1)], [(6, .map (mapV (V.i .i64) (V.i .i64) st.2))]⟩) (fun q e σ => e = .exit 0 ∧ σ = ⟨[(3, .map 6)], [(6, .map (mapV (V.i .i64) (V.i .i64) q))]⟩) hl13 rfl ?_ ?_
  · rintro ⟨x4, m5⟩ o σ rfl h
    replace h : F_bag_Of_l2 l1 x4 m5 = some o := h
    unfold F_bag_Of_l2 at h
    refine AK.go tab_ok hC [.n 6] rfl trivial ?_
    rcases bifE h with ⟨hc9, h⟩ | ⟨hc9, h⟩
    · refine AK.go tab_ok hC [.br true, .n 2] rfl ⟨trivial, hc9⟩ ?_
      refine AK.meet (fun σ => ∃ m10 : (List (Int × Int)), σ = ⟨[(3, .map 6), (7, .sl 1 (l1.map row_I)), (8, .i .i64 (l1.length : Int)), (9, .i .i64 x4)], [(6, .map (mapV (V.i .i64) (V.i .i64) m10))]⟩ ∧ F_bag_Of_k1 x4 m10 = some o) ?_ ?_
      · obtain ⟨e11, he11, h⟩ := bindE h
        refine AK.go tab_ok hC [.n 3, .o (.row (row_I e11)), .n 10] rfl ⟨trivial, (idxM he11)⟩ ?_
        rcases bifE h with ⟨hc12, h⟩ | ⟨hc12, h⟩
        · refine AK.go tab_ok hC [.br true, .n 5, .o (.any (.i .i64 ((mget m5 e11).getD 0)) none), .n 2, .x (fun σ => σ.set 6 (.map (mapV (V.i .i64) (V.i .i64) (mset ltI m5 e11 (min2 (w64 (((mget m5 e11).getD 0) + 1)) 1048576))))), .n 2, .keep [3, 7, 8, 9] [6]] rfl ⟨⟨⟨trivial, hc12⟩, (fun σ h1 h2 _ => Stp.lookup (e := (V.i .i64)) (f := (V.i .i64)) (l := m5) (k := e11) (z := 0) rfl rfl (hC ▸ rfl) (h1 _ _ rfl) (h2 _ _ rfl) (h1 _ _ rfl) mt_111 ky_3 zi_3 rfl)⟩, (Stp.mapUpdate (e := (V.i .i64)) (f := (V.i .i64)) (l := m5) (k := e11) (v := (min2 (w64 (((mget m5 e11).getD 0) + 1)) 1048576)) ltI rfl rfl rfl rfl rfl rfl mt_111 ky_3 rfl)⟩ ?_
          exact AK.met (Exists.intro _ (And.intro rfl h))
        · refine AK.go tab_ok hC [.br false, .n 2, .keep [3, 7, 8, 9] [6]] rfl ⟨trivial, hc12⟩ ?_
          exact AK.met (Exists.intro _ (And.intro rfl h))
      · rintro σ ⟨m10, rfl, h⟩
        unfold F_bag_Of_k1 at h
        refine AK.go tab_ok hC [.n 4, .keep [3, 7, 8, 9] [6]] rfl trivial ?_
        obtain rfl := Option.some.inj h
        exact rndN rfl rfl
    · refine AK.go tab_ok hC [.br false, .n 2, .keep [3] [6]] rfl ⟨trivial, hc9⟩ ?_
      obtain rfl := Option.some.inj h
      exact rndX rfl (And.intro rfl rfl)
  · replace h : F_bag_Of_c3 m8 = some r := h
    unfold F_bag_Of_c3 at h
    rintro e σ ⟨rfl, rfl⟩
    obtain ⟨x14, hx14, h⟩ := bindE h
    refine AK.go tab_ok hC [.n 5, .cm (.fn) [(200000, 6)] [(24, 30000)] [6] [.d] [(30000, .arr 2 (x14.map row_A2I))] (.own 30000 x14.length), .n 4, .keep [2] [24], .ren 24 30000, .keep [2] [30000]] rfl ⟨trivial, (F_bag_counts_bag_ok _ hx14)⟩ ?_
    obtain rfl := Option.some.inj h
    refine AK.done ?_
    exact Exists.intro [_] (And.intro (And.intro rfl trivial) (gives ⟨rfl, trivial⟩))

-- 90 baldric/bag.Right
noncomputable def F_bag_Right_l1 (b1 : (List (Int × Int))) (last4 : Int) (x5 : Int) : Option ((Int × Int) ⊕ (Unit ⊕ Unit)) :=
  bif (decide (x5 < (b1.length : Int))) then
  (idx b1 x5).bind fun e9 =>
  bif ((decide (e9.1 ≤ last4)) || ((decide (e9.2 < 1)) || (decide (1048576 < e9.2)))) then
  some (.inr (.inl ()))
  else
  some (.inl (e9.1, (w64 (x5 + 1))))
  else
  some (.inr (.inr ()))

noncomputable def F_bag_Right_c2 : Option Bool :=
  some false

noncomputable def F_bag_Right_c3 : Option Bool :=
  some true

noncomputable def F_bag_Right (b1 : (List (Int × Int))) : Option Bool :=
  (loopM (fun st => F_bag_Right_l1 b1 st.1 st.2) ((-1), 0)).bind (Sum.elim (fun q => F_bag_Right_c2) (fun q => F_bag_Right_c3))

set_option maxRecDepth 100000 in
set_option maxHeartbeats 4000000 in
theorem F_bag_Right_ok (b1 : (List (Int × Int))) {r : Bool} (h : F_bag_Right b1 = some r) : ACalls Tryz.prog 90 [.sl 2 (b1.map row_A2I)] [] (Gives (.b r) []) := by
  refine ACalls.walk 29 Tryz.func90 rfl Tryz.ntmps90 rfl fun C hC => ?_
  unfold F_bag_Right at h
  refine AK.go tab_ok hC [.n 14, .o (.ln b1.length), .n 4, .keep [3, 6, 7, 8] []] rfl ⟨trivial, mapLen⟩ ?_
  obtain ⟨o14, hl14, h⟩ := bindE h
  refine AK.loop (body := (fun st => F_bag_Right_l1 b1 st.1 st.2)) (fun st σ => σ = ⟨[(3, .i .i64 st.1), (6, .sl 2 (b1.map row_A2I)), (7, .i .i64 (b1.length : Int)), (8, .i .i64 st.2)], []⟩) (Sum.elim (fun q e σ => e = .ret ∧ σ = ⟨[(2, .b false)], []⟩) (fun q e σ => e = .exit 0 ∧ σ = ⟨[], []⟩)) hl14 rfl ?_ ?_
  · rintro ⟨last4, x5⟩ o σ rfl h
    replace h : F_bag_Right_l1 b1 last4 x5 = some o := h
    unfold F_bag_Right_l1 at h
    refine AK.go tab_ok hC [.n 6] rfl trivial ?_
    rcases bifE h with ⟨hc8, h⟩ | ⟨hc8, h⟩
    · obtain ⟨e9, he9, h⟩ := bindE h
      refine AK.go tab_ok hC [.br true, .n 6, .o (.row (row_A2I e9)), .v .no [] (.agg (row_A2I e9)), .n 2, .sayO 5 (.var (row_A2I e9)), .n 4] rfl ⟨⟨⟨⟨trivial, hc8⟩, (idxM he9)⟩, rfl⟩, rfl⟩ ?_
      refine AK.meetX (fun σ => σ = ⟨[(5, .loc 5 0 0), (6, .sl 2 (b1.map row_A2I)), (7, .i .i64 (b1.length : Int)), (8, .i .i64 x5), (25, .b ((decide (e9.1 ≤ last4)) || ((decide (e9.2 < 1)) || (decide (1048576 < e9.2)))))], [(5, .var (row_A2I e9))]⟩) ?_ ?_
      · refine AK.go tab_ok hC [.n 6] rfl trivial ?_
        rcases boolOr (decide (e9.1 ≤ last4)) with hc11 | hc11
        · refine AK.go tab_ok hC [.say 16 (.b true), .n 10, .say 25 (.b ((decide (e9.1 ≤ last4)) || ((decide (e9.2 < 1)) || (decide (1048576 < e9.2))))), .keep [5, 6, 7, 8, 25] [5]] rfl ⟨⟨trivial, (congrArg V.b hc11)⟩, (congrArg V.b (orT hc11 rfl))⟩ ?_
          exact AK.met rfl
        · refine AK.go tab_ok hC [.say 16 (.b false), .n 5] rfl ⟨trivial, (congrArg V.b hc11)⟩ ?_
          rcases boolOr (decide (e9.2 < 1)) with hc12 | hc12
          · refine AK.go tab_ok hC [.say 21 (.b true), .n 5, .say 25 (.b ((decide (e9.1 ≤ last4)) || ((decide (e9.2 < 1)) || (decide (1048576 < e9.2))))), .keep [5, 6, 7, 8, 25] [5]] rfl ⟨⟨trivial, (congrArg V.b hc12)⟩, (congrArg V.b (orF hc11 (orT hc12 rfl)))⟩ ?_
            exact AK.met rfl
          · refine AK.go tab_ok hC [.say 21 (.b false), .n 5, .say 25 (.b ((decide (e9.1 ≤ last4)) || ((decide (e9.2 < 1)) || (decide (1048576 < e9.2))))), .keep [5, 6, 7, 8, 25] [5]] rfl ⟨⟨trivial, (congrArg V.b hc12)⟩, (congrArg V.b (orF hc11 (orF hc12 rfl)))⟩ ?_
            exact AK.met rfl
      · rintro σ rfl
        refine AK.go tab_ok hC [.n 1] rfl trivial ?_
        rcases bifE h with ⟨hc13, h⟩ | ⟨hc13, h⟩
        · refine AK.go tab_ok hC [.br true, .n 9, .keep [2] []] rfl ⟨trivial, hc13⟩ ?_
          obtain rfl := Option.some.inj h
          exact rndR rfl (And.intro rfl rfl)
        · refine AK.go tab_ok hC [.br false, .n 13, .keep [3, 6, 7, 8] []] rfl ⟨trivial, hc13⟩ ?_
          obtain rfl := Option.some.inj h
          exact rndN rfl rfl
    · refine AK.go tab_ok hC [.br false, .n 2, .keep [] []] rfl ⟨trivial, hc8⟩ ?_
      obtain rfl := Option.some.inj h
      exact rndX rfl (And.intro rfl rfl)
  · rcases o14 with (_ | _)
    · replace h : F_bag_Right_c2 = some r := h
      unfold F_bag_Right_c2 at h
      rintro e σ ⟨rfl, rfl⟩
      refine AK.go tab_ok hC [.n 2, .keep [2] []] rfl trivial ?_
      obtain rfl := Option.some.inj h
      refine AK.done ?_
      exact Exists.intro [_] (And.intro (And.intro rfl trivial) (gives trivial))
    · replace h : F_bag_Right_c3 = some r := h
      unfold F_bag_Right_c3 at h
      rintro e σ ⟨rfl, rfl⟩
      refine AK.go tab_ok hC [.n 8, .keep [2] []] rfl trivial ?_
      obtain rfl := Option.some.inj h
      refine AK.done ?_
      exact Exists.intro [_] (And.intro (And.intro rfl trivial) (gives trivial))

-- 70 baldric/bag.of
noncomputable def F_bag_of_l1 (b1 : (List (Int × Int))) (x6 : Int) (m7 : (List (Int × Int))) : Option ((Int × (List (Int × Int))) ⊕ (List (Int × Int))) :=
  bif (decide (x6 < (b1.length : Int))) then
  (idx b1 x6).bind fun e12 =>
  some (.inl ((w64 (x6 + 1)), (mset ltI m7 e12.1 e12.2)))
  else
  some (.inr m7)

noncomputable def F_bag_of_c2 (m10 : (List (Int × Int))) : Option (Unit ⊕ (List (Int × Int))) :=
  some (.inr m10)

noncomputable def F_bag_of (b1 : (List (Int × Int))) : Option (Unit ⊕ (List (Int × Int))) :=
  (F_bag_Right b1).bind fun x3 =>
  bif (!x3) then
  some (.inl ())
  else
  (loopM (fun st => F_bag_of_l1 b1 st.1 st.2) (0, ([] : (List (Int × Int))))).bind (fun q => F_bag_of_c2 q)

set_option maxRecDepth 100000 in
set_option maxHeartbeats 4000000 in
theorem F_bag_of_ok (b1 : (List (Int × Int))) {r : (Unit ⊕ (List (Int × Int)))} (h : F_bag_of b1 = some r) : ACalls Tryz.prog 70 [.sl 2 (b1.map row_A2I)] [] ((Sum.elim (fun q => (Gives (.tup [.lit (.map none), .b false]) [])) (fun q => (Gives (.tup [.map 30002, .b true]) [(30002, .map (mapV (V.i .i64) (V.i .i64) q))]))) r) := by
  refine ACalls.walk 24 Tryz.func70 rfl Tryz.ntmps70 rfl fun C hC => ?_
  unfold F_bag_of at h
  obtain ⟨x3, hx3, h⟩ := bindE h
  refine AK.go tab_ok hC [.n 10, .o (.c false [.d] (.b x3)), .n 3] rfl ⟨trivial, (F_bag_Right_ok _ hx3)⟩ ?_
  rcases bifE h with ⟨hc4, h⟩ | ⟨hc4, h⟩
  · refine AK.go tab_ok hC [.br true, .n 8, .keep [2, 3] []] rfl ⟨trivial, hc4⟩ ?_
    obtain rfl := Option.some.inj h
    refine AK.done ?_
    exact Exists.intro [_, _] (And.intro (And.intro rfl (And.intro rfl trivial)) (gives trivial))
  · refine AK.go tab_ok hC [.br false, .n 5, .sayO 10 (.map (mapV (V.i .i64) (V.i .i64) ([] : (List (Int × Int))))), .n 7, .o (.ln b1.length), .n 4, .keep [4, 11, 12, 13] [10]] rfl ⟨⟨⟨trivial, hc4⟩, rfl⟩, mapLen⟩ ?_
    obtain ⟨m10, hl13, h⟩ := bindE h
    refine AK.loop (body := (fun st => F_bag_of_l1 b1 st.1 st.2)) (fun st σ => σ = ⟨[(4, .map 10), (11, .sl 2 (b1.map row_A2I)), (12, .i .i64 (b1.length : Int)), (13, .i .i64 st.1)], [(10, .map (mapV (V.i .i64) (V.i .i64) st.2))]⟩) (fun q e σ => e = .exit 0 ∧ σ = ⟨[(4, .map 10)], [(10, .map (mapV (V.i .i64) (V.i .i64) q))]⟩) hl13 rfl ?_ ?_
    · rintro ⟨x6, m7⟩ o σ rfl h
      replace h : F_bag_of_l1 b1 x6 m7 = some o := h
      unfold F_bag_of_l1 at h
      refine AK.go tab_ok hC [.n 6] rfl trivial ?_
      rcases bifE h with ⟨hc11, h⟩ | ⟨hc11, h⟩
      · obtain ⟨e12, he12, h⟩ := bindE h
        refine AK.go tab_ok hC [.br true, .n 6, .o (.row (row_A2I e12)), .v .no [] (.agg (row_A2I e12)), .n 2, .sayO 6 (.var (row_A2I e12)), .n 8, .x (fun σ => σ.set 10 (.map (mapV (V.i .i64) (V.i .i64) (mset ltI m7 e12.1 e12.2)))), .n 7, .keep [4, 11, 12, 13] [10]] rfl ⟨⟨⟨⟨⟨trivial, hc11⟩, (idxM he12)⟩, rfl⟩, rfl⟩, (Stp.mapUpdate (e := (V.i .i64)) (f := (V.i .i64)) (l := m7) (k := e12.1) (v := e12.2) ltI rfl rfl rfl rfl rfl rfl mt_111 ky_3 rfl)⟩ ?_
        obtain rfl := Option.some.inj h
        exact rndN rfl rfl
      · refine AK.go tab_ok hC [.br false, .n 2, .keep [4] [10]] rfl ⟨trivial, hc11⟩ ?_
        obtain rfl := Option.some.inj h
        exact rndX rfl (And.intro rfl rfl)
    · replace h : F_bag_of_c2 m10 = some r := h
      unfold F_bag_of_c2 at h
      rintro e σ ⟨rfl, rfl⟩
      refine AK.go tab_ok hC [.n 10, .keep [2, 3] [10], .ren 10 30002, .keep [2, 3] [30002]] rfl trivial ?_
      obtain rfl := Option.some.inj h
      refine AK.done ?_
      exact Exists.intro [_, _] (And.intro (And.intro rfl (And.intro rfl trivial)) (gives ⟨rfl, trivial⟩))


end Go.Proofs
