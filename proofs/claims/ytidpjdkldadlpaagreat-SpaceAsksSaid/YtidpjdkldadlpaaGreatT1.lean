/- What functions of the program do, as functions over plain data, and the walks that show it: printed by a program. -/
import Derived.Test.YtidpjdkldadlpaaGreatXVm3
import Derived.Test.YtidpjdkldadlpaaGreatProg
set_option linter.unusedVariables false
set_option linter.unusedSimpArgs false
set_option linter.unusedSectionVars false
set_option linter.deprecated false
noncomputable section
namespace Go.Proofs
open Go Go.RowKit Go.Vm
-- types
structure TMode where
  Task : Int
  Vars : (List Int)
  Ins : (List Int)
  Outs : (List Int)

structure TEdge where
  From : Int
  To : Int
  Mode : TMode

structure TSpace where
  States : (List (List (List (Int × Int))))
  Edges : (List TEdge)
  Full : Bool

structure TColour where
  Name : ByteArray
  Kind : Int
  Lo : Int
  Hi : Int
  Names : (List ByteArray)
  First : Int
  Then : Int

structure TPlace where
  Name : ByteArray
  Colour : Int
  First : (List (Int × Int))

structure TVar where
  Name : ByteArray
  Colour : Int

structure TExpr where
  Kind : Int
  Num : Int
  Kids : (List TExpr)

structure TArc where
  Place : Int
  Expr : TExpr

structure TTask where
  Name : ByteArray
  Vars : (List TVar)
  Guard : TExpr
  Join : Int
  Split : Int
  Ins : (List TArc)
  Outs : (List TArc)
  Cancel : (List Int)
  After : Int
  Many : (Int × Int × Int)

structure TNet where
  Colours : (List TColour)
  Places : (List TPlace)
  Tasks : (List TTask)
  From : Int
  To : Int

structure Tbind_binder where
  net : TNet
  m : (List (List (Int × Int)))
  task : TTask
  env : (List Int)

structure Tcolour_set where
  all : (List TColour)
  sizes : (List Int)
  k : Int

def row_I (x : Int) : List V := [.i .i64 x]
theorem scaRows_I (l : List Int) : ∀ r ∈ l.map row_I, ∀ v ∈ r, v.sca = true := scaRows (fun _ => rfl) l

def row_A2I (x : (Int × Int)) : List V := [.i .i64 x.1, .i .i64 x.2]

def row_LA2I (x : (List (Int × Int))) : List V := [.sl 2 (x.map row_A2I)]

def row_LLA2I (x : (List (List (Int × Int)))) : List V := [.sl 1 (x.map row_LA2I)]

def row_LLLA2I (x : (List (List (List (Int × Int))))) : List V := [.sl 1 (x.map row_LLA2I)]

def row_LI (x : (List Int)) : List V := [.sl 1 (x.map row_I)]

def row_TMode (x : TMode) : List V := [.i .i64 x.Task, .sl 1 (x.Vars.map row_I), .sl 1 (x.Ins.map row_I), .sl 1 (x.Outs.map row_I)]

def row_TEdge (x : TEdge) : List V := [.i .i64 x.From, .i .i64 x.To, .i .i64 x.Mode.Task, .sl 1 (x.Mode.Vars.map row_I), .sl 1 (x.Mode.Ins.map row_I), .sl 1 (x.Mode.Outs.map row_I)]

def row_LTEdge (x : (List TEdge)) : List V := [.sl 6 (x.map row_TEdge)]

def row_B (x : Bool) : List V := [.b x]
def row_TSpace (x : TSpace) : List V := [.sl 1 (x.States.map row_LLA2I), .sl 6 (x.Edges.map row_TEdge), .b x.Full]

def row_S (x : ByteArray) : List V := [.s x]
def row_TColour (x : TColour) : List V := [.s x.Name, .i .i64 x.Kind, .i .i64 x.Lo, .i .i64 x.Hi, .sl 1 (x.Names.map row_S), .i .i64 x.First, .i .i64 x.Then]

def row_TPlace (x : TPlace) : List V := [.s x.Name, .i .i64 x.Colour, .sl 2 (x.First.map row_A2I)]

def row_TVar (x : TVar) : List V := [.s x.Name, .i .i64 x.Colour]

mutual
def rowX_TExpr : TExpr → List V
  | ⟨x0, x1, x2⟩ => [.i .i64 x0, .i .i64 x1, .sl 3 (rowL_TExpr x2)]
def rowL_TExpr : List TExpr → List (List V)
  | [] => []
  | e :: es => rowX_TExpr e :: rowL_TExpr es
end
def row_TExpr (x : TExpr) : List V := [.i .i64 x.Kind, .i .i64 x.Num, .sl 3 (rowL_TExpr x.Kids)]
theorem rowX_TExpr_eq : ∀ x : TExpr, rowX_TExpr x = row_TExpr x
  | ⟨x0, x1, x2⟩ => by rw [rowX_TExpr]; rfl
theorem rowL_TExpr_map : ∀ l : List TExpr, rowL_TExpr l = l.map row_TExpr
  | [] => by rw [rowL_TExpr]; rfl
  | e :: es => by rw [rowL_TExpr, rowL_TExpr_map es, rowX_TExpr_eq]; rfl
theorem lenR_TExpr (l : List TExpr) : (rowL_TExpr l).length = l.length := by rw [rowL_TExpr_map, List.length_map]
theorem idxR_TExpr {l : List TExpr} {j : Int} {x : TExpr} (h : idx l j = some x) : 0 ≤ j ∧ (rowL_TExpr l)[j.toNat]? = some (row_TExpr x) := by rw [rowL_TExpr_map]; exact idxM h
def row_TArc (x : TArc) : List V := [.i .i64 x.Place, .i .i64 x.Expr.Kind, .i .i64 x.Expr.Num, .sl 3 (rowL_TExpr x.Expr.Kids)]

def row_TTask (x : TTask) : List V := [.s x.Name, .sl 2 (x.Vars.map row_TVar), .i .i64 x.Guard.Kind, .i .i64 x.Guard.Num, .sl 3 (rowL_TExpr x.Guard.Kids), .i .i64 x.Join, .i .i64 x.Split, .sl 4 (x.Ins.map row_TArc), .sl 4 (x.Outs.map row_TArc), .sl 1 (x.Cancel.map row_I), .i .i64 x.After, .i .i64 x.Many.1, .i .i64 x.Many.2.1, .i .i64 x.Many.2.2]

def row_TNet (x : TNet) : List V := [.sl 7 (x.Colours.map row_TColour), .sl 3 (x.Places.map row_TPlace), .sl 14 (x.Tasks.map row_TTask), .i .i64 x.From, .i .i64 x.To]

def row_Iu8 (x : Int) : List V := [.i .u8 x]
def row_LLI (x : (List (List Int))) : List V := [.sl 1 (x.map row_LI)]

def row_Tbind_binder (x : Tbind_binder) : List V := [.sl 7 (x.net.Colours.map row_TColour), .sl 3 (x.net.Places.map row_TPlace), .sl 14 (x.net.Tasks.map row_TTask), .i .i64 x.net.From, .i .i64 x.net.To, .sl 1 (x.m.map row_LA2I), .s x.task.Name, .sl 2 (x.task.Vars.map row_TVar), .i .i64 x.task.Guard.Kind, .i .i64 x.task.Guard.Num, .sl 3 (rowL_TExpr x.task.Guard.Kids), .i .i64 x.task.Join, .i .i64 x.task.Split, .sl 4 (x.task.Ins.map row_TArc), .sl 4 (x.task.Outs.map row_TArc), .sl 1 (x.task.Cancel.map row_I), .i .i64 x.task.After, .i .i64 x.task.Many.1, .i .i64 x.task.Many.2.1, .i .i64 x.task.Many.2.2, .sl 1 (x.env.map row_I)]

def row_Tcolour_set (x : Tcolour_set) : List V := [.sl 7 (x.all.map row_TColour), .sl 1 (x.sizes.map row_I), .i .i64 x.k]

-- facts
noncomputable def LK_109_0 (fn : Nat) : LoopK := rfOf Tryz.f109 0 fn
noncomputable def LK_82_0 (fn : Nat) : LoopK := rfOf Tryz.f82 0 fn
def ren_comp : Go.Shelf.Ren := ⟨fun | 20 => 22 | n => n, fun | 0 => 0 | 3 => 3 | 4 => 4 | 22 => 31 | n => n, fun n => n⟩
theorem lays_comp : Lays2.n20 Tryz.prog ren_comp where
  mixed := by kernel_rfl
  f20 := Tryz.func22.trans (congrArg some (by kernel_rfl))
  t0 := Tryz.underlying0
  a0 := Tryz.isAgg0
  z0 := Tryz.sizeOf0
  v0 := Tryz.zeroValue0
  t3 := Tryz.underlying3
  a3 := Tryz.isAgg3
  z3 := Tryz.sizeOf3
  v3 := Tryz.zeroValue3
  t4 := Tryz.underlying4
  a4 := Tryz.isAgg4
  z4 := Tryz.sizeOf4
  v4 := Tryz.zeroValue4
  t22 := Tryz.underlying31
  a22 := Tryz.isAgg31
  z22 := Tryz.sizeOf31
  v22 := Tryz.zeroValue31
  i3 := by kernel_rfl
theorem eq_45 (a0 a1 b0 b1 : Int) : EqT Tryz.prog 45 [.int .i64 a0, .int .i64 a1] [.int .i64 b0, .int .i64 b1] ((a0 == b0) && (a1 == b1)) := by
  refine ⟨by kernel_rfl, fun w => ?_⟩
  have u3 := Tryz.underlying3
  have g3 := Tryz.isAgg3
  have z3 := Tryz.sizeOf3
  show (Op.equalIn (9999 + 1) 45 (.agg #[.int .i64 a0, .int .i64 a1]) (.agg #[.int .i64 b0, .int .i64 b1])).run Tryz.prog w = _
  rw [Op.equalIn]
  simp only [Sem.run_bind, run_underlying Tryz.underlying45, Result.andThen_ok]
  simp only [Std.Legacy.Range.forIn_eq_forIn_range', Std.Legacy.Range.size, Nat.sub_zero, Nat.add_sub_cancel, Nat.div_one, List.range'_succ, List.range'_zero, List.forIn_cons, List.forIn_nil]
  go_simp
  by_cases h0 : a0 = b0 <;> by_cases h1 : a1 = b1 <;> simp [h0, h1]
theorem it_3 : intT Tryz.prog 3 .i64 = true := by kernel_rfl
theorem it_5 : intT Tryz.prog 5 .u8 = true := by kernel_rfl
theorem ky_3 : KeyOf Tryz.prog 3 (V.i .i64) (Value.int .i64) := KeyOf.int (by kernel_rfl)
theorem ky_9 : KeyOf Tryz.prog 9 V.s Value.string := KeyOf.str (by kernel_rfl)
theorem mixed : Tryz.prog.follows .mixedOrders = true := by kernel_rfl
theorem mt_117 : mapT Tryz.prog 117 = some (3, 3) := by kernel_rfl
theorem mt_180 : mapT Tryz.prog 180 = some (9, 4) := by kernel_rfl
theorem mt_58 : mapT Tryz.prog 58 = some (3, 3) := by kernel_rfl
theorem mt_85 : mapT Tryz.prog 85 = some (3, 31) := by kernel_rfl
theorem mt_87 : mapT Tryz.prog 87 = some (9, 3) := by kernel_rfl
theorem nz_31 : nilZ Tryz.prog 31 = true := by kernel_rfl
def ren_sort : Go.Shelf.Ren := ⟨fun | 125 => 34 | 128 => 55 | 129 => 56 | 189 => 21 | 215 => 71 | 216 => 52 | 257 => 33 | 294 => 46 | 295 => 47 | 296 => 48 | 297 => 49 | 298 => 50 | 299 => 51 | 300 => 53 | 301 => 54 | 328 => 66 | 329 => 67 | 330 => 68 | 331 => 69 | 332 => 70 | 343 => 80 | n => n, fun | 0 => 0 | 3 => 3 | 4 => 4 | 5 => 5 | 9 => 9 | 28 => 31 | 46 => 84 | 51 => 108 | 53 => 110 | 131 => 60 | 182 => 100 | 183 => 101 | 218 => 122 | 222 => 126 | 228 => 139 | 229 => 140 | n => n, fun n => n⟩
theorem lays_sort : Lays.n189 Tryz.prog ren_sort where
  mixed := by kernel_rfl
  f125 := Tryz.func34.trans (congrArg some (by kernel_rfl))
  f128 := Tryz.func55.trans (congrArg some (by kernel_rfl))
  f129 := Tryz.func56.trans (congrArg some (by kernel_rfl))
  f189 := Tryz.func21.trans (congrArg some (by kernel_rfl))
  f215 := Tryz.func71.trans (congrArg some (by kernel_rfl))
  f216 := Tryz.func52.trans (congrArg some (by kernel_rfl))
  f257 := Tryz.func33.trans (congrArg some (by kernel_rfl))
  f294 := Tryz.func46.trans (congrArg some (by kernel_rfl))
  f295 := Tryz.func47.trans (congrArg some (by kernel_rfl))
  f296 := Tryz.func48.trans (congrArg some (by kernel_rfl))
  f297 := Tryz.func49.trans (congrArg some (by kernel_rfl))
  f298 := Tryz.func50.trans (congrArg some (by kernel_rfl))
  f299 := Tryz.func51.trans (congrArg some (by kernel_rfl))
  f300 := Tryz.func53.trans (congrArg some (by kernel_rfl))
  f301 := Tryz.func54.trans (congrArg some (by kernel_rfl))
  f328 := Tryz.func66.trans (congrArg some (by kernel_rfl))
  f329 := Tryz.func67.trans (congrArg some (by kernel_rfl))
  f330 := Tryz.func68.trans (congrArg some (by kernel_rfl))
  f331 := Tryz.func69.trans (congrArg some (by kernel_rfl))
  f332 := Tryz.func70.trans (congrArg some (by kernel_rfl))
  f343 := Tryz.func80.trans (congrArg some (by kernel_rfl))
  t0 := Tryz.underlying0
  a0 := Tryz.isAgg0
  z0 := Tryz.sizeOf0
  v0 := Tryz.zeroValue0
  t3 := Tryz.underlying3
  a3 := Tryz.isAgg3
  z3 := Tryz.sizeOf3
  v3 := Tryz.zeroValue3
  t4 := Tryz.underlying4
  a4 := Tryz.isAgg4
  z4 := Tryz.sizeOf4
  v4 := Tryz.zeroValue4
  t5 := Tryz.underlying5
  a5 := Tryz.isAgg5
  z5 := Tryz.sizeOf5
  v5 := Tryz.zeroValue5
  t9 := Tryz.underlying9
  a9 := Tryz.isAgg9
  z9 := Tryz.sizeOf9
  v9 := Tryz.zeroValue9
  t28 := Tryz.underlying31
  a28 := Tryz.isAgg31
  z28 := Tryz.sizeOf31
  v28 := Tryz.zeroValue31
  t46 := Tryz.underlying84
  a46 := Tryz.isAgg84
  z46 := Tryz.sizeOf84
  v46 := Tryz.zeroValue84
  t51 := Tryz.underlying108
  a51 := Tryz.isAgg108
  z51 := Tryz.sizeOf108
  v51 := Tryz.zeroValue108
  t53 := Tryz.underlying110
  a53 := Tryz.isAgg110
  z53 := Tryz.sizeOf110
  v53 := Tryz.zeroValue110
  t131 := Tryz.underlying60
  a131 := Tryz.isAgg60
  z131 := Tryz.sizeOf60
  v131 := Tryz.zeroValue60
  t182 := Tryz.underlying100
  a182 := Tryz.isAgg100
  z182 := Tryz.sizeOf100
  v182 := Tryz.zeroValue100
  t183 := Tryz.underlying101
  a183 := Tryz.isAgg101
  z183 := Tryz.sizeOf101
  v183 := Tryz.zeroValue101
  t218 := Tryz.underlying122
  a218 := Tryz.isAgg122
  z218 := Tryz.sizeOf122
  v218 := Tryz.zeroValue122
  t222 := Tryz.underlying126
  a222 := Tryz.isAgg126
  z222 := Tryz.sizeOf126
  v222 := Tryz.zeroValue126
  t228 := Tryz.underlying139
  a228 := Tryz.isAgg139
  z228 := Tryz.sizeOf139
  v228 := Tryz.zeroValue139
  t229 := Tryz.underlying140
  a229 := Tryz.isAgg140
  z229 := Tryz.sizeOf140
  v229 := Tryz.zeroValue140
theorem un_128 : Tryz.prog.underlying 128 = some (.slice 5) := by kernel_rfl
theorem un_148 : Tryz.prog.underlying 148 = some (.slice 31) := by kernel_rfl
theorem un_27 : Tryz.prog.underlying 27 = some (.slice 47) := by kernel_rfl
theorem un_31 : Tryz.prog.underlying 31 = some (.slice 3) := by kernel_rfl
theorem un_47 : Tryz.prog.underlying 47 = some (.slice 45) := by kernel_rfl
theorem zi_3 : ZeroIs Tryz.prog 3 ((V.i .i64) 0) := ZeroIs.one (v := .int .i64 0) (by kernel_rfl)
theorem zi_31 : ZeroIs Tryz.prog 31 ((fun x => V.sl 1 (x.map row_I)) ([] : (List Int))) := ZeroIs.sl (by kernel_rfl)
theorem zi_4 : ZeroIs Tryz.prog 4 (V.b false) := ZeroIs.one (v := .bool false) (by kernel_rfl)
theorem zv_3 : zeroV Tryz.prog 3 = some [.i .i64 0] := by kernel_rfl
theorem zv_5 : zeroV Tryz.prog 5 = some [.i .u8 0] := by kernel_rfl
theorem zv_9 : zeroV Tryz.prog 9 = some [.s (⟨#[]⟩ : ByteArray)] := by kernel_rfl
theorem zv_25 : zeroV Tryz.prog 25 = some [.lit (.slice none 0 0), .lit (.slice none 0 0), .b false] := by kernel_rfl
theorem zv_27 : zeroV Tryz.prog 27 = some [.lit (.slice none 0 0)] := by kernel_rfl
theorem zv_31 : zeroV Tryz.prog 31 = some [.lit (.slice none 0 0)] := by kernel_rfl
theorem zv_35 : zeroV Tryz.prog 35 = some [.lit (.slice none 0 0)] := by kernel_rfl
theorem zv_42 : zeroV Tryz.prog 42 = some [.lit (.slice none 0 0), .lit (.slice none 0 0), .lit (.slice none 0 0), .i .i64 0, .i .i64 0] := by kernel_rfl
theorem zv_45 : zeroV Tryz.prog 45 = some [.i .i64 0, .i .i64 0] := by kernel_rfl
theorem zv_47 : zeroV Tryz.prog 47 = some [.lit (.slice none 0 0)] := by kernel_rfl
theorem zv_52 : zeroV Tryz.prog 52 = some [.i .i64 0, .lit (.slice none 0 0), .lit (.slice none 0 0), .lit (.slice none 0 0)] := by kernel_rfl
theorem zv_54 : zeroV Tryz.prog 54 = some [.i .i64 0, .i .i64 0, .i .i64 0, .lit (.slice none 0 0), .lit (.slice none 0 0), .lit (.slice none 0 0)] := by kernel_rfl
theorem zv_58 : zeroV Tryz.prog 58 = some [.lit (.map none)] := by kernel_rfl
theorem zv_65 : zeroV Tryz.prog 65 = some [.i .i64 0, .i .i64 0, .lit (.slice none 0 0)] := by kernel_rfl
theorem zv_68 : zeroV Tryz.prog 68 = some [.s (⟨#[]⟩ : ByteArray), .i .i64 0, .i .i64 0, .i .i64 0, .lit (.slice none 0 0), .i .i64 0, .i .i64 0] := by kernel_rfl
theorem zv_70 : zeroV Tryz.prog 70 = some [.s (⟨#[]⟩ : ByteArray), .i .i64 0, .lit (.slice none 0 0)] := by kernel_rfl
theorem zv_72 : zeroV Tryz.prog 72 = some [.i .i64 0, .i .i64 0, .i .i64 0, .lit (.slice none 0 0)] := by kernel_rfl
theorem zv_77 : zeroV Tryz.prog 77 = some [.s (⟨#[]⟩ : ByteArray), .lit (.slice none 0 0), .i .i64 0, .i .i64 0, .lit (.slice none 0 0), .i .i64 0, .i .i64 0, .lit (.slice none 0 0), .lit (.slice none 0 0), .lit (.slice none 0 0), .i .i64 0, .i .i64 0, .i .i64 0, .i .i64 0] := by kernel_rfl
theorem zv_89 : zeroV Tryz.prog 89 = some [.lit (.slice none 0 0), .lit (.slice none 0 0), .lit (.slice none 0 0), .i .i64 0, .i .i64 0, .i .i64 0, .lit (.map none), .lit (.slice none 0 0), .lit (.slice none 0 0), .b false] := by kernel_rfl
theorem zv_148 : zeroV Tryz.prog 148 = some [.lit (.slice none 0 0)] := by kernel_rfl
theorem zv_154 : zeroV Tryz.prog 154 = some [.lit (.slice none 0 0), .lit (.slice none 0 0), .lit (.slice none 0 0), .i .i64 0, .i .i64 0, .lit (.slice none 0 0), .s (⟨#[]⟩ : ByteArray), .lit (.slice none 0 0), .i .i64 0, .i .i64 0, .lit (.slice none 0 0), .i .i64 0, .i .i64 0, .lit (.slice none 0 0), .lit (.slice none 0 0), .lit (.slice none 0 0), .i .i64 0, .i .i64 0, .i .i64 0, .i .i64 0, .lit (.slice none 0 0)] := by kernel_rfl
theorem zv_174 : zeroV Tryz.prog 174 = some [.s (⟨#[]⟩ : ByteArray), .i .i64 0] := by kernel_rfl
theorem zv_183 : zeroV Tryz.prog 183 = some [.lit (.slice none 0 0), .lit (.slice none 0 0), .i .i64 0] := by kernel_rfl
def tab : Tab := { ag := [(3, false), (4, false), (9, false), (22, false), (23, false), (25, true), (27, false), (31, false), (35, false), (38, false), (39, false), (40, false), (42, true), (45, true), (47, false), (52, true), (54, true), (58, false), (63, false), (65, true), (66, false), (68, true), (70, true), (73, false), (74, false), (77, true), (87, false), (117, false), (148, false), (154, true), (174, true), (183, true)], sz := [(3, 1), (4, 1), (22, 1), (23, 1), (25, 3), (31, 1), (35, 1), (42, 5), (45, 2), (47, 1), (52, 4), (54, 6), (58, 1), (65, 3), (68, 7), (70, 3), (77, 14), (148, 1), (154, 21), (174, 2), (183, 3)], fo := [(25, [0, 1, 2]), (42, [0, 1, 2, 3, 4]), (52, [0, 1, 2, 3]), (54, [0, 1, 2]), (65, [0, 1, 2]), (68, [0, 1, 2, 3, 4, 5, 6]), (70, [0, 1, 2]), (72, [0, 1]), (77, [0, 1, 2, 5, 6, 7, 8, 9, 10, 11]), (89, [0, 5, 6, 7]), (154, [0, 5, 6, 20]), (174, [0, 1]), (183, [0, 1, 2])], sp := [(42, [(0, 1), (1, 1), (2, 1), (3, 1), (4, 1)]), (52, [(0, 1), (1, 1), (2, 1), (3, 1)]), (54, [(0, 1), (1, 1), (2, 4)]), (65, [(0, 1), (1, 1), (2, 1)]), (68, [(0, 1), (1, 1), (2, 1), (3, 1), (4, 1), (5, 1), (6, 1)]), (70, [(0, 1), (1, 1), (2, 1)]), (72, [(0, 1), (1, 3)]), (77, [(0, 1), (1, 1), (2, 3), (5, 1), (6, 1), (7, 1), (8, 1), (9, 1), (10, 1), (11, 3)]), (89, [(0, 5), (5, 1), (6, 1), (7, 3)]), (154, [(0, 5), (5, 1), (6, 14), (20, 1)]), (183, [(0, 1), (1, 1), (2, 1)])], es := [(22, (27, 1, 24)), (23, (54, 6, 96)), (27, (47, 1, 24)), (31, (3, 1, 8)), (35, (52, 4, 80)), (38, (68, 7, 80)), (39, (70, 3, 48)), (40, (77, 14, 200)), (47, (45, 2, 16)), (63, (65, 3, 40)), (66, (9, 1, 16)), (73, (72, 4, 48)), (74, (174, 2, 24)), (128, (5, 1, 1)), (148, (31, 1, 24))], ar := [(45, (2, 1))], zv := [(3, [.i .i64 0]), (5, [.i .u8 0]), (9, [.s (⟨#[]⟩ : ByteArray)]), (25, [.lit (.slice none 0 0), .lit (.slice none 0 0), .b false]), (27, [.lit (.slice none 0 0)]), (31, [.lit (.slice none 0 0)]), (35, [.lit (.slice none 0 0)]), (42, [.lit (.slice none 0 0), .lit (.slice none 0 0), .lit (.slice none 0 0), .i .i64 0, .i .i64 0]), (45, [.i .i64 0, .i .i64 0]), (47, [.lit (.slice none 0 0)]), (52, [.i .i64 0, .lit (.slice none 0 0), .lit (.slice none 0 0), .lit (.slice none 0 0)]), (54, [.i .i64 0, .i .i64 0, .i .i64 0, .lit (.slice none 0 0), .lit (.slice none 0 0), .lit (.slice none 0 0)]), (58, [.lit (.map none)]), (65, [.i .i64 0, .i .i64 0, .lit (.slice none 0 0)]), (68, [.s (⟨#[]⟩ : ByteArray), .i .i64 0, .i .i64 0, .i .i64 0, .lit (.slice none 0 0), .i .i64 0, .i .i64 0]), (70, [.s (⟨#[]⟩ : ByteArray), .i .i64 0, .lit (.slice none 0 0)]), (72, [.i .i64 0, .i .i64 0, .i .i64 0, .lit (.slice none 0 0)]), (77, [.s (⟨#[]⟩ : ByteArray), .lit (.slice none 0 0), .i .i64 0, .i .i64 0, .lit (.slice none 0 0), .i .i64 0, .i .i64 0, .lit (.slice none 0 0), .lit (.slice none 0 0), .lit (.slice none 0 0), .i .i64 0, .i .i64 0, .i .i64 0, .i .i64 0]), (89, [.lit (.slice none 0 0), .lit (.slice none 0 0), .lit (.slice none 0 0), .i .i64 0, .i .i64 0, .i .i64 0, .lit (.map none), .lit (.slice none 0 0), .lit (.slice none 0 0), .b false]), (148, [.lit (.slice none 0 0)]), (154, [.lit (.slice none 0 0), .lit (.slice none 0 0), .lit (.slice none 0 0), .i .i64 0, .i .i64 0, .lit (.slice none 0 0), .s (⟨#[]⟩ : ByteArray), .lit (.slice none 0 0), .i .i64 0, .i .i64 0, .lit (.slice none 0 0), .i .i64 0, .i .i64 0, .lit (.slice none 0 0), .lit (.slice none 0 0), .lit (.slice none 0 0), .i .i64 0, .i .i64 0, .i .i64 0, .i .i64 0, .lit (.slice none 0 0)]), (174, [.s (⟨#[]⟩ : ByteArray), .i .i64 0]), (183, [.lit (.slice none 0 0), .lit (.slice none 0 0), .i .i64 0])], sb := [9], bo := [], cc := [], en := [4, 5, 6, 7, 8, 9, 10, 11, 12, 13, 14, 15, 16, 17, 18, 19, 20, 21, 22, 23, 24, 25, 26, 27, 28, 29, 30, 31, 32, 35, 36, 37, 38, 39, 40, 41, 42, 43, 44, 45, 57, 58, 59, 60, 61, 62, 63, 64, 65, 72, 73, 74, 75, 76, 77, 78, 79, 81, 82, 83, 85, 86, 87, 88, 89, 90, 91, 92, 93, 94, 95, 96, 97, 98, 99, 100, 101, 106, 107, 108, 109, 110, 112, 113, 114, 116, 117, 118, 121, 122, 123, 124, 125, 127, 128, 129, 130, 131, 132, 133, 134, 135, 136, 138, 139, 140, 146, 147, 148] }
theorem tab_ok : TabOk Tryz.prog tab := Tab.ok (by kernel_rfl) (List.forall_mem_cons.2 ⟨zv_3, List.forall_mem_cons.2 ⟨zv_5, List.forall_mem_cons.2 ⟨zv_9, List.forall_mem_cons.2 ⟨zv_25, List.forall_mem_cons.2 ⟨zv_27, List.forall_mem_cons.2 ⟨zv_31, List.forall_mem_cons.2 ⟨zv_35, List.forall_mem_cons.2 ⟨zv_42, List.forall_mem_cons.2 ⟨zv_45, List.forall_mem_cons.2 ⟨zv_47, List.forall_mem_cons.2 ⟨zv_52, List.forall_mem_cons.2 ⟨zv_54, List.forall_mem_cons.2 ⟨zv_58, List.forall_mem_cons.2 ⟨zv_65, List.forall_mem_cons.2 ⟨zv_68, List.forall_mem_cons.2 ⟨zv_70, List.forall_mem_cons.2 ⟨zv_72, List.forall_mem_cons.2 ⟨zv_77, List.forall_mem_cons.2 ⟨zv_89, List.forall_mem_cons.2 ⟨zv_148, List.forall_mem_cons.2 ⟨zv_154, List.forall_mem_cons.2 ⟨zv_174, List.forall_mem_cons.2 ⟨zv_183, fun _ h => (by cases h)⟩⟩⟩⟩⟩⟩⟩⟩⟩⟩⟩⟩⟩⟩⟩⟩⟩⟩⟩⟩⟩⟩⟩)
-- 15 baldric/baldriclaw15.net
noncomputable def F_law15_net  : Option TNet :=
  some (TNet.mk ([(TColour.mk (⟨#[110]⟩ : ByteArray) 2 0 0 ([(⟨#[107]⟩ : ByteArray)] : List ByteArray) 0 0)] : List TColour) ([(TPlace.mk (⟨#[97]⟩ : ByteArray) 0 ([] : (List (Int × Int)))), (TPlace.mk (⟨#[98]⟩ : ByteArray) 0 ([] : (List (Int × Int))))] : List TPlace) ([(TTask.mk (⟨#[116]⟩ : ByteArray) ([] : (List TVar)) (TExpr.mk 1 1 ([] : (List TExpr))) 1 1 ([(TArc.mk 0 (TExpr.mk 1 0 ([] : (List TExpr))))] : List TArc) ([(TArc.mk 1 (TExpr.mk 1 0 ([] : (List TExpr))))] : List TArc) ([] : (List Int)) 0 (0, 0, 0))] : List TTask) 0 1)

set_option maxRecDepth 100000 in
set_option maxHeartbeats 4000000 in
theorem F_law15_net_ok  {r : TNet} (h : F_law15_net  = some r) : ACalls Tryz.prog 15 [] [] (Gives (.agg (row_TNet r)) []) := by
  refine ACalls.walk 21 Tryz.func15 rfl Tryz.ntmps15 rfl fun C hC => ?_
  unfold F_law15_net at h
  refine AK.go tab_ok hC [.n 7, .v .no [none, none, some 3] (.agg (row_TExpr (TExpr.mk 1 0 ([] : (List TExpr))))), .n 2, .sayO 1 (.var (row_TExpr (TExpr.mk 1 0 ([] : (List TExpr))))), .n 4, .v .no [none, none, some 3] (.agg (row_TExpr (TExpr.mk 1 1 ([] : (List TExpr))))), .n 2, .sayO 2 (.var (row_TExpr (TExpr.mk 1 1 ([] : (List TExpr))))), .n 4, .v (.bd []) [] (.sl 1 (([(⟨#[107]⟩ : ByteArray)] : List ByteArray).map row_S)), .v .no [] (.agg (row_TColour (TColour.mk (⟨#[110]⟩ : ByteArray) 2 0 0 ([(⟨#[107]⟩ : ByteArray)] : List ByteArray) 0 0))), .v (.bd []) [] (.sl 7 (([(TColour.mk (⟨#[110]⟩ : ByteArray) 2 0 0 ([(⟨#[107]⟩ : ByteArray)] : List ByteArray) 0 0)] : List TColour).map row_TColour)), .v .no [none, none, some 2] (.agg (row_TPlace (TPlace.mk (⟨#[97]⟩ : ByteArray) 0 ([] : (List (Int × Int)))))), .v .no [none, none, some 2] (.agg (row_TPlace (TPlace.mk (⟨#[98]⟩ : ByteArray) 0 ([] : (List (Int × Int)))))), .v (.bd []) [] (.sl 3 (([(TPlace.mk (⟨#[97]⟩ : ByteArray) 0 ([] : (List (Int × Int)))), (TPlace.mk (⟨#[98]⟩ : ByteArray) 0 ([] : (List (Int × Int))))] : List TPlace).map row_TPlace)), .v .no [] (.agg (row_TExpr (TExpr.mk 1 1 ([] : (List TExpr))))), .v .no [] (.agg (row_TExpr (TExpr.mk 1 0 ([] : (List TExpr))))), .v .no [] (.agg (row_TArc (TArc.mk 0 (TExpr.mk 1 0 ([] : (List TExpr)))))), .v (.bd []) [] (.sl 4 (([(TArc.mk 0 (TExpr.mk 1 0 ([] : (List TExpr))))] : List TArc).map row_TArc)), .v .no [] (.agg (row_TExpr (TExpr.mk 1 0 ([] : (List TExpr))))), .v .no [] (.agg (row_TArc (TArc.mk 1 (TExpr.mk 1 0 ([] : (List TExpr)))))), .v (.bd []) [] (.sl 4 (([(TArc.mk 1 (TExpr.mk 1 0 ([] : (List TExpr))))] : List TArc).map row_TArc)), .v .no [none, some 2, none, none, none, none, none, none, none, some 1, none, none, none, none] (.agg (row_TTask (TTask.mk (⟨#[116]⟩ : ByteArray) ([] : (List TVar)) (TExpr.mk 1 1 ([] : (List TExpr))) 1 1 ([(TArc.mk 0 (TExpr.mk 1 0 ([] : (List TExpr))))] : List TArc) ([(TArc.mk 1 (TExpr.mk 1 0 ([] : (List TExpr))))] : List TArc) ([] : (List Int)) 0 (0, 0, 0)))), .v (.bd []) [] (.sl 14 (([(TTask.mk (⟨#[116]⟩ : ByteArray) ([] : (List TVar)) (TExpr.mk 1 1 ([] : (List TExpr))) 1 1 ([(TArc.mk 0 (TExpr.mk 1 0 ([] : (List TExpr))))] : List TArc) ([(TArc.mk 1 (TExpr.mk 1 0 ([] : (List TExpr))))] : List TArc) ([] : (List Int)) 0 (0, 0, 0))] : List TTask).map row_TTask)), .v .no [] (.agg (row_TNet (TNet.mk ([(TColour.mk (⟨#[110]⟩ : ByteArray) 2 0 0 ([(⟨#[107]⟩ : ByteArray)] : List ByteArray) 0 0)] : List TColour) ([(TPlace.mk (⟨#[97]⟩ : ByteArray) 0 ([] : (List (Int × Int)))), (TPlace.mk (⟨#[98]⟩ : ByteArray) 0 ([] : (List (Int × Int))))] : List TPlace) ([(TTask.mk (⟨#[116]⟩ : ByteArray) ([] : (List TVar)) (TExpr.mk 1 1 ([] : (List TExpr))) 1 1 ([(TArc.mk 0 (TExpr.mk 1 0 ([] : (List TExpr))))] : List TArc) ([(TArc.mk 1 (TExpr.mk 1 0 ([] : (List TExpr))))] : List TArc) ([] : (List Int)) 0 (0, 0, 0))] : List TTask) 0 1))), .n 1, .sayO 0 (.var (row_TNet (TNet.mk ([(TColour.mk (⟨#[110]⟩ : ByteArray) 2 0 0 ([(⟨#[107]⟩ : ByteArray)] : List ByteArray) 0 0)] : List TColour) ([(TPlace.mk (⟨#[97]⟩ : ByteArray) 0 ([] : (List (Int × Int)))), (TPlace.mk (⟨#[98]⟩ : ByteArray) 0 ([] : (List (Int × Int))))] : List TPlace) ([(TTask.mk (⟨#[116]⟩ : ByteArray) ([] : (List TVar)) (TExpr.mk 1 1 ([] : (List TExpr))) 1 1 ([(TArc.mk 0 (TExpr.mk 1 0 ([] : (List TExpr))))] : List TArc) ([(TArc.mk 1 (TExpr.mk 1 0 ([] : (List TExpr))))] : List TArc) ([] : (List Int)) 0 (0, 0, 0))] : List TTask) 0 1))), .n 3, .keep [0] [0]] rfl ⟨⟨⟨⟨⟨⟨⟨⟨⟨⟨⟨⟨⟨⟨⟨⟨⟨⟨⟨⟨⟨trivial, rfl⟩, rfl⟩, rfl⟩, rfl⟩, rfl⟩, rfl⟩, rfl⟩, rfl⟩, rfl⟩, rfl⟩, rfl⟩, rfl⟩, rfl⟩, rfl⟩, rfl⟩, rfl⟩, rfl⟩, rfl⟩, rfl⟩, rfl⟩, rfl⟩ ?_
  obtain rfl := Option.some.inj h
  refine AK.done ?_
  exact Exists.intro [_] (And.intro (And.intro (Exists.intro _ (Exists.intro _ (And.intro rfl (And.intro rfl (Or.inl (And.intro (tab_ok.ag rfl) (And.intro (tab_ok.sz rfl) rfl))))))) trivial) (gives trivial))

-- 40 slices.Clone[baldric/api.Bag,[2]int]
noncomputable def F_slices_Clone_api_Bag_2_int (s1 : (List (Int × Int))) : Option (List (Int × Int)) :=
  (chk (decide (([] : List (Int × Int)).length + s1.length ≤ 4294967296))).bind fun _ =>
  some (([] : List (Int × Int)) ++ s1)

set_option maxRecDepth 100000 in
set_option maxHeartbeats 4000000 in
theorem F_slices_Clone_api_Bag_2_int_ok (s1 : (List (Int × Int))) {r : (List (Int × Int))} (h : F_slices_Clone_api_Bag_2_int s1 = some r) : ACalls Tryz.prog 40 [.sl 2 (s1.map row_A2I)] [] (Gives (.own 30000 r.length) [(30000, .arr 2 (r.map row_A2I))]) := by
  refine ACalls.walk 8 Tryz.func40 rfl Tryz.ntmps40 rfl fun C hC => ?_
  unfold F_slices_Clone_api_Bag_2_int at h
  refine AK.go tab_ok hC [.n 9] rfl trivial ?_
  refine AK.eqNil rfl rfl rfl (hC ▸ rfl) rfl rfl un_47 ?_ ?_
  · intro hz4
    replace h : some ([] : List (Int × Int)) = some r := by simpa [chk, List.map_eq_nil_iff.1 hz4] using h
    refine AK.go tab_ok hC [.n 10, .adopt 2 30000 2, .sayO 30000 (.arr 2 (([] : List (Int × Int)).map row_A2I)), .say 2 (.own 30000 ([] : List (Int × Int)).length), .keep [2] [30000]] rfl ⟨⟨trivial, rfl⟩, rfl⟩ ?_
    obtain rfl := Option.some.inj h
    refine AK.done ?_
    exact Exists.intro [_] (And.intro (And.intro rfl trivial) (gives ⟨rfl, trivial⟩))
  · obtain ⟨_, hk5, h⟩ := bindE h
    replace hk5 := chkE hk5
    refine AK.go tab_ok hC [.n 8, .sayO 5 (.arr 2 (([] : List (Int × Int)).map row_A2I)), .say 5 (.own 5 ([] : List (Int × Int)).length), .n 1, .app ((([] : List (Int × Int)) ++ s1).map row_A2I) (([] : List (Int × Int)) ++ s1).length, .n 4, .keep [2] [5], .ren 5 30000, .keep [2] [30000]] rfl ⟨⟨⟨trivial, rfl⟩, rfl⟩, ⟨mapLen, appLim hk5 mapLen, mapApps, appLn mapLen⟩⟩ ?_
    obtain rfl := Option.some.inj h
    refine AK.done ?_
    exact Exists.intro [_] (And.intro (And.intro rfl trivial) (gives ⟨rfl, trivial⟩))

-- 79 maps.Keys[baldric/bag.counts,int,int]
noncomputable def F_maps_Keys_bag_counts_int_int (m1 : (List (Int × Int))) : Option Unit :=
  some ()

set_option maxRecDepth 100000 in
set_option maxHeartbeats 4000000 in
theorem F_maps_Keys_bag_counts_int_int_ok (m1 : (List (Int × Int))) {r : Unit} (h : F_maps_Keys_bag_counts_int_int m1 = some r) : ACalls Tryz.prog 79 [.map 200000] [(200000, .map (mapV (V.i .i64) (V.i .i64) m1))] (Gives (.clo (.func 90) [] [.loc 1 0 0]) [(1, .var [.map 200000]), (200000, .map (mapV (V.i .i64) (V.i .i64) m1))]) := by
  refine ACalls.walk 4 Tryz.func79 rfl Tryz.ntmps79 rfl fun C hC => ?_
  unfold F_maps_Keys_bag_counts_int_int at h
  refine AK.go tab_ok hC [.n 13, .keep [2] [1, 200000]] rfl trivial ?_
  obtain rfl := Option.some.inj h
  refine AK.done ?_
  exact Exists.intro [_] (And.intro (And.intro rfl trivial) (gives ⟨rfl, rfl, trivial⟩))

-- 109 slices.AppendSeq[[]int,int]
noncomputable def F_slices_AppendSeq_int_int_v2_round (l1 : (List Int)) (p2 : Int) : Option (List Int) :=
  (chk (decide (l1.length + ([p2] : List Int).length ≤ 4294967296))).bind fun _ =>
  some (l1 ++ ([p2] : List Int))

set_option maxRecDepth 100000 in
set_option maxHeartbeats 4000000 in
theorem F_slices_AppendSeq_int_int_v2_round_ok (lpl lpf : Nat) (l1 : (List Int)) (p2 : Int) {r : (List Int)} (h : F_slices_AppendSeq_int_int_v2_round l1 p2 = some r) : ARound Tryz.prog lpl (LK_109_0 lpf) [.junk, .junk, .loc 200001 0 0, .junk, .junk, .junk, .junk, .i .i64 p2, .junk, .junk, .junk, .junk, .junk] [(200000, .lp lpl (LK_109_0 lpf) [.junk, .junk, .loc 200001 0 0, .junk, .junk, .junk, .junk, .junk, .junk, .junk, .junk, .junk, .junk] 0), (200001, .var [.own 100000 l1.length]), (100000, .arr 1 (l1.map row_I))] (Gives (.b true) [(100000, .arr 1 (r.map row_I)), (200000, .lp lpl (LK_109_0 lpf) [.junk, .junk, .loc 200001 0 0, .junk, .junk, .junk, .junk, .junk, .junk, .junk, .junk, .junk, .junk] 0), (200001, .var [.own 100000 r.length])]) := by
  refine ARound.walk (b := 200000) 13 rfl rfl fun C hC => ?_
  unfold F_slices_AppendSeq_int_int_v2_round at h
  refine AK.go tab_ok hC [.n 3] rfl trivial ?_
  refine AK.done (And.intro rfl (Exists.intro _ (And.intro rfl ?_)))
  obtain ⟨_, hk4, h⟩ := bindE h
  replace hk4 := chkE hk4
  refine AK.go tab_ok hC [.n 4, .v (.bd []) [] (.sl 1 (([p2] : List Int).map row_I)), .app ((l1 ++ ([p2] : List Int)).map row_I) (l1 ++ ([p2] : List Int)).length, .n 1, .sayO 200001 (.var [.own 100000 (l1 ++ ([p2] : List Int)).length]), .n 2, .keep [] [100000, 200000, 200001]] rfl ⟨⟨⟨trivial, rfl⟩, ⟨mapLen, appLim hk4 mapLen, mapApps, appLn mapLen⟩⟩, rfl⟩ ?_
  obtain rfl := Option.some.inj h
  refine AK.done ?_
  exact Exists.intro _ (And.intro rfl (gives ⟨rfl, rfl, rfl, trivial⟩))

-- 90 maps.Keys[baldric/bag.counts,int,int]$1
noncomputable def F_maps_Keys_bag_counts_int_int_1_m1 (l6 : (List Int)) (k8 : Int) (v9 : Int) : Option ((List Int) ⊕ Empty) :=
  (F_slices_AppendSeq_int_int_v2_round l6 k8).bind fun x10 =>
  some (.inl x10)

noncomputable def F_maps_Keys_bag_counts_int_int_1_c2 (l6 : (List Int)) : Option (List Int) :=
  some l6

noncomputable def F_maps_Keys_bag_counts_int_int_1 (l1 : (List Int)) (m2 : (List (Int × Int))) : Option (List Int) :=
  (rangeM (fun st p => F_maps_Keys_bag_counts_int_int_1_m1 st p.1 p.2) l1 m2).bind (Sum.elim (fun q => F_maps_Keys_bag_counts_int_int_1_c2 q) (fun q => Empty.elim q))

set_option maxRecDepth 100000 in
set_option maxHeartbeats 4000000 in
theorem F_maps_Keys_bag_counts_int_int_1_ok (lpl lpf : Nat) (l1 : (List Int)) (m2 : (List (Int × Int))) {r : (List Int)} (h : F_maps_Keys_bag_counts_int_int_1 l1 m2 = some r) : ACalls Tryz.prog 90 [.clo (.yield lpl) [] [], .loc 200002 0 0] [(200000, .lp lpl (LK_109_0 lpf) [.junk, .junk, .loc 200001 0 0, .junk, .junk, .junk, .junk, .junk, .junk, .junk, .junk, .junk, .junk] 0), (200001, .var [.own 100000 l1.length]), (100000, .arr 1 (l1.map row_I)), (200002, .var [.map 200003]), (200003, .map (mapV (V.i .i64) (V.i .i64) m2))] (Gives (.tup []) [(100000, .arr 1 (r.map row_I)), (200000, .lp lpl (LK_109_0 lpf) [.junk, .junk, .loc 200001 0 0, .junk, .junk, .junk, .junk, .junk, .junk, .junk, .junk, .junk, .junk] 0), (200001, .var [.own 100000 r.length]), (200002, .var [.map 200003]), (200003, .map (mapV (V.i .i64) (V.i .i64) m2))]) := by
  refine ACalls.walk 14 Tryz.func90 rfl Tryz.ntmps90 rfl fun C hC => ?_
  unfold F_maps_Keys_bag_counts_int_int_1 at h
  refine AK.go tab_ok hC [.n 3] rfl trivial ?_
  refine AK.openMap (b := 200003) ky_3 rfl fun bm4 cl4 L4 hbn4 hpm4 => ?_
  refine AK.go tab_ok hC [.x (fun σ => (σ.set 5 (.itr bm4 cl4 #[] none)).put 5 (.loc 5 0 0)), .n 3, .keep [0, 5] [5, 100000, 200000, 200001, 200002, 200003]] rfl ⟨trivial, (Stp.range (b := 200003) rfl rfl (hC ▸ rfl) rfl rfl mt_117 rfl)⟩ ?_
  obtain ⟨o11, hl11, h⟩ := bindE h
  refine AK.range (body := (fun st p => F_maps_Keys_bag_counts_int_int_1_m1 st p.1 p.2)) (fun st seen σ => ∃ cur : Option MapEntry, σ = ⟨[(0, .clo (.yield lpl) [] []), (5, .loc 5 0 0)], [(5, .itr bm4 cl4 seen cur), (100000, .arr 1 (st.map row_I)), (200000, .lp lpl (LK_109_0 lpf) [.junk, .junk, .loc 200001 0 0, .junk, .junk, .junk, .junk, .junk, .junk, .junk, .junk, .junk, .junk] 0), (200001, .var [.own 100000 st.length]), (200002, .var [.map 200003]), (200003, .mapX bm4 cl4 (typV (V.i .i64) (V.i .i64) L4) (mapV (V.i .i64) (V.i .i64) m2))]⟩) (fun (q : Empty) _ _ => False) (fun st e σ => e = .exit 0 ∧ σ = ⟨[], [(100000, .arr 1 (st.map row_I)), (200000, .lp lpl (LK_109_0 lpf) [.junk, .junk, .loc 200001 0 0, .junk, .junk, .junk, .junk, .junk, .junk, .junk, .junk, .junk, .junk] 0), (200001, .var [.own 100000 st.length]), (200002, .var [.map 200003]), (200003, .mapX bm4 cl4 (typV (V.i .i64) (V.i .i64) L4) (mapV (V.i .i64) (V.i .i64) m2))]⟩) hbn4 hpm4 hl11 (Exists.intro _ rfl) ?_ ?_
  · rintro l6 seen σ ⟨cur, rfl⟩ hex
    refine AK.go tab_ok hC [.n 2] rfl trivial ?_
    refine AK.nextT (b := 5) (m := 200003) rfl rfl rfl (hC ▸ rfl) rfl rfl rfl rfl ?_ ?_
    · intro hleft
      refine AK.go tab_ok hC [.n 7, .keep [] [100000, 200000, 200001, 200002, 200003]] rfl trivial ?_
      exact AK.done (Or.inl (And.intro hleft (And.intro (fun h => (by cases h)) (And.intro rfl rfl))))
    · intro xk8 k8 v9 hq5
      obtain ⟨o, h⟩ := hex _ hq5
      have ho := h
      replace h : F_maps_Keys_bag_counts_int_int_1_m1 l6 k8 v9 = some o := h
      unfold F_maps_Keys_bag_counts_int_int_1_m1 at h
      obtain ⟨x10, hx10, h⟩ := bindE h
      refine AK.go tab_ok hC [.n 10, .x (fun σ => σ.put 8 (.tup [.i .i64 k8, .i .i64 v9])), .n 8, .x (fun σ => (σ.after [100000] [(100000, .arr 1 (x10.map row_I)), (200000, .lp lpl (LK_109_0 lpf) [.junk, .junk, .loc 200001 0 0, .junk, .junk, .junk, .junk, .junk, .junk, .junk, .junk, .junk, .junk] 0), (200001, .var [.own 100000 x10.length])]).put 12 (.b true)), .n 6, .keep [0, 5] [5, 100000, 200000, 200001, 200002, 200003]] rfl ⟨⟨trivial, (Stp.entryT (b := 5) (m := 200003) rfl rfl (hC ▸ rfl) rfl hq5 rfl rfl)⟩, (Stp.yieldV (b := 200000) (M := [(200000, 200000), (200001, 200001), (100000, 100000)]) (N := [(100000, 100000), (200000, 200000), (200001, 200001)]) (dead := [100000]) (ms := [.d, .d, .d, .d, .d, .d, .d, .d, .d, .d, .d, .d, .d]) (outs := [(100000, .arr 1 (x10.map row_I)), (200000, .lp lpl (LK_109_0 lpf) [.junk, .junk, .loc 200001 0 0, .junk, .junk, .junk, .junk, .junk, .junk, .junk, .junk, .junk, .junk] 0), (200001, .var [.own 100000 x10.length])]) (r := .b true) rfl rfl rfl rfl rfl rfl rfl (hC ▸ rfl) rfl rfl (F_slices_AppendSeq_int_int_v2_round_ok _ _ _ _ hx10))⟩ ?_
      obtain rfl := Option.some.inj h
      exact AK.done (Or.inr (Exists.intro _ (And.intro hq5 (Or.inl (Exists.intro _ (And.intro ho (And.intro rfl (Exists.intro _ rfl))))))))
  · rcases o11 with (l6 | q)
    · replace h : F_maps_Keys_bag_counts_int_int_1_c2 l6 = some r := h
      unfold F_maps_Keys_bag_counts_int_int_1_c2 at h
      rintro e σ ⟨rfl, rfl⟩
      refine AK.go tab_ok hC [.n 1] rfl trivial ?_
      refine AK.closeMap (b := 200003) rfl ?_
      refine AK.go tab_ok hC [.keep [] [100000, 200000, 200001, 200002, 200003]] rfl trivial ?_
      obtain rfl := Option.some.inj h
      refine AK.done ?_
      exact Exists.intro [] (And.intro trivial (gives ⟨rfl, rfl, rfl, rfl, rfl, trivial⟩))
    · exact q.elim

-- 109 slices.AppendSeq[[]int,int]
noncomputable def F_slices_AppendSeq_int_int (m1 : (List (Int × Int))) : Option (List Int) :=
  (F_maps_Keys_bag_counts_int_int_1 ([] : List Int) m1).bind fun x3 =>
  some x3

set_option maxRecDepth 100000 in
set_option maxHeartbeats 4000000 in
theorem F_slices_AppendSeq_int_int_ok (m1 : (List (Int × Int))) {r : (List Int)} (h : F_slices_AppendSeq_int_int m1 = some r) : ACalls Tryz.prog 109 [.lit (.slice none 0 0), .clo (.func 90) [] [.loc 200000 0 0]] [(200000, .var [.map 200001]), (200001, .map (mapV (V.i .i64) (V.i .i64) m1))] (Gives (.own 30000 r.length) [(30000, .arr 1 (r.map row_I)), (200000, .var [.map 200001]), (200001, .map (mapV (V.i .i64) (V.i .i64) m1))]) := by
  refine ACalls.walkR 13 Tryz.func109 rfl Tryz.ntmps109 rfl fun C hC hR => ?_
  unfold F_slices_AppendSeq_int_int at h
  refine AK.go tab_ok hC [.n 13, .keep [2, 4, 6] [2, 200000, 200001]] rfl trivial ?_
  obtain ⟨x3, hx3, h⟩ := bindE h
  refine AK.go tab_ok hC [.adoptO 2 0 45040 1, .sayO 45040 (.arr 1 (([] : List Int).map row_I)), .sayO 2 (.var [.own 45040 ([] : List Int).length])] rfl ⟨⟨trivial, rfl⟩, rfl⟩ ?_
  refine AK.rangeF 60000 [2] [(200000, 60000), (200001, 2), (100000, 45040), (200002, 200000), (200003, 200001)] [(45040, 100000), (60000, 200000), (2, 200001), (200000, 200002), (200001, 200003)] [45040] [.d, .d] LK_109_0 hC hR (fun _ => rfl) rfl rfl rfl rfl fun lpl lpf => ?_
  refine Exists.intro [(100000, .arr 1 (x3.map row_I)), (200000, .lp lpl (LK_109_0 lpf) [.junk, .junk, .loc 200001 0 0, .junk, .junk, .junk, .junk, .junk, .junk, .junk, .junk, .junk, .junk] 0), (200001, .var [.own 100000 x3.length]), (200002, .var [.map 200003]), (200003, .map (mapV (V.i .i64) (V.i .i64) m1))] (Exists.intro (.tup []) (Exists.intro _ (Exists.intro _ (Exists.intro [.junk, .junk, .loc 2 0 0, .junk, .junk, .junk, .junk, .junk, .junk, .junk, .junk, .junk, .junk] (Exists.intro 0 (And.intro rfl ?_))))))
  refine And.intro (F_maps_Keys_bag_counts_int_int_1_ok _ _ _ _ hx3) (And.intro rfl (And.intro (bne_iff_ne.1 (show (0 != 1) = true from rfl)) ?_))
  refine atJ0 rfl ?_
  refine AK.go tab_ok hC [.n 9, .keep [4] [45040, 200000, 200001], .ren 45040 30000, .keep [4] [30000, 200000, 200001]] rfl trivial ?_
  obtain rfl := Option.some.inj h
  refine AK.done ?_
  exact Exists.intro [_] (And.intro (And.intro rfl trivial) (gives ⟨rfl, rfl, rfl, trivial⟩))

-- 89 slices.Collect[int]
noncomputable def F_slices_Collect_int (m1 : (List (Int × Int))) : Option (List Int) :=
  (F_slices_AppendSeq_int_int m1).bind fun x3 =>
  some x3

set_option maxRecDepth 100000 in
set_option maxHeartbeats 4000000 in
theorem F_slices_Collect_int_ok (m1 : (List (Int × Int))) {r : (List Int)} (h : F_slices_Collect_int m1 = some r) : ACalls Tryz.prog 89 [.clo (.func 90) [] [.loc 200000 0 0]] [(200000, .var [.map 200001]), (200001, .map (mapV (V.i .i64) (V.i .i64) m1))] (Gives (.own 30000 r.length) [(30000, .arr 1 (r.map row_I)), (200000, .var [.map 200001]), (200001, .map (mapV (V.i .i64) (V.i .i64) m1))]) := by
  refine ACalls.walk 5 Tryz.func89 rfl Tryz.ntmps89 rfl fun C hC => ?_
  unfold F_slices_Collect_int at h
  obtain ⟨x3, hx3, h⟩ := bindE h
  refine AK.go tab_ok hC [.n 8, .cm (.fn) [(200000, 200000), (200001, 200001)] [(4, 30000), (200000, 200000), (200001, 200001)] [] [.d, .d] [(30000, .arr 1 (x3.map row_I)), (200000, .var [.map 200001]), (200001, .map (mapV (V.i .i64) (V.i .i64) m1))] (.own 30000 x3.length), .n 4, .keep [2] [4, 200000, 200001], .ren 4 30000, .keep [2] [30000, 200000, 200001]] rfl ⟨trivial, (F_slices_AppendSeq_int_int_ok _ hx3)⟩ ?_
  obtain rfl := Option.some.inj h
  refine AK.done ?_
  exact Exists.intro [_] (And.intro (And.intro rfl trivial) (gives ⟨rfl, rfl, rfl, trivial⟩))

-- 21 slices.Sort[[]int,int]
noncomputable def F_slices_Sort_int_int (l : List Int) : Option (List Int) := (chk (decide (l.length < 4611686018427387904))).bind fun _ => some (sortI l)

theorem F_slices_Sort_int_int_ok (l : List Int) {r : List Int} (h : F_slices_Sort_int_int l = some r) : ACalls Tryz.prog 21 [.own 200000 l.length] [(200000, .arr 1 (l.map row_I))] (Gives (.tup []) [(200000, .arr 1 (r.map row_I))]) := by
  unfold F_slices_Sort_int_int at h
  obtain ⟨_, h1, h⟩ := bindE h
  cases h
  exact sortI_calls lays_sort l (of_decide_eq_true (chkE h1))

-- 78 slices.Sorted[int]
noncomputable def F_slices_Sorted_int (m1 : (List (Int × Int))) : Option (List Int) :=
  (F_slices_Collect_int m1).bind fun x3 =>
  (F_slices_Sort_int_int x3).bind fun x4 =>
  (chk (decide (x4.length = x3.length))).bind fun _ =>
  some x4

set_option maxRecDepth 100000 in
set_option maxHeartbeats 4000000 in
theorem F_slices_Sorted_int_ok (m1 : (List (Int × Int))) {r : (List Int)} (h : F_slices_Sorted_int m1 = some r) : ACalls Tryz.prog 78 [.clo (.func 90) [] [.loc 200000 0 0]] [(200000, .var [.map 200001]), (200001, .map (mapV (V.i .i64) (V.i .i64) m1))] (Gives (.own 30000 r.length) [(30000, .arr 1 (r.map row_I)), (200000, .var [.map 200001]), (200001, .map (mapV (V.i .i64) (V.i .i64) m1))]) := by
  refine ACalls.walk 9 Tryz.func78 rfl Tryz.ntmps78 rfl fun C hC => ?_
  unfold F_slices_Sorted_int at h
  obtain ⟨x3, hx3, h⟩ := bindE h
  obtain ⟨x4, hx4, h⟩ := bindE h
  obtain ⟨_, hk5, h⟩ := bindE h
  replace hk5 := chkE hk5
  refine AK.go tab_ok hC [.n 8, .cm (.fn) [(200000, 200000), (200001, 200001)] [(5, 30000), (200000, 200000), (200001, 200001)] [] [.d] [(30000, .arr 1 (x3.map row_I)), (200000, .var [.map 200001]), (200001, .map (mapV (V.i .i64) (V.i .i64) m1))] (.own 30000 x3.length), .n 6, .cm (.fn) [(200000, 5)] [(5, 200000)] [] [.d] [(200000, .arr 1 (x4.map row_I))] (.tup []), .say 3 (.own 5 x4.length), .say 5 (.own 5 x4.length), .say 6 (.own 5 x4.length), .n 9, .keep [2] [5, 200000, 200001], .ren 5 30000, .keep [2] [30000, 200000, 200001]] rfl ⟨⟨⟨⟨⟨trivial, (F_slices_Collect_int_ok _ hx3)⟩, (F_slices_Sort_int_int_ok _ hx4)⟩, (by simp [of_decide_eq_true hk5])⟩, (by simp [of_decide_eq_true hk5])⟩, (by simp [of_decide_eq_true hk5])⟩ ?_
  obtain rfl := Option.some.inj h
  refine AK.done ?_
  exact Exists.intro [_] (And.intro (And.intro rfl trivial) (gives ⟨rfl, rfl, rfl, trivial⟩))

-- 63 (baldric/bag.counts).bag
noncomputable def F_bag_counts_bag_k1 (x6 : Int) (l12 : (List (Int × Int))) : Option ((Int × (List (Int × Int))) ⊕ (List (Int × Int))) :=
  some (.inl ((w64 (x6 + 1)), l12))

noncomputable def F_bag_counts_bag_l2 (x4 : (List Int)) (m1 : (List (Int × Int))) (x6 : Int) (l7 : (List (Int × Int))) : Option ((Int × (List (Int × Int))) ⊕ (List (Int × Int))) :=
  bif (decide (x6 < (x4.length : Int))) then
  (idx x4 x6).bind fun e13 =>
  bif (decide (0 < ((mget m1 e13).getD 0))) then
  (chk (decide (l7.length + ([(e13, ((mget m1 e13).getD 0))] : List (Int × Int)).length ≤ 4294967296))).bind fun _ =>
  F_bag_counts_bag_k1 x6 (l7 ++ ([(e13, ((mget m1 e13).getD 0))] : List (Int × Int)))
  else
  F_bag_counts_bag_k1 x6 l7
  else
  some (.inr l7)

noncomputable def F_bag_counts_bag_c3 (l10 : (List (Int × Int))) : Option (List (Int × Int)) :=
  some l10

noncomputable def F_bag_counts_bag (m1 : (List (Int × Int))) : Option (List (Int × Int)) :=
  (F_maps_Keys_bag_counts_int_int m1).bind fun x3 =>
  (F_slices_Sorted_int m1).bind fun x4 =>
  (loopM (fun st => F_bag_counts_bag_l2 x4 m1 st.1 st.2) (0, ([] : List (Int × Int)))).bind (fun q => F_bag_counts_bag_c3 q)

set_option maxRecDepth 100000 in
set_option maxHeartbeats 4000000 in
theorem F_bag_counts_bag_ok (m1 : (List (Int × Int))) {r : (List (Int × Int))} (h : F_bag_counts_bag m1 = some r) : ACalls Tryz.prog 63 [.map 200000] [(200000, .map (mapV (V.i .i64) (V.i .i64) m1))] (Gives (.own 30000 r.length) [(30000, .arr 2 (r.map row_A2I)), (200000, .map (mapV (V.i .i64) (V.i .i64) m1))]) := by
  refine ACalls.walk 28 Tryz.func63 rfl Tryz.ntmps63 rfl fun C hC => ?_
  unfold F_bag_counts_bag at h
  obtain ⟨x3, hx3, h⟩ := bindE h
  obtain ⟨x4, hx4, h⟩ := bindE h
  refine AK.go tab_ok hC [.n 14, .cm (.fn) [(200000, 200000)] [(7, 1), (200000, 200000)] [] [.d] [(1, .var [.map 200000]), (200000, .map (mapV (V.i .i64) (V.i .i64) m1))] (.clo (.func 90) [] [.loc 1 0 0]), .cm (.fn) [(200000, 7), (200001, 200000)] [(8, 30000), (7, 200000), (200000, 200001)] [] [.d] [(30000, .arr 1 (x4.map row_I)), (200000, .var [.map 200001]), (200001, .map (mapV (V.i .i64) (V.i .i64) m1))] (.own 30000 x4.length), .n 5, .adopt 3 18 2, .sayO 18 (.arr 2 (([] : List (Int × Int)).map row_A2I)), .say 3 (.own 18 ([] : List (Int × Int)).length), .keep [0, 3, 8, 9, 10] [8, 18, 200000]] rfl ⟨⟨⟨⟨trivial, (F_maps_Keys_bag_counts_int_int_ok _ hx3)⟩, (F_slices_Sorted_int_ok _ hx4)⟩, rfl⟩, (congrArg (fun n => V.own 18 n) (by simp))⟩ ?_
  obtain ⟨l10, hl16, h⟩ := bindE h
  refine AK.loop (body := (fun st => F_bag_counts_bag_l2 x4 m1 st.1 st.2)) (fun st σ => σ = ⟨[(0, .map 200000), (3, .own 18 st.2.length), (8, .own 8 x4.length), (9, .i .i64 (x4.length : Int)), (10, .i .i64 st.1)], [(8, .arr 1 (x4.map row_I)), (18, .arr 2 (st.2.map row_A2I)), (200000, .map (mapV (V.i .i64) (V.i .i64) m1))]⟩) (fun q e σ => e = .exit 0 ∧ σ = ⟨[(3, .own 18 q.length)], [(18, .arr 2 (q.map row_A2I)), (200000, .map (mapV (V.i .i64) (V.i .i64) m1))]⟩) hl16 rfl ?_ ?_
  · rintro ⟨x6, l7⟩ o σ rfl h
    replace h : F_bag_counts_bag_l2 x4 m1 x6 l7 = some o := h
    unfold F_bag_counts_bag_l2 at h
    refine AK.go tab_ok hC [.n 6] rfl trivial ?_
    rcases bifE h with ⟨hc11, h⟩ | ⟨hc11, h⟩
    · refine AK.go tab_ok hC [.br true, .n 2] rfl ⟨trivial, hc11⟩ ?_
      refine AK.meet (fun σ => ∃ l12 : (List (Int × Int)), σ = ⟨[(0, .map 200000), (3, .own 18 l12.length), (8, .own 8 x4.length), (9, .i .i64 (x4.length : Int)), (10, .i .i64 x6)], [(8, .arr 1 (x4.map row_I)), (18, .arr 2 (l12.map row_A2I)), (200000, .map (mapV (V.i .i64) (V.i .i64) m1))]⟩ ∧ F_bag_counts_bag_k1 x6 l12 = some o) ?_ ?_
      · obtain ⟨e13, he13, h⟩ := bindE h
        refine AK.go tab_ok hC [.n 4, .o (.row (row_I e13)), .n 7, .o (.any (.i .i64 ((mget m1 e13).getD 0)) none), .n 3] rfl ⟨⟨⟨trivial, (idxOw he13 rfl)⟩, (mapGet (idxE he13).2)⟩, (fun σ h1 h2 _ => Stp.lookup (e := (V.i .i64)) (f := (V.i .i64)) (l := m1) (k := e13) (z := 0) rfl rfl (hC ▸ rfl) (h1 _ _ rfl) (h2 _ _ rfl) (h1 _ _ rfl) mt_117 ky_3 zi_3 rfl)⟩ ?_
        rcases bifE h with ⟨hc14, h⟩ | ⟨hc14, h⟩
        · obtain ⟨_, hk15, h⟩ := bindE h
          replace hk15 := chkE hk15
          refine AK.go tab_ok hC [.br true, .n 5, .o (.any (.i .i64 ((mget m1 e13).getD 0)) none), .v .no [] (.agg (row_A2I (e13, ((mget m1 e13).getD 0)))), .v (.bd []) [] (.sl 2 (([(e13, ((mget m1 e13).getD 0))] : List (Int × Int)).map row_A2I)), .app ((l7 ++ ([(e13, ((mget m1 e13).getD 0))] : List (Int × Int))).map row_A2I) (l7 ++ ([(e13, ((mget m1 e13).getD 0))] : List (Int × Int))).length, .n 3, .keep [0, 3, 8, 9, 10] [8, 18, 200000]] rfl ⟨⟨⟨⟨⟨trivial, hc14⟩, (fun σ h1 h2 _ => Stp.lookup (e := (V.i .i64)) (f := (V.i .i64)) (l := m1) (k := e13) (z := 0) rfl rfl (hC ▸ rfl) (h1 _ _ rfl) (h2 _ _ rfl) (h1 _ _ rfl) mt_117 ky_3 zi_3 rfl)⟩, rfl⟩, rfl⟩, ⟨mapLen, appLim hk15 mapLen, mapApps, appLn mapLen⟩⟩ ?_
          exact AK.met (Exists.intro _ (And.intro rfl h))
        · refine AK.go tab_ok hC [.br false, .n 2, .keep [0, 3, 8, 9, 10] [8, 18, 200000]] rfl ⟨trivial, hc14⟩ ?_
          exact AK.met (Exists.intro _ (And.intro rfl h))
      · rintro σ ⟨l12, rfl, h⟩
        unfold F_bag_counts_bag_k1 at h
        refine AK.go tab_ok hC [.n 4, .keep [0, 3, 8, 9, 10] [8, 18, 200000]] rfl trivial ?_
        obtain rfl := Option.some.inj h
        exact rndN rfl rfl
    · refine AK.go tab_ok hC [.br false, .n 2, .keep [3] [18, 200000]] rfl ⟨trivial, hc11⟩ ?_
      obtain rfl := Option.some.inj h
      exact rndX rfl (And.intro rfl rfl)
  · replace h : F_bag_counts_bag_c3 l10 = some r := h
    unfold F_bag_counts_bag_c3 at h
    rintro e σ ⟨rfl, rfl⟩
    refine AK.go tab_ok hC [.n 9, .keep [2] [18, 200000], .ren 18 30000, .keep [2] [30000, 200000]] rfl trivial ?_
    obtain rfl := Option.some.inj h
    refine AK.done ?_
    exact Exists.intro [_] (And.intro (And.intro rfl trivial) (gives ⟨rfl, rfl, trivial⟩))

-- 42 baldric/bag.Of
noncomputable def F_bag_Of_k1 (x4 : Int) (m10 : (List (Int × Int))) : Option ((Int × (List (Int × Int))) ⊕ (List (Int × Int))) :=
  some (.inl ((w64 (x4 + 1)), m10))

noncomputable def F_bag_Of_l2 (l1 : (List Int)) (x4 : Int) (m5 : (List (Int × Int))) : Option ((Int × (List (Int × Int))) ⊕ (List (Int × Int))) :=
  bif (decide (x4 < (l1.length : Int))) then
  (idx l1 x4).bind fun e11 =>
  bif (decide (0 ≤ e11)) then
  F_bag_Of_k1 x4 (mset ltI m5 e11 (min2 (w64 (((mget m5 e11).getD 0) + 1)) 1048576))
  else
  F_bag_Of_k1 x4 m5
  else
  some (.inr m5)

noncomputable def F_bag_Of_c3 (m8 : (List (Int × Int))) : Option (List (Int × Int)) :=
  (F_bag_counts_bag m8).bind fun x14 =>
  some x14

noncomputable def F_bag_Of (l1 : (List Int)) : Option (List (Int × Int)) :=
  (loopM (fun st => F_bag_Of_l2 l1 st.1 st.2) (0, ([] : (List (Int × Int))))).bind (fun q => F_bag_Of_c3 q)

set_option maxRecDepth 100000 in
set_option maxHeartbeats 4000000 in
theorem F_bag_Of_ok (l1 : (List Int)) {r : (List (Int × Int))} (h : F_bag_Of l1 = some r) : ACalls Tryz.prog 42 [.sl 1 (l1.map row_I)] [] (Gives (.own 30000 r.length) [(30000, .arr 2 (r.map row_A2I))]) := by
  refine ACalls.walk 25 Tryz.func42 rfl Tryz.ntmps42 rfl fun C hC => ?_
  unfold F_bag_Of at h
  refine AK.go tab_ok hC [.n 8, .sayO 6 (.map (mapV (V.i .i64) (V.i .i64) ([] : (List (Int × Int))))), .n 7, .o (.ln l1.length), .n 4, .keep [3, 7, 8, 9] [6]] rfl ⟨⟨trivial, rfl⟩, mapLen⟩ ?_
  obtain ⟨m8, hl13, h⟩ := bindE h
  refine AK.loop (body := (fun st => F_bag_Of_l2 l1 st.1 st.2)) (fun st σ => σ = ⟨[(3, .map 6), (7, .sl 1 (l1.map row_I)), (8, .i .i64 (l1.length : Int)), (9, .i .i64 st.1)], [(6, .map (mapV (V.i .i64) (V.i .i64) st.2))]⟩) (fun q e σ => e = .exit 0 ∧ σ = ⟨[(3, .map 6)], [(6, .map (mapV (V.i .i64) (V.i .i64) q))]⟩) hl13 rfl ?_ ?_
  · rintro ⟨x4, m5⟩ o σ rfl h
    replace h : F_bag_Of_l2 l1 x4 m5 = some o := h
    unfold F_bag_Of_l2 at h
    refine AK.go tab_ok hC [.n 6] rfl trivial ?_
    rcases bifE h with ⟨hc9, h⟩ | ⟨hc9, h⟩
    · refine AK.go tab_ok hC [.br true, .n 2] rfl ⟨trivial, hc9⟩ ?_
      refine AK.meet (fun σ => ∃ m10 : (List (Int × Int)), σ = ⟨[(3, .map 6), (7, .sl 1 (l1.map row_I)), (8, .i .i64 (l1.length : Int)), (9, .i .i64 x4)], [(6, .map (mapV (V.i .i64) (V.i .i64) m10))]⟩ ∧ F_bag_Of_k1 x4 m10 = some o) ?_ ?_
      · obtain ⟨e11, he11, h⟩ := bindE h
        refine AK.go tab_ok hC [.n 3, .o (.row (row_I e11)), .n 10] rfl ⟨trivial, (idxM he11)⟩ ?_
        rcases bifE h with ⟨hc12, h⟩ | ⟨hc12, h⟩
        · refine AK.go tab_ok hC [.br true, .n 5, .o (.any (.i .i64 ((mget m5 e11).getD 0)) none), .n 2, .x (fun σ => σ.set 6 (.map (mapV (V.i .i64) (V.i .i64) (mset ltI m5 e11 (min2 (w64 (((mget m5 e11).getD 0) + 1)) 1048576))))), .n 2, .keep [3, 7, 8, 9] [6]] rfl ⟨⟨⟨trivial, hc12⟩, (fun σ h1 h2 _ => Stp.lookup (e := (V.i .i64)) (f := (V.i .i64)) (l := m5) (k := e11) (z := 0) rfl rfl (hC ▸ rfl) (h1 _ _ rfl) (h2 _ _ rfl) (h1 _ _ rfl) mt_117 ky_3 zi_3 rfl)⟩, (Stp.mapUpdate (e := (V.i .i64)) (f := (V.i .i64)) (l := m5) (k := e11) (v := (min2 (w64 (((mget m5 e11).getD 0) + 1)) 1048576)) ltI rfl rfl rfl rfl rfl rfl mt_117 ky_3 rfl)⟩ ?_
          exact AK.met (Exists.intro _ (And.intro rfl h))
        · refine AK.go tab_ok hC [.br false, .n 2, .keep [3, 7, 8, 9] [6]] rfl ⟨trivial, hc12⟩ ?_
          exact AK.met (Exists.intro _ (And.intro rfl h))
      · rintro σ ⟨m10, rfl, h⟩
        unfold F_bag_Of_k1 at h
        refine AK.go tab_ok hC [.n 4, .keep [3, 7, 8, 9] [6]] rfl trivial ?_
        obtain rfl := Option.some.inj h
        exact rndN rfl rfl
    · refine AK.go tab_ok hC [.br false, .n 2, .keep [3] [6]] rfl ⟨trivial, hc9⟩ ?_
      obtain rfl := Option.some.inj h
      exact rndX rfl (And.intro rfl rfl)
  · replace h : F_bag_Of_c3 m8 = some r := h
    unfold F_bag_Of_c3 at h
    rintro e σ ⟨rfl, rfl⟩
    obtain ⟨x14, hx14, h⟩ := bindE h
    refine AK.go tab_ok hC [.n 5, .cm (.fn) [(200000, 6)] [(24, 30000), (6, 200000)] [] [.d] [(30000, .arr 2 (x14.map row_A2I)), (200000, .map (mapV (V.i .i64) (V.i .i64) m8))] (.own 30000 x14.length), .n 4, .keep [2] [24], .ren 24 30000, .keep [2] [30000]] rfl ⟨trivial, (F_bag_counts_bag_ok _ hx14)⟩ ?_
    obtain rfl := Option.some.inj h
    refine AK.done ?_
    exact Exists.intro [_] (And.intro (And.intro rfl trivial) (gives ⟨rfl, trivial⟩))

-- 43 baldric/bag.Right
noncomputable def F_bag_Right_l1 (b1 : (List (Int × Int))) (last4 : Int) (x5 : Int) : Option ((Int × Int) ⊕ (Unit ⊕ Unit)) :=
  bif (decide (x5 < (b1.length : Int))) then
  (idx b1 x5).bind fun e9 =>
  bif ((decide (e9.1 ≤ last4)) || ((decide (e9.2 < 1)) || (decide (1048576 < e9.2)))) then
  some (.inr (.inl ()))
  else
  some (.inl (e9.1, (w64 (x5 + 1))))
  else
  some (.inr (.inr ()))

noncomputable def F_bag_Right_c2 : Option Bool :=
  some false

noncomputable def F_bag_Right_c3 : Option Bool :=
  some true

noncomputable def F_bag_Right (b1 : (List (Int × Int))) : Option Bool :=
  (loopM (fun st => F_bag_Right_l1 b1 st.1 st.2) ((-1), 0)).bind (Sum.elim (fun q => F_bag_Right_c2) (fun q => F_bag_Right_c3))

set_option maxRecDepth 100000 in
set_option maxHeartbeats 4000000 in
theorem F_bag_Right_ok (b1 : (List (Int × Int))) {r : Bool} (h : F_bag_Right b1 = some r) : ACalls Tryz.prog 43 [.sl 2 (b1.map row_A2I)] [] (Gives (.b r) []) := by
  refine ACalls.walk 29 Tryz.func43 rfl Tryz.ntmps43 rfl fun C hC => ?_
  unfold F_bag_Right at h
  refine AK.go tab_ok hC [.n 14, .o (.ln b1.length), .n 4, .keep [3, 6, 7, 8] []] rfl ⟨trivial, mapLen⟩ ?_
  obtain ⟨o14, hl14, h⟩ := bindE h
  refine AK.loop (body := (fun st => F_bag_Right_l1 b1 st.1 st.2)) (fun st σ => σ = ⟨[(3, .i .i64 st.1), (6, .sl 2 (b1.map row_A2I)), (7, .i .i64 (b1.length : Int)), (8, .i .i64 st.2)], []⟩) (Sum.elim (fun q e σ => e = .ret ∧ σ = ⟨[(2, .b false)], []⟩) (fun q e σ => e = .exit 0 ∧ σ = ⟨[], []⟩)) hl14 rfl ?_ ?_
  · rintro ⟨last4, x5⟩ o σ rfl h
    replace h : F_bag_Right_l1 b1 last4 x5 = some o := h
    unfold F_bag_Right_l1 at h
    refine AK.go tab_ok hC [.n 6] rfl trivial ?_
    rcases bifE h with ⟨hc8, h⟩ | ⟨hc8, h⟩
    · obtain ⟨e9, he9, h⟩ := bindE h
      refine AK.go tab_ok hC [.br true, .n 6, .o (.row (row_A2I e9)), .v .no [] (.agg (row_A2I e9)), .n 2, .sayO 5 (.var (row_A2I e9)), .n 4] rfl ⟨⟨⟨⟨trivial, hc8⟩, (idxM he9)⟩, rfl⟩, rfl⟩ ?_
      refine AK.meetX (fun σ => σ = ⟨[(5, .loc 5 0 0), (6, .sl 2 (b1.map row_A2I)), (7, .i .i64 (b1.length : Int)), (8, .i .i64 x5), (25, .b ((decide (e9.1 ≤ last4)) || ((decide (e9.2 < 1)) || (decide (1048576 < e9.2)))))], [(5, .var (row_A2I e9))]⟩) ?_ ?_
      · refine AK.go tab_ok hC [.n 6] rfl trivial ?_
        rcases boolOr (decide (e9.1 ≤ last4)) with hc11 | hc11
        · refine AK.go tab_ok hC [.say 16 (.b true), .n 10, .say 25 (.b ((decide (e9.1 ≤ last4)) || ((decide (e9.2 < 1)) || (decide (1048576 < e9.2))))), .keep [5, 6, 7, 8, 25] [5]] rfl ⟨⟨trivial, (congrArg V.b hc11)⟩, (congrArg V.b (orT hc11 rfl))⟩ ?_
          exact AK.met rfl
        · refine AK.go tab_ok hC [.say 16 (.b false), .n 5] rfl ⟨trivial, (congrArg V.b hc11)⟩ ?_
          rcases boolOr (decide (e9.2 < 1)) with hc12 | hc12
          · refine AK.go tab_ok hC [.say 21 (.b true), .n 5, .say 25 (.b ((decide (e9.1 ≤ last4)) || ((decide (e9.2 < 1)) || (decide (1048576 < e9.2))))), .keep [5, 6, 7, 8, 25] [5]] rfl ⟨⟨trivial, (congrArg V.b hc12)⟩, (congrArg V.b (orF hc11 (orT hc12 rfl)))⟩ ?_
            exact AK.met rfl
          · refine AK.go tab_ok hC [.say 21 (.b false), .n 5, .say 25 (.b ((decide (e9.1 ≤ last4)) || ((decide (e9.2 < 1)) || (decide (1048576 < e9.2))))), .keep [5, 6, 7, 8, 25] [5]] rfl ⟨⟨trivial, (congrArg V.b hc12)⟩, (congrArg V.b (orF hc11 (orF hc12 rfl)))⟩ ?_
            exact AK.met rfl
      · rintro σ rfl
        refine AK.go tab_ok hC [.n 1] rfl trivial ?_
        rcases bifE h with ⟨hc13, h⟩ | ⟨hc13, h⟩
        · refine AK.go tab_ok hC [.br true, .n 9, .keep [2] []] rfl ⟨trivial, hc13⟩ ?_
          obtain rfl := Option.some.inj h
          exact rndR rfl (And.intro rfl rfl)
        · refine AK.go tab_ok hC [.br false, .n 13, .keep [3, 6, 7, 8] []] rfl ⟨trivial, hc13⟩ ?_
          obtain rfl := Option.some.inj h
          exact rndN rfl rfl
    · refine AK.go tab_ok hC [.br false, .n 2, .keep [] []] rfl ⟨trivial, hc8⟩ ?_
      obtain rfl := Option.some.inj h
      exact rndX rfl (And.intro rfl rfl)
  · rcases o14 with (_ | _)
    · replace h : F_bag_Right_c2 = some r := h
      unfold F_bag_Right_c2 at h
      rintro e σ ⟨rfl, rfl⟩
      refine AK.go tab_ok hC [.n 2, .keep [2] []] rfl trivial ?_
      obtain rfl := Option.some.inj h
      refine AK.done ?_
      exact Exists.intro [_] (And.intro (And.intro rfl trivial) (gives trivial))
    · replace h : F_bag_Right_c3 = some r := h
      unfold F_bag_Right_c3 at h
      rintro e σ ⟨rfl, rfl⟩
      refine AK.go tab_ok hC [.n 8, .keep [2] []] rfl trivial ?_
      obtain rfl := Option.some.inj h
      refine AK.done ?_
      exact Exists.intro [_] (And.intro (And.intro rfl trivial) (gives trivial))

-- 73 baldric/bag.of
noncomputable def F_bag_of_l1 (b1 : (List (Int × Int))) (x7 : Int) (m8 : (List (Int × Int))) : Option ((Int × (List (Int × Int))) ⊕ (List (Int × Int))) :=
  bif (decide (x7 < (b1.length : Int))) then
  (idx b1 x7).bind fun e13 =>
  some (.inl ((w64 (x7 + 1)), (mset ltI m8 e13.1 e13.2)))
  else
  some (.inr m8)

noncomputable def F_bag_of_c2 (m11 : (List (Int × Int))) : Option (Bool × (List (Int × Int))) :=
  some (true, m11)

noncomputable def F_bag_of (b1 : (List (Int × Int))) : Option (Bool × (List (Int × Int))) :=
  (F_bag_Right b1).bind fun x4 =>
  bif (!x4) then
  none
  else
  (loopM (fun st => F_bag_of_l1 b1 st.1 st.2) (0, ([] : (List (Int × Int))))).bind (fun q => F_bag_of_c2 q)

set_option maxRecDepth 100000 in
set_option maxHeartbeats 4000000 in
theorem F_bag_of_ok (b1 : (List (Int × Int))) {r : (Bool × (List (Int × Int)))} (h : F_bag_of b1 = some r) : ACalls Tryz.prog 73 [.sl 2 (b1.map row_A2I)] [] (Gives (.tup [.map 30002, .b r.1]) [(30002, .map (mapV (V.i .i64) (V.i .i64) r.2))]) := by
  refine ACalls.walk 24 Tryz.func73 rfl Tryz.ntmps73 rfl fun C hC => ?_
  unfold F_bag_of at h
  obtain ⟨x4, hx4, h⟩ := bindE h
  refine AK.go tab_ok hC [.n 10, .o (.c false [.d] (.b x4)), .n 3] rfl ⟨trivial, (F_bag_Right_ok _ hx4)⟩ ?_
  rcases bifE h with ⟨hc5, h⟩ | ⟨hc5, h⟩
  · refine AK.go tab_ok hC [.br true, .n 1] rfl ⟨trivial, hc5⟩ ?_
    cases h
  · refine AK.go tab_ok hC [.br false, .n 5, .sayO 10 (.map (mapV (V.i .i64) (V.i .i64) ([] : (List (Int × Int))))), .n 7, .o (.ln b1.length), .n 4, .keep [4, 11, 12, 13] [10]] rfl ⟨⟨⟨trivial, hc5⟩, rfl⟩, mapLen⟩ ?_
    obtain ⟨m11, hl14, h⟩ := bindE h
    refine AK.loop (body := (fun st => F_bag_of_l1 b1 st.1 st.2)) (fun st σ => σ = ⟨[(4, .map 10), (11, .sl 2 (b1.map row_A2I)), (12, .i .i64 (b1.length : Int)), (13, .i .i64 st.1)], [(10, .map (mapV (V.i .i64) (V.i .i64) st.2))]⟩) (fun q e σ => e = .exit 0 ∧ σ = ⟨[(4, .map 10)], [(10, .map (mapV (V.i .i64) (V.i .i64) q))]⟩) hl14 rfl ?_ ?_
    · rintro ⟨x7, m8⟩ o σ rfl h
      replace h : F_bag_of_l1 b1 x7 m8 = some o := h
      unfold F_bag_of_l1 at h
      refine AK.go tab_ok hC [.n 6] rfl trivial ?_
      rcases bifE h with ⟨hc12, h⟩ | ⟨hc12, h⟩
      · obtain ⟨e13, he13, h⟩ := bindE h
        refine AK.go tab_ok hC [.br true, .n 6, .o (.row (row_A2I e13)), .v .no [] (.agg (row_A2I e13)), .n 2, .sayO 6 (.var (row_A2I e13)), .n 8, .x (fun σ => σ.set 10 (.map (mapV (V.i .i64) (V.i .i64) (mset ltI m8 e13.1 e13.2)))), .n 7, .keep [4, 11, 12, 13] [10]] rfl ⟨⟨⟨⟨⟨trivial, hc12⟩, (idxM he13)⟩, rfl⟩, rfl⟩, (Stp.mapUpdate (e := (V.i .i64)) (f := (V.i .i64)) (l := m8) (k := e13.1) (v := e13.2) ltI rfl rfl rfl rfl rfl rfl mt_117 ky_3 rfl)⟩ ?_
        obtain rfl := Option.some.inj h
        exact rndN rfl rfl
      · refine AK.go tab_ok hC [.br false, .n 2, .keep [4] [10]] rfl ⟨trivial, hc12⟩ ?_
        obtain rfl := Option.some.inj h
        exact rndX rfl (And.intro rfl rfl)
    · replace h : F_bag_of_c2 m11 = some r := h
      unfold F_bag_of_c2 at h
      rintro e σ ⟨rfl, rfl⟩
      refine AK.go tab_ok hC [.n 10, .keep [2, 3] [10], .ren 10 30002, .keep [2, 3] [30002]] rfl trivial ?_
      obtain rfl := Option.some.inj h
      refine AK.done ?_
      exact Exists.intro [_, _] (And.intro (And.intro rfl (And.intro rfl trivial)) (gives ⟨rfl, trivial⟩))

-- 62 baldric/bag.both
noncomputable def F_bag_both (a1 : (List (Int × Int))) (b2 : (List (Int × Int))) : Option (Bool × (List (Int × Int)) × (List (Int × Int))) :=
  (F_bag_of a1).bind fun x6 =>
  (F_bag_of b2).bind fun x7 =>
  some ((x6.1 && x7.1), x6.2, x7.2)

set_option maxRecDepth 100000 in
set_option maxHeartbeats 4000000 in
theorem F_bag_both_ok (a1 : (List (Int × Int))) (b2 : (List (Int × Int))) {r : (Bool × (List (Int × Int)) × (List (Int × Int)))} (h : F_bag_both a1 b2 = some r) : ACalls Tryz.prog 62 [.sl 2 (a1.map row_A2I), .sl 2 (b2.map row_A2I)] [] (Gives (.tup [.map 30004, .map 30005, .b r.1]) [(30004, .map (mapV (V.i .i64) (V.i .i64) r.2.1)), (30005, .map (mapV (V.i .i64) (V.i .i64) r.2.2))]) := by
  refine ACalls.walk 25 Tryz.func62 rfl Tryz.ntmps62 rfl fun C hC => ?_
  unfold F_bag_both at h
  obtain ⟨x6, hx6, h⟩ := bindE h
  obtain ⟨x7, hx7, h⟩ := bindE h
  refine AK.go tab_ok hC [.n 10, .cm (.fn) [] [(11, 30002)] [] [.d] [(30002, .map (mapV (V.i .i64) (V.i .i64) x6.2))] (.tup [.map 30002, .b x6.1]), .n 10, .cm (.fn) [] [(16, 30002)] [] [.d] [(30002, .map (mapV (V.i .i64) (V.i .i64) x7.2))] (.tup [.map 30002, .b x7.1]), .n 8] rfl ⟨⟨trivial, (F_bag_of_ok _ hx6)⟩, (F_bag_of_ok _ hx7)⟩ ?_
  refine AK.meetX (fun σ => σ = ⟨[(4, .map 11), (5, .map 16), (6, .b (x6.1 && x7.1))], [(11, .map (mapV (V.i .i64) (V.i .i64) x6.2)), (16, .map (mapV (V.i .i64) (V.i .i64) x7.2))]⟩) ?_ ?_
  · refine AK.go tab_ok hC [.n 5] rfl trivial ?_
    rcases boolOr x6.1 with hc9 | hc9
    · refine AK.go tab_ok hC [.say 22 (.b true), .n 6, .say 6 (.b (x6.1 && x7.1)), .keep [4, 5, 6] [11, 16]] rfl ⟨⟨trivial, (congrArg V.b hc9)⟩, (congrArg V.b (andT hc9 rfl))⟩ ?_
      exact AK.met rfl
    · refine AK.go tab_ok hC [.say 22 (.b false), .n 6, .say 6 (.b (x6.1 && x7.1)), .keep [4, 5, 6] [11, 16]] rfl ⟨⟨trivial, (congrArg V.b hc9)⟩, (congrArg V.b (andF hc9 rfl))⟩ ?_
      exact AK.met rfl
  · rintro σ rfl
    refine AK.go tab_ok hC [.n 2, .keep [4, 5, 6] [11, 16], .ren 11 30004, .keep [4, 5, 6] [16, 30004], .ren 16 30005, .keep [4, 5, 6] [30004, 30005]] rfl trivial ?_
    obtain rfl := Option.some.inj h
    refine AK.done ?_
    exact Exists.intro [_, _, _] (And.intro (And.intro rfl (And.intro rfl (And.intro rfl trivial))) (gives ⟨rfl, rfl, trivial⟩))

-- 41 baldric/bag.Sum
noncomputable def F_bag_Sum_m1 (m9 : (List (Int × Int))) (k11 : Int) (v12 : Int) : Option ((List (Int × Int)) ⊕ Empty) :=
  bif (decide (1048576 < ((mget (mset ltI m9 k11 (w64 (((mget m9 k11).getD 0) + v12))) k11).getD 0))) then
  none
  else
  some (.inl (mset ltI m9 k11 (w64 (((mget m9 k11).getD 0) + v12))))

noncomputable def F_bag_Sum_c2 (m9 : (List (Int × Int))) : Option ((List (Int × Int)) × Int) :=
  (F_bag_counts_bag m9).bind fun x15 =>
  some (x15, 0)

noncomputable def F_bag_Sum (a1 : (List (Int × Int))) (b2 : (List (Int × Int))) : Option ((List (Int × Int)) × Int) :=
  (F_bag_both a1 b2).bind fun x5 =>
  bif (!x5.1) then
  none
  else
  (rangeM (fun st p => F_bag_Sum_m1 st p.1 p.2) x5.2.1 x5.2.2).bind (Sum.elim (fun q => F_bag_Sum_c2 q) (fun q => Empty.elim q))

set_option maxRecDepth 100000 in
set_option maxHeartbeats 4000000 in
theorem F_bag_Sum_ok (a1 : (List (Int × Int))) (b2 : (List (Int × Int))) {r : ((List (Int × Int)) × Int)} (h : F_bag_Sum a1 b2 = some r) : ACalls Tryz.prog 41 [.sl 2 (a1.map row_A2I), .sl 2 (b2.map row_A2I)] [] (Gives (.tup [.sl 2 (r.1.map row_A2I), .i .i64 r.2]) []) := by
  refine ACalls.walk 38 Tryz.func41 rfl Tryz.ntmps41 rfl fun C hC => ?_
  unfold F_bag_Sum at h
  obtain ⟨x5, hx5, h⟩ := bindE h
  refine AK.go tab_ok hC [.n 10, .cm (.fn) [] [(14, 30004), (50000, 30005)] [] [.d, .d] [(30004, .map (mapV (V.i .i64) (V.i .i64) x5.2.1)), (30005, .map (mapV (V.i .i64) (V.i .i64) x5.2.2))] (.tup [.map 30004, .map 30005, .b x5.1]), .n 16] rfl ⟨trivial, (F_bag_both_ok _ _ hx5)⟩ ?_
  rcases bifE h with ⟨hc6, h⟩ | ⟨hc6, h⟩
  · refine AK.go tab_ok hC [.br true, .n 1] rfl ⟨trivial, hc6⟩ ?_
    cases h
  · refine AK.go tab_ok hC [.br false, .n 6] rfl ⟨trivial, hc6⟩ ?_
    refine AK.openMap (b := 50000) ky_3 rfl fun bm7 cl7 L7 hbn7 hpm7 => ?_
    refine AK.go tab_ok hC [.x (fun σ => (σ.set 21 (.itr bm7 cl7 #[] none)).put 21 (.loc 21 0 0)), .n 3, .keep [6, 21] [14, 21, 50000]] rfl ⟨trivial, (Stp.range (b := 50000) rfl rfl (hC ▸ rfl) rfl rfl mt_117 rfl)⟩ ?_
    obtain ⟨o14, hl14, h⟩ := bindE h
    refine AK.range (body := (fun st p => F_bag_Sum_m1 st p.1 p.2)) (fun st seen σ => ∃ cur : Option MapEntry, σ = ⟨[(6, .map 14), (21, .loc 21 0 0)], [(14, .map (mapV (V.i .i64) (V.i .i64) st)), (21, .itr bm7 cl7 seen cur), (50000, .mapX bm7 cl7 (typV (V.i .i64) (V.i .i64) L7) (mapV (V.i .i64) (V.i .i64) x5.2.2))]⟩) (fun (q : Empty) _ _ => False) (fun st e σ => e = .exit 0 ∧ σ = ⟨[(6, .map 14)], [(14, .map (mapV (V.i .i64) (V.i .i64) st))]⟩) hbn7 hpm7 hl14 (Exists.intro _ rfl) ?_ ?_
    · rintro m9 seen σ ⟨cur, rfl⟩ hex
      refine AK.go tab_ok hC [.n 2] rfl trivial ?_
      refine AK.nextT (b := 21) (m := 50000) rfl rfl rfl (hC ▸ rfl) rfl rfl rfl rfl ?_ ?_
      · intro hleft
        refine AK.go tab_ok hC [.n 7, .keep [6] [14]] rfl trivial ?_
        exact AK.done (Or.inl (And.intro hleft (And.intro (fun h => (by cases h)) (And.intro rfl rfl))))
      · intro xk11 k11 v12 hq8
        obtain ⟨o, h⟩ := hex _ hq8
        have ho := h
        replace h : F_bag_Sum_m1 m9 k11 v12 = some o := h
        unfold F_bag_Sum_m1 at h
        refine AK.go tab_ok hC [.n 10, .x (fun σ => σ.put 24 (.tup [.i .i64 k11, .i .i64 v12])), .n 10, .o (.any (.i .i64 ((mget m9 k11).getD 0)) none), .n 2, .x (fun σ => σ.set 14 (.map (mapV (V.i .i64) (V.i .i64) (mset ltI m9 k11 (w64 (((mget m9 k11).getD 0) + v12)))))), .n 6, .o (.any (.i .i64 ((mget (mset ltI m9 k11 (w64 (((mget m9 k11).getD 0) + v12))) k11).getD 0)) none), .n 3] rfl ⟨⟨⟨⟨trivial, (Stp.entryT (b := 21) (m := 50000) rfl rfl (hC ▸ rfl) rfl hq8 rfl rfl)⟩, (fun σ h1 h2 _ => Stp.lookup (e := (V.i .i64)) (f := (V.i .i64)) (l := m9) (k := k11) (z := 0) rfl rfl (hC ▸ rfl) (h1 _ _ rfl) (h2 _ _ rfl) (h1 _ _ rfl) mt_117 ky_3 zi_3 rfl)⟩, (Stp.mapUpdate (e := (V.i .i64)) (f := (V.i .i64)) (l := m9) (k := k11) (v := (w64 (((mget m9 k11).getD 0) + v12))) ltI rfl rfl rfl rfl rfl rfl mt_117 ky_3 rfl)⟩, (fun σ h1 h2 _ => Stp.lookup (e := (V.i .i64)) (f := (V.i .i64)) (l := (mset ltI m9 k11 (w64 (((mget m9 k11).getD 0) + v12)))) (k := k11) (z := 0) rfl rfl (hC ▸ rfl) (h1 _ _ rfl) (h2 _ _ rfl) (h1 _ _ rfl) mt_117 ky_3 zi_3 rfl)⟩ ?_
        rcases bifE h with ⟨hc13, h⟩ | ⟨hc13, h⟩
        · refine AK.go tab_ok hC [.br true, .n 1] rfl ⟨trivial, hc13⟩ ?_
          cases h
        · refine AK.go tab_ok hC [.br false, .n 2, .keep [6, 21] [14, 21, 50000]] rfl ⟨trivial, hc13⟩ ?_
          obtain rfl := Option.some.inj h
          exact AK.done (Or.inr (Exists.intro _ (And.intro hq8 (Or.inl (Exists.intro _ (And.intro ho (And.intro rfl (Exists.intro _ rfl))))))))
    · rcases o14 with (m9 | q)
      · replace h : F_bag_Sum_c2 m9 = some r := h
        unfold F_bag_Sum_c2 at h
        rintro e σ ⟨rfl, rfl⟩
        obtain ⟨x15, hx15, h⟩ := bindE h
        refine AK.go tab_ok hC [.n 5, .cm (.fn) [(200000, 14)] [(37, 30000), (14, 200000)] [] [.d] [(30000, .arr 2 (x15.map row_A2I)), (200000, .map (mapV (V.i .i64) (V.i .i64) m9))] (.own 30000 x15.length), .n 5, .frz 37 (x15.map row_A2I) [4] [], .keep [4, 5] []] rfl ⟨⟨trivial, (F_bag_counts_bag_ok _ hx15)⟩, ⟨trivial, (frzL mapLen)⟩⟩ ?_
        obtain rfl := Option.some.inj h
        refine AK.done ?_
        exact Exists.intro [_, _] (And.intro (And.intro rfl (And.intro rfl trivial)) (gives trivial))
      · exact q.elim

-- 29 baldric/mark.First
noncomputable def F_mark_First_k1 (l5 : (List (List (Int × Int)))) (x4 : Int) (b12 : (List (Int × Int))) : Option ((Int × (List (List (Int × Int)))) ⊕ (List (List (Int × Int)))) :=
  (chk (decide (l5.length + ([b12] : List (List (Int × Int))).length ≤ 4294967296))).bind fun _ =>
  some (.inl ((w64 (x4 + 1)), (l5 ++ ([b12] : List (List (Int × Int))))))

noncomputable def F_mark_First_l2 (n1 : TNet) (x4 : Int) (l5 : (List (List (Int × Int)))) : Option ((Int × (List (List (Int × Int)))) ⊕ (List (List (Int × Int)))) :=
  bif (decide (x4 < (n1.Places.length : Int))) then
  (idx n1.Places x4).bind fun e10 =>
  (F_slices_Clone_api_Bag_2_int e10.First).bind fun x11 =>
  bif (x4 == n1.From) then
  (F_bag_Of ([0] : List Int)).bind fun x15 =>
  (F_bag_Sum x11 x15).bind fun x16 =>
  bif (x16.2 == 0) then
  F_mark_First_k1 l5 x4 x16.1
  else
  F_mark_First_k1 l5 x4 x11
  else
  F_mark_First_k1 l5 x4 x11
  else
  some (.inr l5)

noncomputable def F_mark_First_c3 (l8 : (List (List (Int × Int)))) : Option (List (List (Int × Int))) :=
  some l8

noncomputable def F_mark_First (n1 : TNet) : Option (List (List (Int × Int))) :=
  (loopM (fun st => F_mark_First_l2 n1 st.1 st.2) (0, ([] : List (List (Int × Int))))).bind (fun q => F_mark_First_c3 q)

set_option maxRecDepth 100000 in
set_option maxHeartbeats 4000000 in
theorem F_mark_First_ok (n1 : TNet) {r : (List (List (Int × Int)))} (h : F_mark_First n1 = some r) : ACalls Tryz.prog 29 [.agg (row_TNet n1)] [] (Gives (.own 30000 r.length) [(30000, .arr 1 (r.map row_LA2I))]) := by
  refine ACalls.walk 40 Tryz.func29 rfl Tryz.ntmps29 rfl fun C hC => ?_
  unfold F_mark_First at h
  refine AK.go tab_ok hC [.n 16, .o (.ln n1.Places.length), .n 4, .adopt 3 34 1, .sayO 34 (.arr 1 (([] : List (List (Int × Int))).map row_LA2I)), .say 3 (.own 34 ([] : List (List (Int × Int))).length), .keep [1, 3, 10, 11, 12] [1, 34]] rfl ⟨⟨⟨trivial, mapLen⟩, rfl⟩, (congrArg (fun n => V.own 34 n) (by simp))⟩ ?_
  obtain ⟨l8, hl18, h⟩ := bindE h
  refine AK.loop (body := (fun st => F_mark_First_l2 n1 st.1 st.2)) (fun st σ => σ = ⟨[(1, .loc 1 0 0), (3, .own 34 st.2.length), (10, .sl 3 (n1.Places.map row_TPlace)), (11, .i .i64 (n1.Places.length : Int)), (12, .i .i64 st.1)], [(1, .var (row_TNet n1)), (34, .arr 1 (st.2.map row_LA2I))]⟩) (fun q e σ => e = .exit 0 ∧ σ = ⟨[(3, .own 34 q.length)], [(34, .arr 1 (q.map row_LA2I))]⟩) hl18 rfl ?_ ?_
  · rintro ⟨x4, l5⟩ o σ rfl h
    replace h : F_mark_First_l2 n1 x4 l5 = some o := h
    unfold F_mark_First_l2 at h
    refine AK.go tab_ok hC [.n 6] rfl trivial ?_
    rcases bifE h with ⟨hc9, h⟩ | ⟨hc9, h⟩
    · obtain ⟨e10, he10, h⟩ := bindE h
      obtain ⟨x11, hx11, h⟩ := bindE h
      refine AK.go tab_ok hC [.br true, .n 7, .o (.row (row_TPlace e10)), .v .no [] (.agg (row_TPlace e10)), .n 3, .sayO 5 (.var (row_TPlace e10)), .n 6, .o (.co false [.d] 2 (x11.map row_A2I) x11.length), .n 3] rfl ⟨⟨⟨⟨⟨trivial, hc9⟩, (idxM he10)⟩, rfl⟩, rfl⟩, ⟨(F_slices_Clone_api_Bag_2_int_ok _ hx11), mapLen, .inl rfl⟩⟩ ?_
      refine AK.meet (fun σ => ∃ b12 : (List (Int × Int)), σ = ⟨[(1, .loc 1 0 0), (3, .own 34 l5.length), (6, .sl 2 (b12.map row_A2I)), (10, .sl 3 (n1.Places.map row_TPlace)), (11, .i .i64 (n1.Places.length : Int)), (12, .i .i64 x4)], [(1, .var (row_TNet n1)), (34, .arr 1 (l5.map row_LA2I))]⟩ ∧ F_mark_First_k1 l5 x4 b12 = some o) ?_ ?_
      · refine AK.go tab_ok hC [.n 8] rfl trivial ?_
        rcases bifE h with ⟨hc14, h⟩ | ⟨hc14, h⟩
        · obtain ⟨x15, hx15, h⟩ := bindE h
          obtain ⟨x16, hx16, h⟩ := bindE h
          refine AK.go tab_ok hC [.br true, .n 3, .v (.bd []) [] (.sl 1 (([0] : List Int).map row_I)), .o (.co false [.d] 2 (x15.map row_A2I) x15.length), .frz 27 (x15.map row_A2I) [27] [], .frz 19 (x11.map row_A2I) [6, 19, 25] [], .o (.c false [.d, .d] (.tup [.sl 2 (x16.1.map row_A2I), .i .i64 x16.2])), .n 13] rfl ⟨⟨⟨⟨⟨⟨trivial, hc14⟩, rfl⟩, ⟨(F_bag_Of_ok _ hx15), mapLen, .inl rfl⟩⟩, ⟨trivial, (frzL mapLen)⟩⟩, ⟨⟨⟨trivial, (frzL mapLen)⟩, (frzL mapLen)⟩, (frzL mapLen)⟩⟩, (F_bag_Sum_ok _ _ hx16)⟩ ?_
          rcases bifE h with ⟨hc17, h⟩ | ⟨hc17, h⟩
          · refine AK.go tab_ok hC [.br true, .n 4, .keep [1, 3, 6, 10, 11, 12] [1, 34]] rfl ⟨trivial, hc17⟩ ?_
            exact AK.met (Exists.intro _ (And.intro rfl h))
          · refine AK.go tab_ok hC [.br false, .n 1, .keep [1, 3, 6, 10, 11, 12] [1, 34]] rfl ⟨trivial, hc17⟩ ?_
            exact AK.met (Exists.intro _ (And.intro rfl h))
        · refine AK.go tab_ok hC [.br false, .n 1, .frz 19 (x11.map row_A2I) [6] [], .keep [1, 3, 6, 10, 11, 12] [1, 34]] rfl ⟨⟨trivial, hc14⟩, ⟨trivial, (frzL mapLen)⟩⟩ ?_
          exact AK.met (Exists.intro _ (And.intro rfl h))
      · rintro σ ⟨b12, rfl, h⟩
        unfold F_mark_First_k1 at h
        obtain ⟨_, hk13, h⟩ := bindE h
        replace hk13 := chkE hk13
        refine AK.go tab_ok hC [.n 3, .v (.bd []) [] (.sl 1 (([b12] : List (List (Int × Int))).map row_LA2I)), .app ((l5 ++ ([b12] : List (List (Int × Int)))).map row_LA2I) (l5 ++ ([b12] : List (List (Int × Int)))).length, .n 8, .keep [1, 3, 10, 11, 12] [1, 34]] rfl ⟨⟨trivial, rfl⟩, ⟨mapLen, appLim hk13 mapLen, mapApps, appLn mapLen⟩⟩ ?_
        obtain rfl := Option.some.inj h
        exact rndN rfl rfl
    · refine AK.go tab_ok hC [.br false, .n 2, .keep [3] [34]] rfl ⟨trivial, hc9⟩ ?_
      obtain rfl := Option.some.inj h
      exact rndX rfl (And.intro rfl rfl)
  · replace h : F_mark_First_c3 l8 = some r := h
    unfold F_mark_First_c3 at h
    rintro e σ ⟨rfl, rfl⟩
    refine AK.go tab_ok hC [.n 9, .keep [2] [34], .ren 34 30000, .keep [2] [30000]] rfl trivial ?_
    obtain rfl := Option.some.inj h
    refine AK.done ?_
    exact Exists.intro [_] (And.intro (And.intro rfl trivial) (gives ⟨rfl, trivial⟩))

-- 58 slices.Clone[baldric/api.Marking,baldric/api.Bag]
noncomputable def F_slices_Clone_api_Marking_api_Bag (s1 : (List (List (Int × Int)))) : Option (List (List (Int × Int))) :=
  (chk (decide (([] : List (List (Int × Int))).length + s1.length ≤ 4294967296))).bind fun _ =>
  some (([] : List (List (Int × Int))) ++ s1)

set_option maxRecDepth 100000 in
set_option maxHeartbeats 4000000 in
theorem F_slices_Clone_api_Marking_api_Bag_ok (s1 : (List (List (Int × Int)))) {r : (List (List (Int × Int)))} (h : F_slices_Clone_api_Marking_api_Bag s1 = some r) : ACalls Tryz.prog 58 [.sl 1 (s1.map row_LA2I)] [] (Gives (.own 30000 r.length) [(30000, .arr 1 (r.map row_LA2I))]) := by
  refine ACalls.walk 8 Tryz.func58 rfl Tryz.ntmps58 rfl fun C hC => ?_
  unfold F_slices_Clone_api_Marking_api_Bag at h
  refine AK.go tab_ok hC [.n 9] rfl trivial ?_
  refine AK.eqNil rfl rfl rfl (hC ▸ rfl) rfl rfl un_27 ?_ ?_
  · intro hz4
    replace h : some ([] : List (List (Int × Int))) = some r := by simpa [chk, List.map_eq_nil_iff.1 hz4] using h
    refine AK.go tab_ok hC [.n 10, .adopt 2 30000 1, .sayO 30000 (.arr 1 (([] : List (List (Int × Int))).map row_LA2I)), .say 2 (.own 30000 ([] : List (List (Int × Int))).length), .keep [2] [30000]] rfl ⟨⟨trivial, rfl⟩, rfl⟩ ?_
    obtain rfl := Option.some.inj h
    refine AK.done ?_
    exact Exists.intro [_] (And.intro (And.intro rfl trivial) (gives ⟨rfl, trivial⟩))
  · obtain ⟨_, hk5, h⟩ := bindE h
    replace hk5 := chkE hk5
    refine AK.go tab_ok hC [.n 8, .sayO 5 (.arr 1 (([] : List (List (Int × Int))).map row_LA2I)), .say 5 (.own 5 ([] : List (List (Int × Int))).length), .n 1, .app ((([] : List (List (Int × Int))) ++ s1).map row_LA2I) (([] : List (List (Int × Int))) ++ s1).length, .n 4, .keep [2] [5], .ren 5 30000, .keep [2] [30000]] rfl ⟨⟨⟨trivial, rfl⟩, rfl⟩, ⟨mapLen, appLim hk5 mapLen, mapApps, appLn mapLen⟩⟩ ?_
    obtain rfl := Option.some.inj h
    refine AK.done ?_
    exact Exists.intro [_] (And.intro (And.intro rfl trivial) (gives ⟨rfl, trivial⟩))

-- 37 baldric/mark.Copy
noncomputable def F_mark_Copy_l1 (x3 : (List (List (Int × Int)))) (x5 : Int) (l6 : (List (List (Int × Int)))) : Option ((Int × (List (List (Int × Int)))) ⊕ (List (List (Int × Int)))) :=
  bif (decide (x5 < (x3.length : Int))) then
  (idx l6 x5).bind fun e11 =>
  (F_slices_Clone_api_Bag_2_int e11).bind fun x12 =>
  (idx l6 x5).bind fun e13 =>
  some (.inl ((w64 (x5 + 1)), (l6.set x5.toNat x12)))
  else
  some (.inr l6)

noncomputable def F_mark_Copy_c2 (l9 : (List (List (Int × Int)))) : Option (List (List (Int × Int))) :=
  some l9

noncomputable def F_mark_Copy (m1 : (List (List (Int × Int)))) : Option (List (List (Int × Int))) :=
  (F_slices_Clone_api_Marking_api_Bag m1).bind fun x3 =>
  (loopM (fun st => F_mark_Copy_l1 x3 st.1 st.2) (0, x3)).bind (fun q => F_mark_Copy_c2 q)

set_option maxRecDepth 100000 in
set_option maxHeartbeats 4000000 in
theorem F_mark_Copy_ok (m1 : (List (List (Int × Int)))) {r : (List (List (Int × Int)))} (h : F_mark_Copy m1 = some r) : ACalls Tryz.prog 37 [.sl 1 (m1.map row_LA2I)] [] (Gives (.own 30000 r.length) [(30000, .arr 1 (r.map row_LA2I))]) := by
  refine ACalls.walk 22 Tryz.func37 rfl Tryz.ntmps37 rfl fun C hC => ?_
  unfold F_mark_Copy at h
  obtain ⟨x3, hx3, h⟩ := bindE h
  refine AK.go tab_ok hC [.n 8, .o (.co false [.d] 1 (x3.map row_LA2I) x3.length), .n 12, .keep [3, 8, 9, 10] [7]] rfl ⟨trivial, ⟨(F_slices_Clone_api_Marking_api_Bag_ok _ hx3), mapLen, .inl rfl⟩⟩ ?_
  obtain ⟨l9, hl14, h⟩ := bindE h
  refine AK.loop (body := (fun st => F_mark_Copy_l1 x3 st.1 st.2)) (fun st σ => σ = ⟨[(3, .own 7 st.2.length), (8, .own 7 st.2.length), (9, .i .i64 (x3.length : Int)), (10, .i .i64 st.1)], [(7, .arr 1 (st.2.map row_LA2I))]⟩) (fun q e σ => e = .exit 0 ∧ σ = ⟨[(3, .own 7 q.length)], [(7, .arr 1 (q.map row_LA2I))]⟩) hl14 rfl ?_ ?_
  · rintro ⟨x5, l6⟩ o σ rfl h
    replace h : F_mark_Copy_l1 x3 x5 l6 = some o := h
    unfold F_mark_Copy_l1 at h
    refine AK.go tab_ok hC [.n 6] rfl trivial ?_
    rcases bifE h with ⟨hc10, h⟩ | ⟨hc10, h⟩
    · obtain ⟨e11, he11, h⟩ := bindE h
      obtain ⟨x12, hx12, h⟩ := bindE h
      obtain ⟨e13, he13, h⟩ := bindE h
      refine AK.go tab_ok hC [.br true, .n 8, .o (.row (row_LA2I e11)), .n 8, .o (.co false [.d] 2 (x12.map row_A2I) x12.length), .n 1, .frz 18 (x12.map row_A2I) [18] [], .st (row_LA2I e13) ((l6.set x5.toNat x12).map row_LA2I), .n 7, .say 3 (.own 7 (l6.set x5.toNat x12).length), .say 8 (.own 7 (l6.set x5.toNat x12).length), .keep [3, 8, 9, 10] [7]] rfl ⟨⟨⟨⟨⟨⟨⟨⟨⟨trivial, hc10⟩, (idxOw he11 rfl)⟩, (mapGet (idxE he11).2)⟩, ⟨(F_slices_Clone_api_Bag_2_int_ok _ hx12), mapLen, .inl rfl⟩⟩, (idxOw he13 rfl)⟩, ⟨trivial, (frzL mapLen)⟩⟩, ⟨(mapGet (idxE he13).2), mapSet rfl⟩⟩, (congrArg (fun n => V.own 7 n) (by simp))⟩, (congrArg (fun n => V.own 7 n) (by simp))⟩ ?_
      obtain rfl := Option.some.inj h
      exact rndN rfl rfl
    · refine AK.go tab_ok hC [.br false, .n 2, .keep [3] [7]] rfl ⟨trivial, hc10⟩ ?_
      obtain rfl := Option.some.inj h
      exact rndX rfl (And.intro rfl rfl)
  · replace h : F_mark_Copy_c2 l9 = some r := h
    unfold F_mark_Copy_c2 at h
    rintro e σ ⟨rfl, rfl⟩
    refine AK.go tab_ok hC [.n 9, .keep [2] [7], .ren 7 30000, .keep [2] [30000]] rfl trivial ?_
    obtain rfl := Option.some.inj h
    refine AK.done ?_
    exact Exists.intro [_] (And.intro (And.intro rfl trivial) (gives ⟨rfl, trivial⟩))

-- 81 baldric/mark.put
noncomputable def F_mark_put_v2_l1 (e11 : Int) (k13 : Int) (l14 : (List Int)) : Option ((Int × (List Int)) ⊕ (List Int)) :=
  bif (decide (0 ≤ k13)) then
  (chk (decide (0 ≤ (w64 (8 * k13))))).bind fun _ =>
  (chk (decide (l14.length + ([(IntKind.u8.wrap (shrI .i64 e11 (w64 (8 * k13))))] : List Int).length ≤ 4294967296))).bind fun _ =>
  some (.inl ((w64 (k13 - 1)), (l14 ++ ([(IntKind.u8.wrap (shrI .i64 e11 (w64 (8 * k13))))] : List Int))))
  else
  some (.inr l14)

noncomputable def F_mark_put_v2_c2 (x5 : Int) (l17 : (List Int)) : Option ((Int × (List Int)) ⊕ (List Int)) :=
  some (.inl ((w64 (x5 + 1)), l17))

noncomputable def F_mark_put_v2_l3 (l2 : (List Int)) (size1 : Int) (x5 : Int) (l6 : (List Int)) : Option ((Int × (List Int)) ⊕ (List Int)) :=
  bif (decide (x5 < (l2.length : Int))) then
  (idx l2 x5).bind fun e11 =>
  (loopM (fun st => F_mark_put_v2_l1 e11 st.1 st.2) ((w64 (size1 - 1)), l6)).bind (fun q => F_mark_put_v2_c2 x5 q)
  else
  some (.inr l6)

noncomputable def F_mark_put_v2_c4 (l9 : (List Int)) : Option (List Int) :=
  some l9

noncomputable def F_mark_put_v2 (size1 : Int) (l2 : (List Int)) : Option (List Int) :=
  (loopM (fun st => F_mark_put_v2_l3 l2 size1 st.1 st.2) (0, ([] : List Int))).bind (fun q => F_mark_put_v2_c4 q)

set_option maxRecDepth 100000 in
set_option maxHeartbeats 4000000 in
theorem F_mark_put_v2_ok (size1 : Int) (l2 : (List Int)) {r : (List Int)} (h : F_mark_put_v2 size1 l2 = some r) : ACalls Tryz.prog 81 [.lit (.slice none 0 0), .i .i64 size1, .sl 1 (l2.map row_I)] [] (Gives (.own 30000 r.length) [(30000, .arr 1 (r.map row_Iu8))]) := by
  refine ACalls.walk 32 Tryz.func81 rfl Tryz.ntmps81 rfl fun C hC => ?_
  unfold F_mark_put_v2 at h
  refine AK.go tab_ok hC [.n 9, .o (.ln l2.length), .n 4, .adopt 0 22 1, .sayO 22 (.arr 1 (([] : List Int).map row_Iu8)), .say 0 (.own 22 ([] : List Int).length), .keep [0, 1, 10, 11, 12] [22]] rfl ⟨⟨⟨trivial, mapLen⟩, rfl⟩, (congrArg (fun n => V.own 22 n) (by simp))⟩ ?_
  obtain ⟨l9, hl22, h⟩ := bindE h
  refine AK.loop (body := (fun st => F_mark_put_v2_l3 l2 size1 st.1 st.2)) (fun st σ => σ = ⟨[(0, .own 22 st.2.length), (1, .i .i64 size1), (10, .sl 1 (l2.map row_I)), (11, .i .i64 (l2.length : Int)), (12, .i .i64 st.1)], [(22, .arr 1 (st.2.map row_Iu8))]⟩) (fun q e σ => e = .exit 0 ∧ σ = ⟨[(0, .own 22 q.length)], [(22, .arr 1 (q.map row_Iu8))]⟩) hl22 rfl ?_ ?_
  · rintro ⟨x5, l6⟩ o σ rfl h
    replace h : F_mark_put_v2_l3 l2 size1 x5 l6 = some o := h
    unfold F_mark_put_v2_l3 at h
    refine AK.go tab_ok hC [.n 6] rfl trivial ?_
    rcases bifE h with ⟨hc10, h⟩ | ⟨hc10, h⟩
    · obtain ⟨e11, he11, h⟩ := bindE h
      refine AK.go tab_ok hC [.br true, .n 6, .o (.row (row_I e11)), .n 12, .keep [0, 1, 8, 9, 10, 11, 12] [22]] rfl ⟨⟨trivial, hc10⟩, (idxM he11)⟩ ?_
      obtain ⟨l17, hl21, h⟩ := bindE h
      refine AK.loop (body := (fun st => F_mark_put_v2_l1 e11 st.1 st.2)) (fun st σ => σ = ⟨[(0, .own 22 st.2.length), (1, .i .i64 size1), (8, .i .i64 e11), (9, .i .i64 st.1), (10, .sl 1 (l2.map row_I)), (11, .i .i64 (l2.length : Int)), (12, .i .i64 x5)], [(22, .arr 1 (st.2.map row_Iu8))]⟩) (fun q e σ => e = .exit 2 ∧ σ = ⟨[(0, .own 22 q.length), (1, .i .i64 size1), (10, .sl 1 (l2.map row_I)), (11, .i .i64 (l2.length : Int)), (12, .i .i64 x5)], [(22, .arr 1 (q.map row_Iu8))]⟩) hl21 rfl ?_ ?_
      · rintro ⟨k13, l14⟩ o σ rfl h
        replace h : F_mark_put_v2_l1 e11 k13 l14 = some o := h
        unfold F_mark_put_v2_l1 at h
        refine AK.go tab_ok hC [.n 7] rfl trivial ?_
        rcases bifE h with ⟨hc18, h⟩ | ⟨hc18, h⟩
        · obtain ⟨_, hk19, h⟩ := bindE h
          replace hk19 := chkE hk19
          obtain ⟨_, hk20, h⟩ := bindE h
          replace hk20 := chkE hk20
          refine AK.go tab_ok hC [.br true, .n 9, .o (.any (.i .i64 (shrI .i64 e11 (w64 (8 * k13)))) none), .o (.any (.i .u8 (IntKind.u8.wrap (shrI .i64 e11 (w64 (8 * k13))))) none), .v (.bd []) [] (.sl 1 (([(IntKind.u8.wrap (shrI .i64 e11 (w64 (8 * k13))))] : List Int).map row_Iu8)), .app ((l14 ++ ([(IntKind.u8.wrap (shrI .i64 e11 (w64 (8 * k13))))] : List Int)).map row_Iu8) (l14 ++ ([(IntKind.u8.wrap (shrI .i64 e11 (w64 (8 * k13))))] : List Int)).length, .n 9, .keep [0, 1, 8, 9, 10, 11, 12] [22]] rfl ⟨⟨⟨⟨⟨trivial, hc18⟩, (fun σ h1 h2 _ => Stp.shr rfl rfl (hC ▸ rfl) (h1 _ _ rfl) (h1 _ _ rfl) (of_decide_eq_true hk19))⟩, (fun σ h1 h2 _ => Stp.convI rfl rfl (hC ▸ rfl) (h1 _ _ rfl) it_3 it_5)⟩, rfl⟩, ⟨mapLen, appLim hk20 mapLen, mapApps, appLn mapLen⟩⟩ ?_
          obtain rfl := Option.some.inj h
          exact rndN rfl rfl
        · refine AK.go tab_ok hC [.br false, .n 2, .keep [0, 1, 10, 11, 12] [22]] rfl ⟨trivial, hc18⟩ ?_
          obtain rfl := Option.some.inj h
          exact rndX rfl (And.intro rfl rfl)
      · replace h : F_mark_put_v2_c2 x5 l17 = some o := h
        unfold F_mark_put_v2_c2 at h
        rintro e σ ⟨rfl, rfl⟩
        refine AK.go tab_ok hC [.n 7, .keep [0, 1, 10, 11, 12] [22]] rfl trivial ?_
        obtain rfl := Option.some.inj h
        exact rndN rfl rfl
    · refine AK.go tab_ok hC [.br false, .n 2, .keep [0] [22]] rfl ⟨trivial, hc10⟩ ?_
      obtain rfl := Option.some.inj h
      exact rndX rfl (And.intro rfl rfl)
  · replace h : F_mark_put_v2_c4 l9 = some r := h
    unfold F_mark_put_v2_c4 at h
    rintro e σ ⟨rfl, rfl⟩
    refine AK.go tab_ok hC [.n 9, .keep [6] [22], .ren 22 30000, .keep [6] [30000]] rfl trivial ?_
    obtain rfl := Option.some.inj h
    refine AK.done ?_
    exact Exists.intro [_] (And.intro (And.intro rfl trivial) (gives ⟨rfl, trivial⟩))

-- 81 baldric/mark.put
noncomputable def F_mark_put_v4_l1 (e12 : Int) (k14 : Int) (l15 : (List Int)) : Option ((Int × (List Int)) ⊕ (List Int)) :=
  bif (decide (0 ≤ k14)) then
  (chk (decide (0 ≤ (w64 (8 * k14))))).bind fun _ =>
  (chk (decide (l15.length + ([(IntKind.u8.wrap (shrI .i64 e12 (w64 (8 * k14))))] : List Int).length ≤ 4294967296))).bind fun _ =>
  some (.inl ((w64 (k14 - 1)), (l15 ++ ([(IntKind.u8.wrap (shrI .i64 e12 (w64 (8 * k14))))] : List Int))))
  else
  some (.inr l15)

noncomputable def F_mark_put_v4_c2 (x6 : Int) (l18 : (List Int)) : Option ((Int × (List Int)) ⊕ (List Int)) :=
  some (.inl ((w64 (x6 + 1)), l18))

noncomputable def F_mark_put_v4_l3 (l3 : (List Int)) (size2 : Int) (x6 : Int) (l7 : (List Int)) : Option ((Int × (List Int)) ⊕ (List Int)) :=
  bif (decide (x6 < (l3.length : Int))) then
  (idx l3 x6).bind fun e12 =>
  (loopM (fun st => F_mark_put_v4_l1 e12 st.1 st.2) ((w64 (size2 - 1)), l7)).bind (fun q => F_mark_put_v4_c2 x6 q)
  else
  some (.inr l7)

noncomputable def F_mark_put_v4_c4 (l10 : (List Int)) : Option (List Int) :=
  some l10

noncomputable def F_mark_put_v4 (l1 : (List Int)) (size2 : Int) (l3 : (List Int)) : Option (List Int) :=
  (loopM (fun st => F_mark_put_v4_l3 l3 size2 st.1 st.2) (0, l1)).bind (fun q => F_mark_put_v4_c4 q)

set_option maxRecDepth 100000 in
set_option maxHeartbeats 4000000 in
theorem F_mark_put_v4_ok (l1 : (List Int)) (size2 : Int) (l3 : (List Int)) {r : (List Int)} (h : F_mark_put_v4 l1 size2 l3 = some r) : ACalls Tryz.prog 81 [.own 100000 l1.length, .i .i64 size2, .sl 1 (l3.map row_I)] [(100000, .arr 1 (l1.map row_Iu8))] (Gives (.own 100000 r.length) [(100000, .arr 1 (r.map row_Iu8))]) := by
  refine ACalls.walk 32 Tryz.func81 rfl Tryz.ntmps81 rfl fun C hC => ?_
  unfold F_mark_put_v4 at h
  refine AK.go tab_ok hC [.n 9, .o (.ln l3.length), .n 4, .keep [0, 1, 10, 11, 12] [100000]] rfl ⟨trivial, mapLen⟩ ?_
  obtain ⟨l10, hl23, h⟩ := bindE h
  refine AK.loop (body := (fun st => F_mark_put_v4_l3 l3 size2 st.1 st.2)) (fun st σ => σ = ⟨[(0, .own 100000 st.2.length), (1, .i .i64 size2), (10, .sl 1 (l3.map row_I)), (11, .i .i64 (l3.length : Int)), (12, .i .i64 st.1)], [(100000, .arr 1 (st.2.map row_Iu8))]⟩) (fun q e σ => e = .exit 0 ∧ σ = ⟨[(0, .own 100000 q.length)], [(100000, .arr 1 (q.map row_Iu8))]⟩) hl23 rfl ?_ ?_
  · rintro ⟨x6, l7⟩ o σ rfl h
    replace h : F_mark_put_v4_l3 l3 size2 x6 l7 = some o := h
    unfold F_mark_put_v4_l3 at h
    refine AK.go tab_ok hC [.n 6] rfl trivial ?_
    rcases bifE h with ⟨hc11, h⟩ | ⟨hc11, h⟩
    · obtain ⟨e12, he12, h⟩ := bindE h
      refine AK.go tab_ok hC [.br true, .n 6, .o (.row (row_I e12)), .n 12, .keep [0, 1, 8, 9, 10, 11, 12] [100000]] rfl ⟨⟨trivial, hc11⟩, (idxM he12)⟩ ?_
      obtain ⟨l18, hl22, h⟩ := bindE h
      refine AK.loop (body := (fun st => F_mark_put_v4_l1 e12 st.1 st.2)) (fun st σ => σ = ⟨[(0, .own 100000 st.2.length), (1, .i .i64 size2), (8, .i .i64 e12), (9, .i .i64 st.1), (10, .sl 1 (l3.map row_I)), (11, .i .i64 (l3.length : Int)), (12, .i .i64 x6)], [(100000, .arr 1 (st.2.map row_Iu8))]⟩) (fun q e σ => e = .exit 2 ∧ σ = ⟨[(0, .own 100000 q.length), (1, .i .i64 size2), (10, .sl 1 (l3.map row_I)), (11, .i .i64 (l3.length : Int)), (12, .i .i64 x6)], [(100000, .arr 1 (q.map row_Iu8))]⟩) hl22 rfl ?_ ?_
      · rintro ⟨k14, l15⟩ o σ rfl h
        replace h : F_mark_put_v4_l1 e12 k14 l15 = some o := h
        unfold F_mark_put_v4_l1 at h
        refine AK.go tab_ok hC [.n 7] rfl trivial ?_
        rcases bifE h with ⟨hc19, h⟩ | ⟨hc19, h⟩
        · obtain ⟨_, hk20, h⟩ := bindE h
          replace hk20 := chkE hk20
          obtain ⟨_, hk21, h⟩ := bindE h
          replace hk21 := chkE hk21
          refine AK.go tab_ok hC [.br true, .n 9, .o (.any (.i .i64 (shrI .i64 e12 (w64 (8 * k14)))) none), .o (.any (.i .u8 (IntKind.u8.wrap (shrI .i64 e12 (w64 (8 * k14))))) none), .v (.bd []) [] (.sl 1 (([(IntKind.u8.wrap (shrI .i64 e12 (w64 (8 * k14))))] : List Int).map row_Iu8)), .app ((l15 ++ ([(IntKind.u8.wrap (shrI .i64 e12 (w64 (8 * k14))))] : List Int)).map row_Iu8) (l15 ++ ([(IntKind.u8.wrap (shrI .i64 e12 (w64 (8 * k14))))] : List Int)).length, .n 9, .keep [0, 1, 8, 9, 10, 11, 12] [100000]] rfl ⟨⟨⟨⟨⟨trivial, hc19⟩, (fun σ h1 h2 _ => Stp.shr rfl rfl (hC ▸ rfl) (h1 _ _ rfl) (h1 _ _ rfl) (of_decide_eq_true hk20))⟩, (fun σ h1 h2 _ => Stp.convI rfl rfl (hC ▸ rfl) (h1 _ _ rfl) it_3 it_5)⟩, rfl⟩, ⟨mapLen, appLim hk21 mapLen, mapApps, appLn mapLen⟩⟩ ?_
          obtain rfl := Option.some.inj h
          exact rndN rfl rfl
        · refine AK.go tab_ok hC [.br false, .n 2, .keep [0, 1, 10, 11, 12] [100000]] rfl ⟨trivial, hc19⟩ ?_
          obtain rfl := Option.some.inj h
          exact rndX rfl (And.intro rfl rfl)
      · replace h : F_mark_put_v4_c2 x6 l18 = some o := h
        unfold F_mark_put_v4_c2 at h
        rintro e σ ⟨rfl, rfl⟩
        refine AK.go tab_ok hC [.n 7, .keep [0, 1, 10, 11, 12] [100000]] rfl trivial ?_
        obtain rfl := Option.some.inj h
        exact rndN rfl rfl
    · refine AK.go tab_ok hC [.br false, .n 2, .keep [0] [100000]] rfl ⟨trivial, hc11⟩ ?_
      obtain rfl := Option.some.inj h
      exact rndX rfl (And.intro rfl rfl)
  · replace h : F_mark_put_v4_c4 l10 = some r := h
    unfold F_mark_put_v4_c4 at h
    rintro e σ ⟨rfl, rfl⟩
    refine AK.go tab_ok hC [.n 9, .keep [6] [100000]] rfl trivial ?_
    obtain rfl := Option.some.inj h
    refine AK.done ?_
    exact Exists.intro [_] (And.intro (And.intro rfl trivial) (gives ⟨rfl, trivial⟩))

-- 72 baldric/mark.Encode
noncomputable def F_mark_Encode_g1 (e13 : (List (Int × Int))) : Option Bool :=
  (F_bag_Right e13).bind fun x16 =>
  bif (!x16) then
  some true
  else
  bif (decide (65535 < (e13.length : Int))) then
  some true
  else
  bif (decide (0 < (e13.length : Int))) then
  (idx e13 (w64 ((e13.length : Int) - 1))).bind fun e20 =>
  some (decide (4294967295 < e20.1))
  else
  some false

noncomputable def F_mark_Encode_l2 (e13 : (List (Int × Int))) (x24 : Int) (l25 : (List Int)) : Option ((Int × (List Int)) ⊕ (List Int)) :=
  bif (decide (x24 < (e13.length : Int))) then
  (idx e13 x24).bind fun e30 =>
  (F_mark_put_v4 l25 4 ([e30.1, e30.2] : List Int)).bind fun x31 =>
  some (.inl ((w64 (x24 + 1)), x31))
  else
  some (.inr l25)

noncomputable def F_mark_Encode_c3 (x7 : Int) (l28 : (List Int)) : Option ((Int × (List Int)) ⊕ (List Int)) :=
  some (.inl ((w64 (x7 + 1)), l28))

noncomputable def F_mark_Encode_k4 (l8 : (List Int)) (e13 : (List (Int × Int))) (x7 : Int) (x14 : Bool) : Option ((Int × (List Int)) ⊕ (List Int)) :=
  bif x14 then
  none
  else
  (F_mark_put_v4 l8 2 ([(e13.length : Int)] : List Int)).bind fun x22 =>
  (loopM (fun st => F_mark_Encode_l2 e13 st.1 st.2) (0, x22)).bind (fun q => F_mark_Encode_c3 x7 q)

noncomputable def F_mark_Encode_l5 (m1 : (List (List (Int × Int)))) (x7 : Int) (l8 : (List Int)) : Option ((Int × (List Int)) ⊕ (List Int)) :=
  bif (decide (x7 < (m1.length : Int))) then
  (idx m1 x7).bind fun e13 =>
  (F_mark_Encode_g1 e13).bind (fun x14 => F_mark_Encode_k4 l8 e13 x7 x14)
  else
  some (.inr l8)

noncomputable def F_mark_Encode_c6 (l11 : (List Int)) : Option ((List Int) × Int) :=
  some (l11, 0)

noncomputable def F_mark_Encode (m1 : (List (List (Int × Int)))) : Option ((List Int) × Int) :=
  bif (decide (64 < (m1.length : Int))) then
  none
  else
  (F_mark_put_v2 1 ([(m1.length : Int)] : List Int)).bind fun x5 =>
  (loopM (fun st => F_mark_Encode_l5 m1 st.1 st.2) (0, x5)).bind (fun q => F_mark_Encode_c6 q)

set_option maxRecDepth 100000 in
set_option maxHeartbeats 4000000 in
theorem F_mark_Encode_ok (m1 : (List (List (Int × Int)))) {r : ((List Int) × Int)} (h : F_mark_Encode m1 = some r) : ACalls Tryz.prog 72 [.sl 1 (m1.map row_LA2I)] [] (Gives (.tup [.sl 1 (r.1.map row_Iu8), .i .i64 r.2]) []) := by
  refine ACalls.walk 66 Tryz.func72 rfl Tryz.ntmps72 rfl fun C hC => ?_
  unfold F_mark_Encode at h
  refine AK.go tab_ok hC [.n 10, .o (.ln m1.length), .n 3] rfl ⟨trivial, mapLen⟩ ?_
  rcases bifE h with ⟨hc4, h⟩ | ⟨hc4, h⟩
  · refine AK.go tab_ok hC [.br true, .n 1] rfl ⟨trivial, hc4⟩ ?_
    cases h
  · obtain ⟨x5, hx5, h⟩ := bindE h
    refine AK.go tab_ok hC [.br false, .n 5, .o (.ln m1.length), .v (.bd []) [] (.sl 1 (([(m1.length : Int)] : List Int).map row_I)), .cm (.fn) [] [(15, 30000)] [] [.d, .d, .d] [(30000, .arr 1 (x5.map row_Iu8))] (.own 30000 x5.length), .n 7, .o (.ln m1.length), .n 4, .keep [4, 16, 17, 18] [15]] rfl ⟨⟨⟨⟨⟨trivial, hc4⟩, mapLen⟩, rfl⟩, (F_mark_put_v2_ok _ _ hx5)⟩, mapLen⟩ ?_
    obtain ⟨l11, hl33, h⟩ := bindE h
    refine AK.loop (body := (fun st => F_mark_Encode_l5 m1 st.1 st.2)) (fun st σ => σ = ⟨[(4, .own 15 st.2.length), (16, .sl 1 (m1.map row_LA2I)), (17, .i .i64 (m1.length : Int)), (18, .i .i64 st.1)], [(15, .arr 1 (st.2.map row_Iu8))]⟩) (fun q e σ => e = .exit 0 ∧ σ = ⟨[(4, .own 15 q.length)], [(15, .arr 1 (q.map row_Iu8))]⟩) hl33 rfl ?_ ?_
    · rintro ⟨x7, l8⟩ o σ rfl h
      replace h : F_mark_Encode_l5 m1 x7 l8 = some o := h
      unfold F_mark_Encode_l5 at h
      refine AK.go tab_ok hC [.n 6] rfl trivial ?_
      rcases bifE h with ⟨hc12, h⟩ | ⟨hc12, h⟩
      · obtain ⟨e13, he13, h⟩ := bindE h
        refine AK.go tab_ok hC [.br true, .n 6, .o (.row (row_LA2I e13)), .n 6] rfl ⟨⟨trivial, hc12⟩, (idxM he13)⟩ ?_
        obtain ⟨x14, hv15, h⟩ := bindE h
        replace h : F_mark_Encode_k4 l8 e13 x7 x14 = some o := h
        refine AK.meetX (fun σ => σ = ⟨[(4, .own 15 l8.length), (6, .sl 2 (e13.map row_A2I)), (16, .sl 1 (m1.map row_LA2I)), (17, .i .i64 (m1.length : Int)), (18, .i .i64 x7), (44, .b x14)], [(15, .arr 1 (l8.map row_Iu8))]⟩) ?_ ?_
        · replace h := hv15
          unfold F_mark_Encode_g1 at h
          obtain ⟨x16, hx16, h⟩ := bindE h
          refine AK.go tab_ok hC [.n 2, .o (.c false [.d] (.b x16)), .n 2] rfl ⟨trivial, (F_bag_Right_ok _ hx16)⟩ ?_
          rcases bifE h with ⟨hc17, h⟩ | ⟨hc17, h⟩
          · refine AK.go tab_ok hC [.say 25 (.b true), .n 20, .keep [4, 6, 16, 17, 18, 44] [15]] rfl ⟨trivial, (congrArg V.b hc17)⟩ ?_
            obtain rfl := Option.some.inj h
            exact AK.met rfl
          · refine AK.go tab_ok hC [.say 25 (.b false), .n 1, .o (.ln e13.length), .n 3] rfl ⟨⟨trivial, (congrArg V.b hc17)⟩, mapLen⟩ ?_
            rcases bifE h with ⟨hc18, h⟩ | ⟨hc18, h⟩
            · refine AK.go tab_ok hC [.say 30 (.b true), .n 15, .keep [4, 6, 16, 17, 18, 44] [15]] rfl ⟨trivial, (congrArg V.b hc18)⟩ ?_
              obtain rfl := Option.some.inj h
              exact AK.met rfl
            · refine AK.go tab_ok hC [.say 30 (.b false), .n 1, .o (.ln e13.length), .n 2] rfl ⟨⟨trivial, (congrArg V.b hc18)⟩, mapLen⟩ ?_
              rcases bifE h with ⟨hc19, h⟩ | ⟨hc19, h⟩
              · obtain ⟨e20, he20, h⟩ := bindE h
                refine AK.go tab_ok hC [.say 34 (.b true), .n 2, .o (.ln e13.length), .n 1, .o (.row (row_A2I e20)), .n 6, .keep [4, 6, 16, 17, 18, 44] [15]] rfl ⟨⟨⟨trivial, (congrArg V.b hc19)⟩, mapLen⟩, (idxM he20)⟩ ?_
                obtain rfl := Option.some.inj h
                exact AK.met rfl
              · refine AK.go tab_ok hC [.say 34 (.b false), .n 11, .keep [4, 6, 16, 17, 18, 44] [15]] rfl ⟨trivial, (congrArg V.b hc19)⟩ ?_
                obtain rfl := Option.some.inj h
                exact AK.met rfl
        · rintro σ rfl
          replace h : F_mark_Encode_k4 l8 e13 x7 x14 = some o := h
          unfold F_mark_Encode_k4 at h
          refine AK.go tab_ok hC [.n 1] rfl trivial ?_
          rcases bifE h with ⟨hc21, h⟩ | ⟨hc21, h⟩
          · refine AK.go tab_ok hC [.br true, .n 1] rfl ⟨trivial, hc21⟩ ?_
            cases h
          · obtain ⟨x22, hx22, h⟩ := bindE h
            refine AK.go tab_ok hC [.br false, .n 6, .o (.ln e13.length), .v (.bd []) [] (.sl 1 (([(e13.length : Int)] : List Int).map row_I)), .cm (.fn) [(100000, 15)] [(15, 100000)] [15] [.d, .d, .d] [(100000, .arr 1 (x22.map row_Iu8))] (.own 100000 x22.length), .n 6, .o (.ln e13.length), .n 4, .keep [4, 16, 17, 18, 50, 51, 52] [15]] rfl ⟨⟨⟨⟨⟨trivial, hc21⟩, mapLen⟩, rfl⟩, (F_mark_put_v4_ok _ _ _ hx22)⟩, mapLen⟩ ?_
            obtain ⟨l28, hl32, h⟩ := bindE h
            refine AK.loop (body := (fun st => F_mark_Encode_l2 e13 st.1 st.2)) (fun st σ => σ = ⟨[(4, .own 15 st.2.length), (16, .sl 1 (m1.map row_LA2I)), (17, .i .i64 (m1.length : Int)), (18, .i .i64 x7), (50, .sl 2 (e13.map row_A2I)), (51, .i .i64 (e13.length : Int)), (52, .i .i64 st.1)], [(15, .arr 1 (st.2.map row_Iu8))]⟩) (fun q e σ => e = .exit 2 ∧ σ = ⟨[(4, .own 15 q.length), (16, .sl 1 (m1.map row_LA2I)), (17, .i .i64 (m1.length : Int)), (18, .i .i64 x7)], [(15, .arr 1 (q.map row_Iu8))]⟩) hl32 rfl ?_ ?_
            · rintro ⟨x24, l25⟩ o σ rfl h
              replace h : F_mark_Encode_l2 e13 x24 l25 = some o := h
              unfold F_mark_Encode_l2 at h
              refine AK.go tab_ok hC [.n 6] rfl trivial ?_
              rcases bifE h with ⟨hc29, h⟩ | ⟨hc29, h⟩
              · obtain ⟨e30, he30, h⟩ := bindE h
                obtain ⟨x31, hx31, h⟩ := bindE h
                refine AK.go tab_ok hC [.br true, .n 6, .o (.row (row_A2I e30)), .v .no [] (.agg (row_A2I e30)), .n 2, .sayO 8 (.var (row_A2I e30)), .n 8, .v (.bd []) [] (.sl 1 (([e30.1, e30.2] : List Int).map row_I)), .cm (.fn) [(100000, 15)] [(15, 100000)] [15] [.d, .d, .d] [(100000, .arr 1 (x31.map row_Iu8))] (.own 100000 x31.length), .n 8, .keep [4, 16, 17, 18, 50, 51, 52] [15]] rfl ⟨⟨⟨⟨⟨⟨trivial, hc29⟩, (idxM he30)⟩, rfl⟩, rfl⟩, rfl⟩, (F_mark_put_v4_ok _ _ _ hx31)⟩ ?_
                obtain rfl := Option.some.inj h
                exact rndN rfl rfl
              · refine AK.go tab_ok hC [.br false, .n 2, .keep [4, 16, 17, 18] [15]] rfl ⟨trivial, hc29⟩ ?_
                obtain rfl := Option.some.inj h
                exact rndX rfl (And.intro rfl rfl)
            · replace h : F_mark_Encode_c3 x7 l28 = some o := h
              unfold F_mark_Encode_c3 at h
              rintro e σ ⟨rfl, rfl⟩
              refine AK.go tab_ok hC [.n 7, .keep [4, 16, 17, 18] [15]] rfl trivial ?_
              obtain rfl := Option.some.inj h
              exact rndN rfl rfl
      · refine AK.go tab_ok hC [.br false, .n 2, .keep [4] [15]] rfl ⟨trivial, hc12⟩ ?_
        obtain rfl := Option.some.inj h
        exact rndX rfl (And.intro rfl rfl)
    · replace h : F_mark_Encode_c6 l11 = some r := h
      unfold F_mark_Encode_c6 at h
      rintro e σ ⟨rfl, rfl⟩
      refine AK.go tab_ok hC [.n 10, .frz 15 (l11.map row_Iu8) [2] [], .keep [2, 3] []] rfl ⟨trivial, ⟨trivial, (frzL mapLen)⟩⟩ ?_
      obtain rfl := Option.some.inj h
      refine AK.done ?_
      exact Exists.intro [_, _] (And.intro (And.intro rfl (And.intro rfl trivial)) (gives trivial))

-- 57 baldric/space.key
noncomputable def F_space_key (m1 : (List (List (Int × Int)))) : Option ByteArray :=
  (F_mark_Encode m1).bind fun x3 =>
  some (strOf x3.1)

set_option maxRecDepth 100000 in
set_option maxHeartbeats 4000000 in
theorem F_space_key_ok (m1 : (List (List (Int × Int)))) {r : ByteArray} (h : F_space_key m1 = some r) : ACalls Tryz.prog 57 [.sl 1 (m1.map row_LA2I)] [] (Gives (.s r) []) := by
  refine ACalls.walk 12 Tryz.func57 rfl Tryz.ntmps57 rfl fun C hC => ?_
  unfold F_space_key at h
  obtain ⟨x3, hx3, h⟩ := bindE h
  refine AK.go tab_ok hC [.n 8, .o (.c false [.d] (.tup [.sl 1 (x3.1.map row_Iu8), .i .i64 x3.2])), .n 10, .o (.any (.s (strOf x3.1)) none), .n 4, .keep [2] []] rfl ⟨⟨trivial, (F_mark_Encode_ok _ hx3)⟩, (fun σ h1 h2 _ => Stp.b2s rfl rfl (hC ▸ rfl) (h1 _ _ rfl) rfl un_128 it_5 (tab_ok.sb rfl))⟩ ?_
  obtain rfl := Option.some.inj h
  refine AK.done ?_
  exact Exists.intro [_] (And.intro (And.intro rfl trivial) (gives trivial))

-- 36 (*baldric/space.explorer).state
noncomputable def F_space_explorer_state (v1 : (List TColour)) (v2 : (List TPlace)) (v3 : (List TTask)) (v4 : Int) (v5 : Int) (v6 : Int) (m7 : (List (ByteArray × Int))) (l8 : (List (List (List (Int × Int))))) (l9 : (List TEdge)) (v10 : Bool) (m11 : (List (List (Int × Int)))) : Option (Int × (List (List (List (Int × Int)))) × (List TColour) × (List TPlace) × (List TTask) × Int × Int × Int × Bool × (List (ByteArray × Int))) :=
  (F_space_key m11).bind fun x25 =>
  bif (mget m7 x25).isSome then
  none
  else
  bif (decide ((min2 v6 4096) ≤ (l8.length : Int))) then
  some ((-1), l8, v1, v2, v3, v4, v5, v6, v10, m7)
  else
  (F_space_key m11).bind fun x28 =>
  (chk (decide (l8.length + ([m11] : List (List (List (Int × Int)))).length ≤ 4294967296))).bind fun _ =>
  some ((l8.length : Int), (l8 ++ ([m11] : List (List (List (Int × Int))))), v1, v2, v3, v4, v5, v6, v10, (mset ltS m7 x28 (l8.length : Int)))

set_option maxRecDepth 100000 in
set_option maxHeartbeats 4000000 in
theorem F_space_explorer_state_ok (v1 : (List TColour)) (v2 : (List TPlace)) (v3 : (List TTask)) (v4 : Int) (v5 : Int) (v6 : Int) (m7 : (List (ByteArray × Int))) (l8 : (List (List (List (Int × Int))))) (l9 : (List TEdge)) (v10 : Bool) (m11 : (List (List (Int × Int)))) {r : (Int × (List (List (List (Int × Int)))) × (List TColour) × (List TPlace) × (List TTask) × Int × Int × Int × Bool × (List (ByteArray × Int)))} (h : F_space_explorer_state v1 v2 v3 v4 v5 v6 m7 l8 l9 v10 m11 = some r) : ACalls Tryz.prog 36 [.loc 200000 0 0, .sl 1 (m11.map row_LA2I)] [(200000, .var [.sl 7 (v1.map row_TColour), .sl 3 (v2.map row_TPlace), .sl 14 (v3.map row_TTask), .i .i64 v4, .i .i64 v5, .i .i64 v6, .map 200001, .own 100000 l8.length, .own 100001 l9.length, .b v10]), (200001, .map (mapV V.s (V.i .i64) m7)), (100000, .arr 1 (l8.map row_LLA2I)), (100001, .arr 6 (l9.map row_TEdge))] (Gives (.i .i64 r.1) [(100000, .arr 1 (r.2.1.map row_LLA2I)), (100001, .arr 6 (l9.map row_TEdge)), (200000, .var [.sl 7 (r.2.2.1.map row_TColour), .sl 3 (r.2.2.2.1.map row_TPlace), .sl 14 (r.2.2.2.2.1.map row_TTask), .i .i64 r.2.2.2.2.2.1, .i .i64 r.2.2.2.2.2.2.1, .i .i64 r.2.2.2.2.2.2.2.1, .map 200001, .own 100000 r.2.1.length, .own 100001 l9.length, .b r.2.2.2.2.2.2.2.2.1]), (200001, .map (mapV V.s (V.i .i64) r.2.2.2.2.2.2.2.2.2))]) := by
  refine ACalls.walk 59 Tryz.func36 rfl Tryz.ntmps36 rfl fun C hC => ?_
  unfold F_space_explorer_state at h
  obtain ⟨x25, hx25, h⟩ := bindE h
  refine AK.go tab_ok hC [.n 6, .keep [0, 1] [100000, 100001, 200000, 200001]] rfl trivial ?_
  refine AK.draw2 tab_ok hC mixed [.a .no none false, .a .no none false, .a .no none false, .a .no none false, .a .no none false, .a (.c false [.d] (.s x25)) none false, .a (.any (.tup [.i .i64 ((mget m7 x25).getD 0), .b (mget m7 x25).isSome]) none) none false, .a .no none false, .a .no none false, .a .no none false, .a .no none false, .a .no none false] [] [] [0, 1, 5, 6] [100000, 100001, 200000, 200001] rfl rfl rfl ⟨⟨trivial, (F_space_key_ok _ hx25)⟩, (fun σ h1 h2 _ => Stp.lookupOk (e := V.s) (f := (V.i .i64)) (l := m7) (k := x25) (z := 0) rfl rfl (hC ▸ rfl) (h1 _ _ rfl) (h2 _ _ rfl) (h1 _ _ rfl) mt_87 ky_9 zi_3 rfl rfl)⟩ rfl (by kernel_rfl) rfl rfl rfl ?_
  refine AK.go tab_ok hC [.n 9] rfl trivial ?_
  rcases bifE h with ⟨hc26, h⟩ | ⟨hc26, h⟩
  · refine AK.go tab_ok hC [.br true, .n 1] rfl ⟨trivial, hc26⟩ ?_
    cases h
  · refine AK.go tab_ok hC [.br false, .n 1, .keep [0, 1] [100000, 100001, 200000, 200001]] rfl ⟨trivial, hc26⟩ ?_
    refine AK.draw2 tab_ok hC mixed [.a .no none false, .a .no none false, .a .no none false, .a .no none false, .a .no none false, .a .no none false, .a .no none false, .a .no none false, .a .no none false, .a .no none false, .a .no none false, .a .no none false, .a .no none false] [] [] [0, 1, 20] [100000, 100001, 200000, 200001] rfl rfl rfl trivial rfl (by kernel_rfl) rfl rfl rfl ?_
    refine AK.go tab_ok hC [.n 1] rfl trivial ?_
    rcases bifE h with ⟨hc27, h⟩ | ⟨hc27, h⟩
    · refine AK.go tab_ok hC [.br true, .n 8, .keep [4] [100000, 100001, 200000, 200001]] rfl ⟨trivial, hc27⟩ ?_
      obtain rfl := Option.some.inj h
      refine AK.done ?_
      exact Exists.intro [_] (And.intro (And.intro rfl trivial) (gives ⟨rfl, rfl, rfl, rfl, trivial⟩))
    · obtain ⟨x28, hx28, h⟩ := bindE h
      refine AK.go tab_ok hC [.br false, .n 15, .keep [0, 1, 5] [100000, 100001, 200000, 200001]] rfl ⟨trivial, hc27⟩ ?_
      refine AK.draw2 tab_ok hC mixed [.a .no none false, .a .no none false, .a .no none false, .a .no none false, .a .no none false, .a (.c false [.d] (.s x28)) none false, .a .no none false, .m (.any ⟨[], [(200001, .map (mapV V.s (V.i .i64) (mset ltS m7 x28 (l8.length : Int))))], none⟩)] [] [] [0, 1, 5] [100000, 100001, 200000, 200001] rfl rfl rfl ⟨⟨trivial, (F_space_key_ok _ hx28)⟩, (fun σ h1 h2 => Stp.mapUpdate (e := V.s) (f := (V.i .i64)) (l := m7) (k := x28) (v := (l8.length : Int)) ltS rfl rfl (h1 _ _ rfl) (h2 _ _ rfl) (h1 _ _ rfl) (h1 _ _ rfl) mt_87 ky_9 rfl)⟩ rfl (by kernel_rfl) rfl rfl rfl ?_
      obtain ⟨_, hk29, h⟩ := bindE h
      replace hk29 := chkE hk29
      refine AK.go tab_ok hC [.n 10, .v (.bd []) [] (.sl 1 (([m11] : List (List (List (Int × Int)))).map row_LLA2I)), .app ((l8 ++ ([m11] : List (List (List (Int × Int))))).map row_LLA2I) (l8 ++ ([m11] : List (List (List (Int × Int))))).length, .n 4, .sayO 200000 (.var [.sl 7 (v1.map row_TColour), .sl 3 (v2.map row_TPlace), .sl 14 (v3.map row_TTask), .i .i64 v4, .i .i64 v5, .i .i64 v6, .map 200001, .own 100000 (l8 ++ ([m11] : List (List (List (Int × Int))))).length, .own 100001 l9.length, .b v10]), .n 9, .keep [4] [100000, 100001, 200000, 200001]] rfl ⟨⟨⟨trivial, rfl⟩, ⟨mapLen, appLim hk29 mapLen, mapApps, appLn mapLen⟩⟩, rfl⟩ ?_
      obtain rfl := Option.some.inj h
      refine AK.done ?_
      exact Exists.intro [_] (And.intro (And.intro rfl trivial) (gives ⟨rfl, rfl, rfl, rfl, trivial⟩))

-- 59 baldric/bag.Total
noncomputable def F_bag_Total_m1 (n6 : Int) (k8 : Int) (v9 : Int) : Option (Int ⊕ Empty) :=
  some (.inl (w64 (n6 + v9)))

noncomputable def F_bag_Total_c2 (n6 : Int) : Option Int :=
  some n6

noncomputable def F_bag_Total (b1 : (List (Int × Int))) : Option Int :=
  (F_bag_of b1).bind fun x3 =>
  (rangeM (fun st p => F_bag_Total_m1 st p.1 p.2) 0 x3.2).bind (Sum.elim (fun q => F_bag_Total_c2 q) (fun q => Empty.elim q))

set_option maxRecDepth 100000 in
set_option maxHeartbeats 4000000 in
theorem F_bag_Total_ok (b1 : (List (Int × Int))) {r : Int} (h : F_bag_Total b1 = some r) : ACalls Tryz.prog 59 [.sl 2 (b1.map row_A2I)] [] (Gives (.i .i64 r) []) := by
  refine ACalls.walk 23 Tryz.func59 rfl Tryz.ntmps59 rfl fun C hC => ?_
  unfold F_bag_Total at h
  obtain ⟨x3, hx3, h⟩ := bindE h
  refine AK.go tab_ok hC [.n 8, .cm (.fn) [] [(10, 30002)] [] [.d] [(30002, .map (mapV (V.i .i64) (V.i .i64) x3.2))] (.tup [.map 30002, .b x3.1]), .n 16] rfl ⟨trivial, (F_bag_of_ok _ hx3)⟩ ?_
  refine AK.openMap (b := 10) ky_3 rfl fun bm4 cl4 L4 hbn4 hpm4 => ?_
  refine AK.go tab_ok hC [.x (fun σ => (σ.set 14 (.itr bm4 cl4 #[] none)).put 14 (.loc 14 0 0)), .n 3, .keep [5, 14] [10, 14]] rfl ⟨trivial, (Stp.range (b := 10) rfl rfl (hC ▸ rfl) rfl rfl mt_117 rfl)⟩ ?_
  obtain ⟨o10, hl10, h⟩ := bindE h
  refine AK.range (body := (fun st p => F_bag_Total_m1 st p.1 p.2)) (fun st seen σ => ∃ cur : Option MapEntry, σ = ⟨[(5, .i .i64 st), (14, .loc 14 0 0)], [(10, .mapX bm4 cl4 (typV (V.i .i64) (V.i .i64) L4) (mapV (V.i .i64) (V.i .i64) x3.2)), (14, .itr bm4 cl4 seen cur)]⟩) (fun (q : Empty) _ _ => False) (fun st e σ => e = .exit 0 ∧ σ = ⟨[(5, .i .i64 st)], []⟩) hbn4 hpm4 hl10 (Exists.intro _ rfl) ?_ ?_
  · rintro n6 seen σ ⟨cur, rfl⟩ hex
    refine AK.go tab_ok hC [.n 2] rfl trivial ?_
    refine AK.nextT (b := 14) (m := 10) rfl rfl rfl (hC ▸ rfl) rfl rfl rfl rfl ?_ ?_
    · intro hleft
      refine AK.go tab_ok hC [.n 7, .keep [5] []] rfl trivial ?_
      exact AK.done (Or.inl (And.intro hleft (And.intro (fun h => (by cases h)) (And.intro rfl rfl))))
    · intro xk8 k8 v9 hq5
      obtain ⟨o, h⟩ := hex _ hq5
      have ho := h
      replace h : F_bag_Total_m1 n6 k8 v9 = some o := h
      unfold F_bag_Total_m1 at h
      refine AK.go tab_ok hC [.n 10, .x (fun σ => σ.put 17 (.tup [.i .i64 k8, .i .i64 v9])), .n 11, .keep [5, 14] [10, 14]] rfl ⟨trivial, (Stp.entryT (b := 14) (m := 10) rfl rfl (hC ▸ rfl) rfl hq5 rfl rfl)⟩ ?_
      obtain rfl := Option.some.inj h
      exact AK.done (Or.inr (Exists.intro _ (And.intro hq5 (Or.inl (Exists.intro _ (And.intro ho (And.intro rfl (Exists.intro _ rfl))))))))
  · rcases o10 with (n6 | q)
    · replace h : F_bag_Total_c2 n6 = some r := h
      unfold F_bag_Total_c2 at h
      rintro e σ ⟨rfl, rfl⟩
      refine AK.go tab_ok hC [.n 9, .keep [2] []] rfl trivial ?_
      obtain rfl := Option.some.inj h
      refine AK.done ?_
      exact Exists.intro [_] (And.intro (And.intro rfl trivial) (gives trivial))
    · exact q.elim

-- 38 baldric/mark.Total
noncomputable def F_mark_Total_l1 (m1 : (List (List (Int × Int)))) (n3 : Int) (x4 : Int) : Option ((Int × Int) ⊕ Int) :=
  bif (decide (x4 < (m1.length : Int))) then
  (idx m1 x4).bind fun e9 =>
  (F_bag_Total e9).bind fun x10 =>
  some (.inl ((w64 (n3 + x10)), (w64 (x4 + 1))))
  else
  some (.inr n3)

noncomputable def F_mark_Total_c2 (n7 : Int) : Option Int :=
  some n7

noncomputable def F_mark_Total (m1 : (List (List (Int × Int)))) : Option Int :=
  (loopM (fun st => F_mark_Total_l1 m1 st.1 st.2) (0, 0)).bind (fun q => F_mark_Total_c2 q)

set_option maxRecDepth 100000 in
set_option maxHeartbeats 4000000 in
theorem F_mark_Total_ok (m1 : (List (List (Int × Int)))) {r : Int} (h : F_mark_Total m1 = some r) : ACalls Tryz.prog 38 [.sl 1 (m1.map row_LA2I)] [] (Gives (.i .i64 r) []) := by
  refine ACalls.walk 18 Tryz.func38 rfl Tryz.ntmps38 rfl fun C hC => ?_
  unfold F_mark_Total at h
  refine AK.go tab_ok hC [.n 14, .o (.ln m1.length), .n 4, .keep [3, 6, 7, 8] []] rfl ⟨trivial, mapLen⟩ ?_
  obtain ⟨n7, hl11, h⟩ := bindE h
  refine AK.loop (body := (fun st => F_mark_Total_l1 m1 st.1 st.2)) (fun st σ => σ = ⟨[(3, .i .i64 st.1), (6, .sl 1 (m1.map row_LA2I)), (7, .i .i64 (m1.length : Int)), (8, .i .i64 st.2)], []⟩) (fun q e σ => e = .exit 0 ∧ σ = ⟨[(3, .i .i64 q)], []⟩) hl11 rfl ?_ ?_
  · rintro ⟨n3, x4⟩ o σ rfl h
    replace h : F_mark_Total_l1 m1 n3 x4 = some o := h
    unfold F_mark_Total_l1 at h
    refine AK.go tab_ok hC [.n 6] rfl trivial ?_
    rcases bifE h with ⟨hc8, h⟩ | ⟨hc8, h⟩
    · obtain ⟨e9, he9, h⟩ := bindE h
      obtain ⟨x10, hx10, h⟩ := bindE h
      refine AK.go tab_ok hC [.br true, .n 6, .o (.row (row_LA2I e9)), .n 7, .o (.c false [.d] (.i .i64 x10)), .n 9, .keep [3, 6, 7, 8] []] rfl ⟨⟨⟨trivial, hc8⟩, (idxM he9)⟩, (F_bag_Total_ok _ hx10)⟩ ?_
      obtain rfl := Option.some.inj h
      exact rndN rfl rfl
    · refine AK.go tab_ok hC [.br false, .n 2, .keep [3] []] rfl ⟨trivial, hc8⟩ ?_
      obtain rfl := Option.some.inj h
      exact rndX rfl (And.intro rfl rfl)
  · replace h : F_mark_Total_c2 n7 = some r := h
    unfold F_mark_Total_c2 at h
    rintro e σ ⟨rfl, rfl⟩
    refine AK.go tab_ok hC [.n 9, .keep [2] []] rfl trivial ?_
    obtain rfl := Option.some.inj h
    refine AK.done ?_
    exact Exists.intro [_] (And.intro (And.intro rfl trivial) (gives trivial))

-- 91 baldric/bind.Choices
noncomputable def F_bind_Choices_l1 (arcs2 : Int) (x11 : Int) (l12 : (List Int)) : Option ((Int × (List Int)) ⊕ (List Int)) :=
  bif (decide (x11 < arcs2)) then
  (chk (decide (l12.length + ([x11] : List Int).length ≤ 4294967296))).bind fun _ =>
  some (.inl ((w64 (x11 + 1)), (l12 ++ ([x11] : List Int))))
  else
  some (.inr l12)

noncomputable def F_bind_Choices_c2 (l15 : (List Int)) : Option (List (List Int)) :=
  some ([l15] : List (List Int))

noncomputable def F_bind_Choices (kind1 : Int) (arcs2 : Int) : Option (List (List Int)) :=
  bif ((decide (arcs2 < 0)) || ((decide (16 < arcs2)) || ((kind1 == 3) && (decide (4 < arcs2))))) then
  none
  else
  bif (kind1 == 1) then
  (loopM (fun st => F_bind_Choices_l1 arcs2 st.1 st.2) (0, ([] : List Int))).bind (fun q => F_bind_Choices_c2 q)
  else
  bif (kind1 == 2) then
  none
  else
  bif (kind1 == 3) then
  none
  else
  none

set_option maxRecDepth 100000 in
set_option maxHeartbeats 4000000 in
theorem F_bind_Choices_ok (kind1 : Int) (arcs2 : Int) {r : (List (List Int))} (h : F_bind_Choices kind1 arcs2 = some r) : ACalls Tryz.prog 91 [.i .i64 kind1, .i .i64 arcs2] [] (Gives (.own 30000 r.length) [(30000, .arr 1 (r.map row_LI))]) := by
  refine ACalls.walk 79 Tryz.func91 rfl Tryz.ntmps91 rfl fun C hC => ?_
  unfold F_bind_Choices at h
  refine AK.go tab_ok hC [.n 7] rfl trivial ?_
  refine AK.meetX (fun σ => σ = ⟨[(0, .i .i64 kind1), (1, .i .i64 arcs2), (25, .b ((decide (arcs2 < 0)) || ((decide (16 < arcs2)) || ((kind1 == 3) && (decide (4 < arcs2))))))], []⟩) ?_ ?_
  · refine AK.go tab_ok hC [.n 4] rfl trivial ?_
    rcases boolOr (decide (arcs2 < 0)) with hc5 | hc5
    · refine AK.go tab_ok hC [.say 14 (.b true), .n 12, .say 25 (.b ((decide (arcs2 < 0)) || ((decide (16 < arcs2)) || ((kind1 == 3) && (decide (4 < arcs2)))))), .keep [0, 1, 25] []] rfl ⟨⟨trivial, (congrArg V.b hc5)⟩, (congrArg V.b (orT hc5 rfl))⟩ ?_
      exact AK.met rfl
    · refine AK.go tab_ok hC [.say 14 (.b false), .n 4] rfl ⟨trivial, (congrArg V.b hc5)⟩ ?_
      rcases boolOr (decide (16 < arcs2)) with hc6 | hc6
      · refine AK.go tab_ok hC [.say 18 (.b true), .n 8, .say 25 (.b ((decide (arcs2 < 0)) || ((decide (16 < arcs2)) || ((kind1 == 3) && (decide (4 < arcs2)))))), .keep [0, 1, 25] []] rfl ⟨⟨trivial, (congrArg V.b hc6)⟩, (congrArg V.b (orF hc5 (orT hc6 rfl)))⟩ ?_
        exact AK.met rfl
      · refine AK.go tab_ok hC [.say 18 (.b false), .n 3] rfl ⟨trivial, (congrArg V.b hc6)⟩ ?_
        rcases boolOr (kind1 == 3) with hc7 | hc7
        · refine AK.go tab_ok hC [.say 21 (.b true), .n 5, .say 25 (.b ((decide (arcs2 < 0)) || ((decide (16 < arcs2)) || ((kind1 == 3) && (decide (4 < arcs2)))))), .keep [0, 1, 25] []] rfl ⟨⟨trivial, (congrArg V.b hc7)⟩, (congrArg V.b (orF hc5 (orF hc6 (andT hc7 rfl))))⟩ ?_
          exact AK.met rfl
        · refine AK.go tab_ok hC [.say 21 (.b false), .n 5, .say 25 (.b ((decide (arcs2 < 0)) || ((decide (16 < arcs2)) || ((kind1 == 3) && (decide (4 < arcs2)))))), .keep [0, 1, 25] []] rfl ⟨⟨trivial, (congrArg V.b hc7)⟩, (congrArg V.b (orF hc5 (orF hc6 (andF hc7 rfl))))⟩ ?_
          exact AK.met rfl
  · rintro σ rfl
    refine AK.go tab_ok hC [.n 1] rfl trivial ?_
    rcases bifE h with ⟨hc8, h⟩ | ⟨hc8, h⟩
    · refine AK.go tab_ok hC [.br true, .n 1] rfl ⟨trivial, hc8⟩ ?_
      cases h
    · refine AK.go tab_ok hC [.br false, .n 20] rfl ⟨trivial, hc8⟩ ?_
      rcases bifE h with ⟨hc9, h⟩ | ⟨hc9, h⟩
      · refine AK.go tab_ok hC [.br true, .n 13, .adopt 6 33 1, .sayO 33 (.arr 1 (([] : List Int).map row_I)), .say 6 (.own 33 ([] : List Int).length), .keep [6, 29, 30] [33]] rfl ⟨⟨⟨trivial, hc9⟩, rfl⟩, (congrArg (fun n => V.own 33 n) (by simp))⟩ ?_
        obtain ⟨l15, hl18, h⟩ := bindE h
        refine AK.loop (body := (fun st => F_bind_Choices_l1 arcs2 st.1 st.2)) (fun st σ => σ = ⟨[(6, .own 33 st.2.length), (29, .i .i64 arcs2), (30, .i .i64 st.1)], [(33, .arr 1 (st.2.map row_I))]⟩) (fun q e σ => e = .exit 1 ∧ σ = ⟨[(6, .own 33 q.length)], [(33, .arr 1 (q.map row_I))]⟩) hl18 rfl ?_ ?_
        · rintro ⟨x11, l12⟩ o σ rfl h
          replace h : F_bind_Choices_l1 arcs2 x11 l12 = some o := h
          unfold F_bind_Choices_l1 at h
          refine AK.go tab_ok hC [.n 6] rfl trivial ?_
          rcases bifE h with ⟨hc16, h⟩ | ⟨hc16, h⟩
          · obtain ⟨_, hk17, h⟩ := bindE h
            replace hk17 := chkE hk17
            refine AK.go tab_ok hC [.br true, .n 13, .v (.bd []) [] (.sl 1 (([x11] : List Int).map row_I)), .app ((l12 ++ ([x11] : List Int)).map row_I) (l12 ++ ([x11] : List Int)).length, .n 8, .keep [6, 29, 30] [33]] rfl ⟨⟨⟨trivial, hc16⟩, rfl⟩, ⟨mapLen, appLim hk17 mapLen, mapApps, appLn mapLen⟩⟩ ?_
            obtain rfl := Option.some.inj h
            exact rndN rfl rfl
          · refine AK.go tab_ok hC [.br false, .n 2, .keep [6] [33]] rfl ⟨trivial, hc16⟩ ?_
            obtain rfl := Option.some.inj h
            exact rndX rfl (And.intro rfl rfl)
        · replace h : F_bind_Choices_c2 l15 = some r := h
          unfold F_bind_Choices_c2 at h
          rintro e σ ⟨rfl, rfl⟩
          refine AK.go tab_ok hC [.n 5, .frz 33 (l15.map row_I) [6, 38] [], .n 1, .sayO 39 (.arr 1 (([l15] : List (List Int)).map row_LI)), .say 39 (.own 39 ([l15] : List (List Int)).length), .n 6, .keep [4] [39], .ren 39 30000, .keep [4] [30000]] rfl ⟨⟨⟨trivial, ⟨⟨trivial, (frzL mapLen)⟩, (frzL mapLen)⟩⟩, rfl⟩, rfl⟩ ?_
          obtain rfl := Option.some.inj h
          refine AK.done ?_
          exact Exists.intro [_] (And.intro (And.intro rfl trivial) (gives ⟨rfl, trivial⟩))
      · refine AK.go tab_ok hC [.br false, .n 6] rfl ⟨trivial, hc9⟩ ?_
        rcases bifE h with ⟨hc19, h⟩ | ⟨hc19, h⟩
        · refine AK.go tab_ok hC [.br true, .n 1] rfl ⟨trivial, hc19⟩ ?_
          cases h
        · refine AK.go tab_ok hC [.br false, .n 6] rfl ⟨trivial, hc19⟩ ?_
          rcases bifE h with ⟨hc20, h⟩ | ⟨hc20, h⟩
          · refine AK.go tab_ok hC [.br true, .n 1] rfl ⟨trivial, hc20⟩ ?_
            cases h
          · refine AK.go tab_ok hC [.br false, .n 4] rfl ⟨trivial, hc20⟩ ?_
            cases h

-- 92 baldric/bind.bindings
noncomputable def F_bind_bindings (n1 : TNet) (t2 : TTask) : Option (TNet × TTask) :=
  some (n1, t2)

set_option maxRecDepth 100000 in
set_option maxHeartbeats 4000000 in
theorem F_bind_bindings_ok (n1 : TNet) (t2 : TTask) {r : (TNet × TTask)} (h : F_bind_bindings n1 t2 = some r) : ACalls Tryz.prog 92 [.agg (row_TNet n1), .agg (row_TTask t2)] [] (Gives (.clo (.func 110) [] [.loc 3 0 0, .loc 2 0 0]) [(2, .var (row_TNet r.1)), (3, .var (row_TTask r.2))]) := by
  refine ACalls.walk 6 Tryz.func92 rfl Tryz.ntmps92 rfl fun C hC => ?_
  unfold F_bind_bindings at h
  refine AK.go tab_ok hC [.n 14, .keep [4] [2, 3]] rfl trivial ?_
  obtain rfl := Option.some.inj h
  refine AK.done ?_
  exact Exists.intro [_] (And.intro (And.intro rfl trivial) (gives ⟨rfl, rfl, trivial⟩))

-- 100 slices.Clone[[]int,int]
noncomputable def F_slices_Clone_int_int (s1 : (List Int)) : Option (List Int) :=
  (chk (decide (([] : List Int).length + s1.length ≤ 4294967296))).bind fun _ =>
  some (([] : List Int) ++ s1)

set_option maxRecDepth 100000 in
set_option maxHeartbeats 4000000 in
theorem F_slices_Clone_int_int_ok (s1 : (List Int)) {r : (List Int)} (h : F_slices_Clone_int_int s1 = some r) : ACalls Tryz.prog 100 [.sl 1 (s1.map row_I)] [] (Gives (.own 30000 r.length) [(30000, .arr 1 (r.map row_I))]) := by
  refine ACalls.walk 8 Tryz.func100 rfl Tryz.ntmps100 rfl fun C hC => ?_
  unfold F_slices_Clone_int_int at h
  refine AK.go tab_ok hC [.n 9] rfl trivial ?_
  refine AK.eqNil rfl rfl rfl (hC ▸ rfl) rfl rfl un_31 ?_ ?_
  · intro hz4
    replace h : some ([] : List Int) = some r := by simpa [chk, List.map_eq_nil_iff.1 hz4] using h
    refine AK.go tab_ok hC [.n 10, .adopt 2 30000 1, .sayO 30000 (.arr 1 (([] : List Int).map row_I)), .say 2 (.own 30000 ([] : List Int).length), .keep [2] [30000]] rfl ⟨⟨trivial, rfl⟩, rfl⟩ ?_
    obtain rfl := Option.some.inj h
    refine AK.done ?_
    exact Exists.intro [_] (And.intro (And.intro rfl trivial) (gives ⟨rfl, trivial⟩))
  · obtain ⟨_, hk5, h⟩ := bindE h
    replace hk5 := chkE hk5
    refine AK.go tab_ok hC [.n 8, .sayO 5 (.arr 1 (([] : List Int).map row_I)), .say 5 (.own 5 ([] : List Int).length), .n 1, .app ((([] : List Int) ++ s1).map row_I) (([] : List Int) ++ s1).length, .n 4, .keep [2] [5], .ren 5 30000, .keep [2] [30000]] rfl ⟨⟨⟨trivial, rfl⟩, rfl⟩, ⟨mapLen, appLim hk5 mapLen, mapApps, appLn mapLen⟩⟩ ?_
    obtain rfl := Option.some.inj h
    refine AK.done ?_
    exact Exists.intro [_] (And.intro (And.intro rfl trivial) (gives ⟨rfl, trivial⟩))

-- 106 baldric/bind.Env
noncomputable def F_bind_Env_l1 (e9 : TTask) (x12 : Int) : Option (Int ⊕ Unit) :=
  bif (decide (x12 < (e9.Vars.length : Int))) then
  (idx e9.Vars x12).bind fun e15 =>
  none
  else
  some (.inr ())

noncomputable def F_bind_Env_c2 (e9 : TTask) : Option ((List Int) × Int) :=
  some ((List.replicate (e9.Vars.length : Int).toNat (0 : Int)), 0)

noncomputable def F_bind_Env (n1 : TNet) (task2 : Int) (vars3 : (List Int)) : Option ((List Int) × Int) :=
  bif ((decide (task2 < 0)) || (decide ((n1.Tasks.length : Int) ≤ task2))) then
  none
  else
  (idx n1.Tasks task2).bind fun e9 =>
  bif ((vars3.length : Int) != (e9.Vars.length : Int)) then
  none
  else
  (chk (decide (0 ≤ (e9.Vars.length : Int)) && decide ((e9.Vars.length : Int) ≤ (e9.Vars.length : Int)) && decide ((e9.Vars.length : Int) ≤ 4294967296))).bind fun _ =>
  (loopM (fun st => F_bind_Env_l1 e9 st) 0).bind (fun q => F_bind_Env_c2 e9)

set_option maxRecDepth 100000 in
set_option maxHeartbeats 4000000 in
theorem F_bind_Env_ok (n1 : TNet) (task2 : Int) (vars3 : (List Int)) {r : ((List Int) × Int)} (h : F_bind_Env n1 task2 vars3 = some r) : ACalls Tryz.prog 106 [.agg (row_TNet n1), .i .i64 task2, .sl 1 (vars3.map row_I)] [] (Gives (.tup [.sl 1 (r.1.map row_I), .i .i64 r.2]) []) := by
  refine ACalls.walk 64 Tryz.func106 rfl Tryz.ntmps106 rfl fun C hC => ?_
  unfold F_bind_Env at h
  refine AK.go tab_ok hC [.n 9] rfl trivial ?_
  refine AK.meetX (fun σ => σ = ⟨[(1, .i .i64 task2), (2, .sl 1 (vars3.map row_I)), (3, .loc 3 0 0), (22, .b ((decide (task2 < 0)) || (decide ((n1.Tasks.length : Int) ≤ task2))))], [(3, .var (row_TNet n1))]⟩) ?_ ?_
  · refine AK.go tab_ok hC [.n 4] rfl trivial ?_
    rcases boolOr (decide (task2 < 0)) with hc7 | hc7
    · refine AK.go tab_ok hC [.say 16 (.b true), .n 7, .say 22 (.b ((decide (task2 < 0)) || (decide ((n1.Tasks.length : Int) ≤ task2)))), .keep [1, 2, 3, 22] [3]] rfl ⟨⟨trivial, (congrArg V.b hc7)⟩, (congrArg V.b (orT hc7 rfl))⟩ ?_
      exact AK.met rfl
    · refine AK.go tab_ok hC [.say 16 (.b false), .n 3, .o (.ln n1.Tasks.length), .n 3, .say 22 (.b ((decide (task2 < 0)) || (decide ((n1.Tasks.length : Int) ≤ task2)))), .keep [1, 2, 3, 22] [3]] rfl ⟨⟨⟨trivial, (congrArg V.b hc7)⟩, mapLen⟩, (congrArg V.b (orF hc7 rfl))⟩ ?_
      exact AK.met rfl
  · rintro σ rfl
    refine AK.go tab_ok hC [.n 1] rfl trivial ?_
    rcases bifE h with ⟨hc8, h⟩ | ⟨hc8, h⟩
    · refine AK.go tab_ok hC [.br true, .n 1] rfl ⟨trivial, hc8⟩ ?_
      cases h
    · obtain ⟨e9, he9, h⟩ := bindE h
      refine AK.go tab_ok hC [.br false, .n 7, .o (.row (row_TTask e9)), .n 9, .o (.ln vars3.length), .n 1, .o (.ln e9.Vars.length), .n 3] rfl ⟨⟨⟨⟨trivial, hc8⟩, (idxM he9)⟩, mapLen⟩, mapLen⟩ ?_
      rcases bifE h with ⟨hc10, h⟩ | ⟨hc10, h⟩
      · refine AK.go tab_ok hC [.br true, .n 1] rfl ⟨trivial, hc10⟩ ?_
        cases h
      · obtain ⟨_, hk11, h⟩ := bindE h
        replace hk11 := chkE hk11
        refine AK.go tab_ok hC [.br false, .n 5, .o (.ln e9.Vars.length), .o (.rows ((List.replicate (e9.Vars.length : Int).toNat (0 : Int)).map row_I)), .say 36 (.own 36 (List.replicate (e9.Vars.length : Int).toNat (0 : Int)).length), .n 7, .o (.ln e9.Vars.length), .n 4, .keep [2, 3, 9, 37, 38, 39] [3, 36]] rfl ⟨⟨⟨⟨⟨trivial, hc10⟩, mapLen⟩, ⟨hk11, mapRep rfl⟩⟩, (by simp)⟩, mapLen⟩ ?_
        obtain ⟨o16, hl16, h⟩ := bindE h
        refine AK.loop (body := (fun st => F_bind_Env_l1 e9 st)) (fun st σ => σ = ⟨[(2, .sl 1 (vars3.map row_I)), (3, .loc 3 0 0), (9, .own 36 (List.replicate (e9.Vars.length : Int).toNat (0 : Int)).length), (37, .sl 2 (e9.Vars.map row_TVar)), (38, .i .i64 (e9.Vars.length : Int)), (39, .i .i64 st)], [(3, .var (row_TNet n1)), (36, .arr 1 ((List.replicate (e9.Vars.length : Int).toNat (0 : Int)).map row_I))]⟩) (fun q e σ => e = .exit 0 ∧ σ = ⟨[(9, .own 36 (List.replicate (e9.Vars.length : Int).toNat (0 : Int)).length)], [(36, .arr 1 ((List.replicate (e9.Vars.length : Int).toNat (0 : Int)).map row_I))]⟩) hl16 rfl ?_ ?_
        · rintro x12 o σ rfl h
          replace h : F_bind_Env_l1 e9 x12 = some o := h
          unfold F_bind_Env_l1 at h
          refine AK.go tab_ok hC [.n 6] rfl trivial ?_
          rcases bifE h with ⟨hc14, h⟩ | ⟨hc14, h⟩
          · obtain ⟨e15, he15, h⟩ := bindE h
            refine AK.go tab_ok hC [.br true, .n 7, .o (.row (row_TVar e15)), .v .no [] (.agg (row_TVar e15)), .n 3, .sayO 11 (.var (row_TVar e15)), .n 3] rfl ⟨⟨⟨⟨trivial, hc14⟩, (idxM he15)⟩, rfl⟩, rfl⟩ ?_
            cases h
          · refine AK.go tab_ok hC [.br false, .n 2, .keep [9] [36]] rfl ⟨trivial, hc14⟩ ?_
            obtain rfl := Option.some.inj h
            exact rndX rfl (And.intro rfl rfl)
        · obtain _ := o16
          replace h : F_bind_Env_c2 e9 = some r := h
          unfold F_bind_Env_c2 at h
          rintro e σ ⟨rfl, rfl⟩
          refine AK.go tab_ok hC [.n 10, .frz 36 ((List.replicate (e9.Vars.length : Int).toNat (0 : Int)).map row_I) [6] [], .keep [6, 7] []] rfl ⟨trivial, ⟨trivial, (frzL mapLen)⟩⟩ ?_
          obtain rfl := Option.some.inj h
          refine AK.done ?_
          exact Exists.intro [_, _] (And.intro (And.intro rfl (And.intro rfl trivial)) (gives trivial))

-- 93 baldric/bind.bound
noncomputable def F_bind_bound (n1 : TNet) (m2 : (List (List (Int × Int)))) (task3 : Int) (vars4 : (List Int)) : Option (Int × Tbind_binder) :=
  (F_bind_Env n1 task3 vars4).bind fun x7 =>
  bif (x7.2 != 0) then
  none
  else
  (idx n1.Tasks task3).bind fun e9 =>
  some (0, (Tbind_binder.mk n1 m2 e9 x7.1))

set_option maxRecDepth 100000 in
set_option maxHeartbeats 4000000 in
theorem F_bind_bound_ok (n1 : TNet) (m2 : (List (List (Int × Int)))) (task3 : Int) (vars4 : (List Int)) {r : (Int × Tbind_binder)} (h : F_bind_bound n1 m2 task3 vars4 = some r) : ACalls Tryz.prog 93 [.agg (row_TNet n1), .sl 1 (m2.map row_LA2I), .i .i64 task3, .sl 1 (vars4.map row_I)] [] (Gives (.tup [.agg (row_Tbind_binder r.2), .i .i64 r.1]) []) := by
  refine ACalls.walk 32 Tryz.func93 rfl Tryz.ntmps93 rfl fun C hC => ?_
  unfold F_bind_bound at h
  obtain ⟨x7, hx7, h⟩ := bindE h
  refine AK.go tab_ok hC [.n 9, .v .no [] (.agg (row_TNet n1)), .n 2, .o (.c false [.d, .d, .d] (.tup [.sl 1 (x7.1.map row_I), .i .i64 x7.2])), .n 14] rfl ⟨⟨trivial, rfl⟩, (F_bind_Env_ok _ _ _ hx7)⟩ ?_
  rcases bifE h with ⟨hc8, h⟩ | ⟨hc8, h⟩
  · refine AK.go tab_ok hC [.br true, .n 1] rfl ⟨trivial, hc8⟩ ?_
    cases h
  · obtain ⟨e9, he9, h⟩ := bindE h
    refine AK.go tab_ok hC [.br false, .n 3, .keep [1, 2, 4, 8, 9, 10] [4, 8]] rfl ⟨trivial, hc8⟩ ?_
    refine AK.draw2 tab_ok hC mixed [.a .no (some ([], .agg (row_TNet n1))) false, .a .no none false, .a .no none false, .a .no none false, .a .no none false, .a (.row (row_TTask e9)) none false, .a .no (some ([], .agg (row_TTask e9))) false, .a .no none false, .a .no (some ([], .agg (row_Tbind_binder (Tbind_binder.mk n1 m2 e9 x7.1)))) false, .m .s, .m .s] [] [] [8, 9] [8] rfl rfl rfl ⟨⟨⟨⟨trivial, rfl⟩, (idxM he9)⟩, rfl⟩, rfl⟩ rfl (by kernel_rfl) rfl rfl rfl ?_
    refine AK.go tab_ok hC [.sayO 8 (.var (row_Tbind_binder (Tbind_binder.mk n1 m2 e9 x7.1))), .n 2, .keep [8, 9] [8]] rfl ⟨trivial, rfl⟩ ?_
    obtain rfl := Option.some.inj h
    refine AK.done ?_
    exact Exists.intro [_, _] (And.intro (And.intro (Exists.intro _ (Exists.intro _ (And.intro rfl (And.intro rfl (Or.inl (And.intro (tab_ok.ag rfl) (And.intro (tab_ok.sz rfl) rfl))))))) (And.intro rfl trivial)) (gives trivial))

-- 130 baldric/expr.Depth
noncomputable def F_expr_Depth_l1 (e1 : TExpr) (n3 : Int) (x4 : Int) : Option ((Int × Int) ⊕ Int) :=
  bif (decide (x4 < (e1.Kids.length : Int))) then
  (idx e1.Kids x4).bind fun e9 =>
  none
  else
  some (.inr n3)

noncomputable def F_expr_Depth_c2 (n7 : Int) : Option Int :=
  some (w64 (n7 + 1))

noncomputable def F_expr_Depth (e1 : TExpr) : Option Int :=
  (loopM (fun st => F_expr_Depth_l1 e1 st.1 st.2) (0, 0)).bind (fun q => F_expr_Depth_c2 q)

set_option maxRecDepth 100000 in
set_option maxHeartbeats 4000000 in
theorem F_expr_Depth_ok (e1 : TExpr) {r : Int} (h : F_expr_Depth e1 = some r) : ACalls Tryz.prog 130 [.agg (row_TExpr e1)] [] (Gives (.i .i64 r) []) := by
  refine ACalls.walk 20 Tryz.func130 rfl Tryz.ntmps130 rfl fun C hC => ?_
  unfold F_expr_Depth at h
  refine AK.go tab_ok hC [.n 16, .o (.ln e1.Kids.length), .n 4, .keep [3, 7, 8, 9] []] rfl ⟨trivial, lenR_TExpr _⟩ ?_
  obtain ⟨n7, hl10, h⟩ := bindE h
  refine AK.loop (body := (fun st => F_expr_Depth_l1 e1 st.1 st.2)) (fun st σ => σ = ⟨[(3, .i .i64 st.1), (7, .sl 3 (rowL_TExpr e1.Kids)), (8, .i .i64 (e1.Kids.length : Int)), (9, .i .i64 st.2)], []⟩) (fun q e σ => e = .exit 0 ∧ σ = ⟨[(3, .i .i64 q)], []⟩) hl10 rfl ?_ ?_
  · rintro ⟨n3, x4⟩ o σ rfl h
    replace h : F_expr_Depth_l1 e1 n3 x4 = some o := h
    unfold F_expr_Depth_l1 at h
    refine AK.go tab_ok hC [.n 6] rfl trivial ?_
    rcases bifE h with ⟨hc8, h⟩ | ⟨hc8, h⟩
    · obtain ⟨e9, he9, h⟩ := bindE h
      refine AK.go tab_ok hC [.br true, .n 6, .o (.row (row_TExpr e9)), .v .no [] (.agg (row_TExpr e9)), .n 2, .sayO 5 (.var (row_TExpr e9)), .n 2] rfl ⟨⟨⟨⟨trivial, hc8⟩, (idxR_TExpr he9)⟩, rfl⟩, rfl⟩ ?_
      cases h
    · refine AK.go tab_ok hC [.br false, .n 2, .keep [3] []] rfl ⟨trivial, hc8⟩ ?_
      obtain rfl := Option.some.inj h
      exact rndX rfl (And.intro rfl rfl)
  · replace h : F_expr_Depth_c2 n7 = some r := h
    unfold F_expr_Depth_c2 at h
    rintro e σ ⟨rfl, rfl⟩
    refine AK.go tab_ok hC [.n 10, .keep [2] []] rfl trivial ?_
    obtain rfl := Option.some.inj h
    refine AK.done ?_
    exact Exists.intro [_] (And.intro (And.intro rfl trivial) (gives trivial))

-- 131 baldric/expr.Size
noncomputable def F_expr_Size_l1 (e1 : TExpr) (n3 : Int) (x4 : Int) : Option ((Int × Int) ⊕ Int) :=
  bif (decide (x4 < (e1.Kids.length : Int))) then
  (idx e1.Kids x4).bind fun e9 =>
  none
  else
  some (.inr n3)

noncomputable def F_expr_Size_c2 (n7 : Int) : Option Int :=
  some n7

noncomputable def F_expr_Size (e1 : TExpr) : Option Int :=
  (loopM (fun st => F_expr_Size_l1 e1 st.1 st.2) (1, 0)).bind (fun q => F_expr_Size_c2 q)

set_option maxRecDepth 100000 in
set_option maxHeartbeats 4000000 in
theorem F_expr_Size_ok (e1 : TExpr) {r : Int} (h : F_expr_Size e1 = some r) : ACalls Tryz.prog 131 [.agg (row_TExpr e1)] [] (Gives (.i .i64 r) []) := by
  refine ACalls.walk 19 Tryz.func131 rfl Tryz.ntmps131 rfl fun C hC => ?_
  unfold F_expr_Size at h
  refine AK.go tab_ok hC [.n 16, .o (.ln e1.Kids.length), .n 4, .keep [3, 7, 8, 9] []] rfl ⟨trivial, lenR_TExpr _⟩ ?_
  obtain ⟨n7, hl10, h⟩ := bindE h
  refine AK.loop (body := (fun st => F_expr_Size_l1 e1 st.1 st.2)) (fun st σ => σ = ⟨[(3, .i .i64 st.1), (7, .sl 3 (rowL_TExpr e1.Kids)), (8, .i .i64 (e1.Kids.length : Int)), (9, .i .i64 st.2)], []⟩) (fun q e σ => e = .exit 0 ∧ σ = ⟨[(3, .i .i64 q)], []⟩) hl10 rfl ?_ ?_
  · rintro ⟨n3, x4⟩ o σ rfl h
    replace h : F_expr_Size_l1 e1 n3 x4 = some o := h
    unfold F_expr_Size_l1 at h
    refine AK.go tab_ok hC [.n 6] rfl trivial ?_
    rcases bifE h with ⟨hc8, h⟩ | ⟨hc8, h⟩
    · obtain ⟨e9, he9, h⟩ := bindE h
      refine AK.go tab_ok hC [.br true, .n 6, .o (.row (row_TExpr e9)), .v .no [] (.agg (row_TExpr e9)), .n 2, .sayO 5 (.var (row_TExpr e9)), .n 2] rfl ⟨⟨⟨⟨trivial, hc8⟩, (idxR_TExpr he9)⟩, rfl⟩, rfl⟩ ?_
      cases h
    · refine AK.go tab_ok hC [.br false, .n 2, .keep [3] []] rfl ⟨trivial, hc8⟩ ?_
      obtain rfl := Option.some.inj h
      exact rndX rfl (And.intro rfl rfl)
  · replace h : F_expr_Size_c2 n7 = some r := h
    unfold F_expr_Size_c2 at h
    rintro e σ ⟨rfl, rfl⟩
    refine AK.go tab_ok hC [.n 9, .keep [2] []] rfl trivial ?_
    obtain rfl := Option.some.inj h
    refine AK.done ?_
    exact Exists.intro [_] (And.intro (And.intro rfl trivial) (gives trivial))

-- 136 baldric/expr.kids
noncomputable def F_expr_kids_k1 (kind1 : Int) (x5 : Bool) : Option Int :=
  bif x5 then
  none
  else
  bif (kind1 == 5) then
  none
  else
  bif (kind1 == 6) then
  none
  else
  none

noncomputable def F_expr_kids_k2 (kind1 : Int) (x3 : Bool) : Option Int :=
  bif x3 then
  some 0
  else
  bif (kind1 == 3) then
  F_expr_kids_k1 kind1 (kind1 == 3)
  else
  F_expr_kids_k1 kind1 (kind1 == 4)

noncomputable def F_expr_kids (kind1 : Int) : Option Int :=
  bif (kind1 == 1) then
  F_expr_kids_k2 kind1 (kind1 == 1)
  else
  F_expr_kids_k2 kind1 (kind1 == 2)

set_option maxRecDepth 100000 in
set_option maxHeartbeats 4000000 in
theorem F_expr_kids_ok (kind1 : Int) {r : Int} (h : F_expr_kids kind1 = some r) : ACalls Tryz.prog 136 [.i .i64 kind1] [] (Gives (.i .i64 r) []) := by
  refine ACalls.walk 14 Tryz.func136 rfl Tryz.ntmps136 rfl fun C hC => ?_
  unfold F_expr_kids at h
  refine AK.go tab_ok hC [.n 12] rfl trivial ?_
  refine AK.meet (fun σ => ∃ x3 : Bool, σ = ⟨[(3, .i .i64 kind1), (4, .b x3)], []⟩ ∧ F_expr_kids_k2 kind1 x3 = some r) ?_ ?_
  · refine AK.go tab_ok hC [.n 6] rfl trivial ?_
    rcases bifE h with ⟨hc10, h⟩ | ⟨hc10, h⟩
    · refine AK.go tab_ok hC [.br true, .n 1, .keep [3, 4] []] rfl ⟨trivial, hc10⟩ ?_
      exact AK.met (Exists.intro _ (And.intro rfl h))
    · refine AK.go tab_ok hC [.br false, .n 4, .keep [3, 4] []] rfl ⟨trivial, hc10⟩ ?_
      exact AK.met (Exists.intro _ (And.intro rfl h))
  · rintro σ ⟨x3, rfl, h⟩
    unfold F_expr_kids_k2 at h
    rcases bifE h with ⟨hc4, h⟩ | ⟨hc4, h⟩
    · refine AK.go tab_ok hC [.br true, .n 8, .keep [2] []] rfl ⟨trivial, hc4⟩ ?_
      obtain rfl := Option.some.inj h
      refine AK.done ?_
      exact Exists.intro [_] (And.intro (And.intro rfl trivial) (gives trivial))
    · refine AK.go tab_ok hC [.br false] rfl ⟨trivial, hc4⟩ ?_
      refine AK.meet (fun σ => ∃ x5 : Bool, σ = ⟨[(3, .i .i64 kind1), (7, .b x5)], []⟩ ∧ F_expr_kids_k1 kind1 x5 = some r) ?_ ?_
      · refine AK.go tab_ok hC [.n 6] rfl trivial ?_
        rcases bifE h with ⟨hc9, h⟩ | ⟨hc9, h⟩
        · refine AK.go tab_ok hC [.br true, .n 1, .keep [3, 7] []] rfl ⟨trivial, hc9⟩ ?_
          exact AK.met (Exists.intro _ (And.intro rfl h))
        · refine AK.go tab_ok hC [.br false, .n 4, .keep [3, 7] []] rfl ⟨trivial, hc9⟩ ?_
          exact AK.met (Exists.intro _ (And.intro rfl h))
      · rintro σ ⟨x5, rfl, h⟩
        unfold F_expr_kids_k1 at h
        rcases bifE h with ⟨hc6, h⟩ | ⟨hc6, h⟩
        · refine AK.go tab_ok hC [.br true, .n 1] rfl ⟨trivial, hc6⟩ ?_
          cases h
        · refine AK.go tab_ok hC [.br false, .n 6] rfl ⟨trivial, hc6⟩ ?_
          rcases bifE h with ⟨hc7, h⟩ | ⟨hc7, h⟩
          · refine AK.go tab_ok hC [.br true, .n 1] rfl ⟨trivial, hc7⟩ ?_
            cases h
          · refine AK.go tab_ok hC [.br false, .n 6] rfl ⟨trivial, hc7⟩ ?_
            rcases bifE h with ⟨hc8, h⟩ | ⟨hc8, h⟩
            · refine AK.go tab_ok hC [.br true, .n 1] rfl ⟨trivial, hc8⟩ ?_
              cases h
            · refine AK.go tab_ok hC [.br false, .n 4] rfl ⟨trivial, hc8⟩ ?_
              cases h

-- 139 baldric/expr.parts$1
noncomputable def F_expr_parts_1 (rec_expr_parts : TExpr → Int → Option Bool) (k1 : TExpr) (v2 : Int) : Option Bool :=
  (rec_expr_parts k1 v2).bind fun x4 =>
  some (!x4)

set_option maxRecDepth 100000 in
set_option maxHeartbeats 4000000 in
theorem F_expr_parts_1_ok (rec_expr_parts : TExpr → Int → Option Bool) (hrec_expr_parts : ∀ (e1 : TExpr) (vars2 : Int) {r : Bool}, rec_expr_parts e1 vars2 = some r → ACalls Tryz.prog 132 [.agg (row_TExpr e1), .i .i64 vars2] [] (Gives (.b r) [])) (k1 : TExpr) (v2 : Int) {r : Bool} (h : F_expr_parts_1 rec_expr_parts k1 v2 = some r) : ACalls Tryz.prog 139 [.agg (row_TExpr k1), .loc 200000 0 0] [(200000, .var (row_I v2))] (Gives (.b r) [(200000, .var (row_I v2))]) := by
  refine ACalls.walk 8 Tryz.func139 rfl Tryz.ntmps139 rfl fun C hC => ?_
  unfold F_expr_parts_1 at h
  obtain ⟨x4, hx4, h⟩ := bindE h
  refine AK.go tab_ok hC [.n 8, .v .no [] (.agg (row_TExpr k1)), .n 1, .o (.c false [.d, .d] (.b x4)), .n 5, .keep [3] [200000]] rfl ⟨⟨trivial, rfl⟩, (hrec_expr_parts _ _ hx4)⟩ ?_
  obtain rfl := Option.some.inj h
  refine AK.done ?_
  exact Exists.intro [_] (And.intro (And.intro rfl trivial) (gives ⟨rfl, trivial⟩))

-- 148 slices.IndexFunc[[]baldric/api.Expr,baldric/api.Expr]
noncomputable def F_slices_IndexFunc_api_Expr_api_Expr_l1 (s1 : (List TExpr)) (rec_expr_parts : TExpr → Int → Option Bool) (v2 : Int) (x5 : Int) : Option (Int ⊕ (Int ⊕ Unit)) :=
  bif (decide (x5 < (s1.length : Int))) then
  (idx s1 x5).bind fun e9 =>
  (F_expr_parts_1 rec_expr_parts e9 v2).bind fun x10 =>
  bif x10 then
  some (.inr (.inl x5))
  else
  some (.inl (w64 (x5 + 1)))
  else
  some (.inr (.inr ()))

noncomputable def F_slices_IndexFunc_api_Expr_api_Expr_c2 (x7 : Int) : Option Int :=
  some x7

noncomputable def F_slices_IndexFunc_api_Expr_api_Expr_c3 : Option Int :=
  some (-1)

noncomputable def F_slices_IndexFunc_api_Expr_api_Expr (rec_expr_parts : TExpr → Int → Option Bool) (s1 : (List TExpr)) (v2 : Int) : Option Int :=
  (loopM (fun st => F_slices_IndexFunc_api_Expr_api_Expr_l1 s1 rec_expr_parts v2 st) 0).bind (Sum.elim (fun q => F_slices_IndexFunc_api_Expr_api_Expr_c2 q) (fun q => F_slices_IndexFunc_api_Expr_api_Expr_c3))

set_option maxRecDepth 100000 in
set_option maxHeartbeats 4000000 in
theorem F_slices_IndexFunc_api_Expr_api_Expr_ok (rec_expr_parts : TExpr → Int → Option Bool) (hrec_expr_parts : ∀ (e1 : TExpr) (vars2 : Int) {r : Bool}, rec_expr_parts e1 vars2 = some r → ACalls Tryz.prog 132 [.agg (row_TExpr e1), .i .i64 vars2] [] (Gives (.b r) [])) (s1 : (List TExpr)) (v2 : Int) {r : Int} (h : F_slices_IndexFunc_api_Expr_api_Expr rec_expr_parts s1 v2 = some r) : ACalls Tryz.prog 148 [.sl 3 (rowL_TExpr s1), .clo (.func 139) [] [.loc 200000 0 0]] [(200000, .var (row_I v2))] (Gives (.i .i64 r) [(200000, .var (row_I v2))]) := by
  refine ACalls.walk 19 Tryz.func148 rfl Tryz.ntmps148 rfl fun C hC => ?_
  unfold F_slices_IndexFunc_api_Expr_api_Expr at h
  refine AK.go tab_ok hC [.n 9, .o (.ln s1.length), .n 4, .keep [0, 1, 7, 8] [200000]] rfl ⟨trivial, lenR_TExpr _⟩ ?_
  obtain ⟨o12, hl12, h⟩ := bindE h
  refine AK.loop (body := (fun st => F_slices_IndexFunc_api_Expr_api_Expr_l1 s1 rec_expr_parts v2 st)) (fun st σ => σ = ⟨[(0, .sl 3 (rowL_TExpr s1)), (1, .clo (.func 139) [] [.loc 200000 0 0]), (7, .i .i64 (s1.length : Int)), (8, .i .i64 st)], [(200000, .var (row_I v2))]⟩) (Sum.elim (fun q e σ => e = .ret ∧ σ = ⟨[(4, .i .i64 q)], [(200000, .var (row_I v2))]⟩) (fun q e σ => e = .exit 0 ∧ σ = ⟨[], [(200000, .var (row_I v2))]⟩)) hl12 rfl ?_ ?_
  · rintro x5 o σ rfl h
    replace h : F_slices_IndexFunc_api_Expr_api_Expr_l1 s1 rec_expr_parts v2 x5 = some o := h
    unfold F_slices_IndexFunc_api_Expr_api_Expr_l1 at h
    refine AK.go tab_ok hC [.n 6] rfl trivial ?_
    rcases bifE h with ⟨hc8, h⟩ | ⟨hc8, h⟩
    · obtain ⟨e9, he9, h⟩ := bindE h
      obtain ⟨x10, hx10, h⟩ := bindE h
      refine AK.go tab_ok hC [.br true, .n 15, .o (.row (row_TExpr e9)), .v .no [] (.agg (row_TExpr e9)), .cm (.clo) [(200000, 200000)] [(200000, 200000)] [] [.d, .d] [(200000, .var (row_I v2))] (.b x10), .n 2] rfl ⟨⟨⟨⟨trivial, hc8⟩, (idxR_TExpr he9)⟩, rfl⟩, (F_expr_parts_1_ok rec_expr_parts hrec_expr_parts _ _ hx10)⟩ ?_
      rcases bifE h with ⟨hc11, h⟩ | ⟨hc11, h⟩
      · refine AK.go tab_ok hC [.br true, .n 9, .keep [4] [200000]] rfl ⟨trivial, hc11⟩ ?_
        obtain rfl := Option.some.inj h
        exact rndR rfl (And.intro rfl rfl)
      · refine AK.go tab_ok hC [.br false, .n 7, .keep [0, 1, 7, 8] [200000]] rfl ⟨trivial, hc11⟩ ?_
        obtain rfl := Option.some.inj h
        exact rndN rfl rfl
    · refine AK.go tab_ok hC [.br false, .n 2, .keep [] [200000]] rfl ⟨trivial, hc8⟩ ?_
      obtain rfl := Option.some.inj h
      exact rndX rfl (And.intro rfl rfl)
  · rcases o12 with (x7 | _)
    · replace h : F_slices_IndexFunc_api_Expr_api_Expr_c2 x7 = some r := h
      unfold F_slices_IndexFunc_api_Expr_api_Expr_c2 at h
      rintro e σ ⟨rfl, rfl⟩
      refine AK.go tab_ok hC [.n 2, .keep [4] [200000]] rfl trivial ?_
      obtain rfl := Option.some.inj h
      refine AK.done ?_
      exact Exists.intro [_] (And.intro (And.intro rfl trivial) (gives ⟨rfl, trivial⟩))
    · replace h : F_slices_IndexFunc_api_Expr_api_Expr_c3 = some r := h
      unfold F_slices_IndexFunc_api_Expr_api_Expr_c3 at h
      rintro e σ ⟨rfl, rfl⟩
      refine AK.go tab_ok hC [.n 8, .keep [4] [200000]] rfl trivial ?_
      obtain rfl := Option.some.inj h
      refine AK.done ?_
      exact Exists.intro [_] (And.intro (And.intro rfl trivial) (gives ⟨rfl, trivial⟩))

-- 138 slices.ContainsFunc[[]baldric/api.Expr,baldric/api.Expr]
noncomputable def F_slices_ContainsFunc_api_Expr_api_Expr (rec_expr_parts : TExpr → Int → Option Bool) (s1 : (List TExpr)) (v2 : Int) : Option Bool :=
  (F_slices_IndexFunc_api_Expr_api_Expr rec_expr_parts s1 v2).bind fun x4 =>
  some (decide (0 ≤ x4))

set_option maxRecDepth 100000 in
set_option maxHeartbeats 4000000 in
theorem F_slices_ContainsFunc_api_Expr_api_Expr_ok (rec_expr_parts : TExpr → Int → Option Bool) (hrec_expr_parts : ∀ (e1 : TExpr) (vars2 : Int) {r : Bool}, rec_expr_parts e1 vars2 = some r → ACalls Tryz.prog 132 [.agg (row_TExpr e1), .i .i64 vars2] [] (Gives (.b r) [])) (s1 : (List TExpr)) (v2 : Int) {r : Bool} (h : F_slices_ContainsFunc_api_Expr_api_Expr rec_expr_parts s1 v2 = some r) : ACalls Tryz.prog 138 [.sl 3 (rowL_TExpr s1), .clo (.func 139) [] [.loc 200000 0 0]] [(200000, .var (row_I v2))] (Gives (.b r) [(200000, .var (row_I v2))]) := by
  refine ACalls.walk 9 Tryz.func138 rfl Tryz.ntmps138 rfl fun C hC => ?_
  unfold F_slices_ContainsFunc_api_Expr_api_Expr at h
  obtain ⟨x4, hx4, h⟩ := bindE h
  refine AK.go tab_ok hC [.n 9, .cm (.fn) [(200000, 200000)] [(200000, 200000)] [] [.d, .d] [(200000, .var (row_I v2))] (.i .i64 x4), .n 5, .keep [4] [200000]] rfl ⟨trivial, (F_slices_IndexFunc_api_Expr_api_Expr_ok rec_expr_parts hrec_expr_parts _ _ hx4)⟩ ?_
  obtain rfl := Option.some.inj h
  refine AK.done ?_
  exact Exists.intro [_] (And.intro (And.intro rfl trivial) (gives ⟨rfl, trivial⟩))

-- 132 baldric/expr.parts
noncomputable def F_expr_parts_s (rec_expr_parts : TExpr → Int → Option Bool) (e1 : TExpr) (vars2 : Int) : Option Bool :=
  (F_expr_kids e1.Kind).bind fun x4 =>
  bif ((e1.Kids.length : Int) != x4) then
  none
  else
  bif ((e1.Kind == 2) && ((decide (e1.Num < 0)) || (decide (vars2 ≤ e1.Num)))) then
  none
  else
  bif (e1.Kind == 5) then
  none
  else
  (F_slices_ContainsFunc_api_Expr_api_Expr rec_expr_parts e1.Kids vars2).bind fun x11 =>
  some (!x11)
noncomputable def F_expr_parts_r : Nat → TExpr → Int → Option Bool
  | 0, _, _ => none
  | n + 1, e1, vars2 => F_expr_parts_s (F_expr_parts_r n) e1 vars2
noncomputable def F_expr_parts (e1 : TExpr) (vars2 : Int) : Option Bool := F_expr_parts_r (SizeOf.sizeOf e1) e1 vars2

set_option maxRecDepth 100000 in
set_option maxHeartbeats 4000000 in
theorem F_expr_parts_s_ok (rec_expr_parts : TExpr → Int → Option Bool) (hrec_expr_parts : ∀ (e1 : TExpr) (vars2 : Int) {r : Bool}, rec_expr_parts e1 vars2 = some r → ACalls Tryz.prog 132 [.agg (row_TExpr e1), .i .i64 vars2] [] (Gives (.b r) [])) (e1 : TExpr) (vars2 : Int) {r : Bool} (h : F_expr_parts_s rec_expr_parts e1 vars2 = some r) : ACalls Tryz.prog 132 [.agg (row_TExpr e1), .i .i64 vars2] [] (Gives (.b r) []) := by
  refine ACalls.walk 43 Tryz.func132 rfl Tryz.ntmps132 rfl fun C hC => ?_
  unfold F_expr_parts_s at h
  obtain ⟨x4, hx4, h⟩ := bindE h
  refine AK.go tab_ok hC [.n 10, .keep [2, 3] [2, 3]] rfl trivial ?_
  refine AK.draw2 tab_ok hC mixed [.a .no none false, .a .no none false, .a (.ln e1.Kids.length) none false, .a .no none false, .a .no none false, .a (.c false [.d] (.i .i64 x4)) none false, .a .no none false, .a .no none false] [] [] [2, 3, 5] [2, 3] rfl rfl rfl ⟨⟨trivial, lenR_TExpr _⟩, (F_expr_kids_ok _ hx4)⟩ rfl (by kernel_rfl) rfl rfl rfl ?_
  refine AK.go tab_ok hC [.n 1] rfl trivial ?_
  rcases bifE h with ⟨hc5, h⟩ | ⟨hc5, h⟩
  · refine AK.go tab_ok hC [.br true, .n 1] rfl ⟨trivial, hc5⟩ ?_
    cases h
  · refine AK.go tab_ok hC [.br false, .n 1] rfl ⟨trivial, hc5⟩ ?_
    refine AK.meetX (fun σ => σ = ⟨[(2, .loc 2 0 0), (3, .loc 3 0 0), (13, .b ((e1.Kind == 2) && ((decide (e1.Num < 0)) || (decide (vars2 ≤ e1.Num)))))], [(2, .var (row_TExpr e1)), (3, .var (row_I vars2))]⟩) ?_ ?_
    · refine AK.go tab_ok hC [.n 5] rfl trivial ?_
      rcases boolOr (e1.Kind == 2) with hc7 | hc7
      · refine AK.go tab_ok hC [.say 17 (.b true), .n 4] rfl ⟨trivial, (congrArg V.b hc7)⟩ ?_
        rcases boolOr (decide (e1.Num < 0)) with hc8 | hc8
        · refine AK.go tab_ok hC [.say 21 (.b true), .n 8, .say 13 (.b ((e1.Kind == 2) && ((decide (e1.Num < 0)) || (decide (vars2 ≤ e1.Num))))), .keep [2, 3, 13] [2, 3]] rfl ⟨⟨trivial, (congrArg V.b hc8)⟩, (congrArg V.b (andT hc7 (orT hc8 rfl)))⟩ ?_
          exact AK.met rfl
        · refine AK.go tab_ok hC [.say 21 (.b false), .n 8, .say 13 (.b ((e1.Kind == 2) && ((decide (e1.Num < 0)) || (decide (vars2 ≤ e1.Num))))), .keep [2, 3, 13] [2, 3]] rfl ⟨⟨trivial, (congrArg V.b hc8)⟩, (congrArg V.b (andT hc7 (orF hc8 rfl)))⟩ ?_
          exact AK.met rfl
      · refine AK.go tab_ok hC [.say 17 (.b false), .n 12, .say 13 (.b ((e1.Kind == 2) && ((decide (e1.Num < 0)) || (decide (vars2 ≤ e1.Num))))), .keep [2, 3, 13] [2, 3]] rfl ⟨⟨trivial, (congrArg V.b hc7)⟩, (congrArg V.b (andF hc7 rfl))⟩ ?_
        exact AK.met rfl
    · rintro σ rfl
      refine AK.go tab_ok hC [.n 1] rfl trivial ?_
      rcases bifE h with ⟨hc9, h⟩ | ⟨hc9, h⟩
      · refine AK.go tab_ok hC [.br true, .n 1] rfl ⟨trivial, hc9⟩ ?_
        cases h
      · refine AK.go tab_ok hC [.br false, .n 6] rfl ⟨trivial, hc9⟩ ?_
        rcases bifE h with ⟨hc10, h⟩ | ⟨hc10, h⟩
        · refine AK.go tab_ok hC [.say 32 (.b true), .n 2] rfl ⟨trivial, (congrArg V.b hc10)⟩ ?_
          cases h
        · obtain ⟨x11, hx11, h⟩ := bindE h
          refine AK.go tab_ok hC [.say 32 (.b false), .n 17, .cm (.fn) [(200000, 3)] [(3, 200000)] [] [.d, .d] [(200000, .var (row_I vars2))] (.b x11), .n 5, .keep [4] []] rfl ⟨⟨trivial, (congrArg V.b hc10)⟩, (F_slices_ContainsFunc_api_Expr_api_Expr_ok rec_expr_parts hrec_expr_parts _ _ hx11)⟩ ?_
          obtain rfl := Option.some.inj h
          refine AK.done ?_
          exact Exists.intro [_] (And.intro (And.intro rfl trivial) (gives trivial))
theorem F_expr_parts_r_ok : ∀ (fuel : Nat) (e1 : TExpr) (vars2 : Int) {r : Bool}, F_expr_parts_r fuel e1 vars2 = some r → ACalls Tryz.prog 132 [.agg (row_TExpr e1), .i .i64 vars2] [] (Gives (.b r) [])
  | 0, _, _, _, h => by cases h
  | n + 1, e1, vars2, _, h => F_expr_parts_s_ok (F_expr_parts_r n) (fun _ _ _ h => F_expr_parts_r_ok n _ _ h) e1 vars2 h
theorem F_expr_parts_ok (e1 : TExpr) (vars2 : Int) {r : Bool} (h : F_expr_parts e1 vars2 = some r) : ACalls Tryz.prog 132 [.agg (row_TExpr e1), .i .i64 vars2] [] (Gives (.b r) []) := F_expr_parts_r_ok _ e1 vars2 h

-- 123 baldric/expr.Right
noncomputable def F_expr_Right_g1 (e1 : TExpr) (vars2 : Int) : Option Bool :=
  (F_expr_Depth e1).bind fun x6 =>
  bif (decide (x6 ≤ 40)) then
  (F_expr_Size e1).bind fun x8 =>
  bif (decide (x8 ≤ 400)) then
  (F_expr_parts e1 vars2).bind fun x10 =>
  some x10
  else
  some false
  else
  some false

noncomputable def F_expr_Right_k2 (x4 : Bool) : Option Bool :=
  some x4

noncomputable def F_expr_Right (e1 : TExpr) (vars2 : Int) : Option Bool :=
  (F_expr_Right_g1 e1 vars2).bind (fun x4 => F_expr_Right_k2 x4)

set_option maxRecDepth 100000 in
set_option maxHeartbeats 4000000 in
theorem F_expr_Right_ok (e1 : TExpr) (vars2 : Int) {r : Bool} (h : F_expr_Right e1 vars2 = some r) : ACalls Tryz.prog 123 [.agg (row_TExpr e1), .i .i64 vars2] [] (Gives (.b r) []) := by
  refine ACalls.walk 18 Tryz.func123 rfl Tryz.ntmps123 rfl fun C hC => ?_
  unfold F_expr_Right at h
  refine AK.go tab_ok hC [.n 7] rfl trivial ?_
  obtain ⟨x4, hv5, h⟩ := bindE h
  replace h : F_expr_Right_k2 x4 = some r := h
  refine AK.meetX (fun σ => σ = ⟨[(4, .b x4)], []⟩) ?_ ?_
  · replace h := hv5
    unfold F_expr_Right_g1 at h
    obtain ⟨x6, hx6, h⟩ := bindE h
    refine AK.go tab_ok hC [.n 1, .v .no [] (.agg (row_TExpr e1)), .o (.c false [.d] (.i .i64 x6)), .n 2] rfl ⟨⟨trivial, rfl⟩, (F_expr_Depth_ok _ hx6)⟩ ?_
    rcases bifE h with ⟨hc7, h⟩ | ⟨hc7, h⟩
    · obtain ⟨x8, hx8, h⟩ := bindE h
      refine AK.go tab_ok hC [.say 8 (.b true), .v .no [] (.agg (row_TExpr e1)), .o (.c false [.d] (.i .i64 x8)), .n 3] rfl ⟨⟨⟨trivial, (congrArg V.b hc7)⟩, rfl⟩, (F_expr_Size_ok _ hx8)⟩ ?_
      rcases bifE h with ⟨hc9, h⟩ | ⟨hc9, h⟩
      · obtain ⟨x10, hx10, h⟩ := bindE h
        refine AK.go tab_ok hC [.say 13 (.b true), .v .no [] (.agg (row_TExpr e1)), .n 1, .o (.c false [.d, .d] (.b x10)), .n 3, .keep [4] []] rfl ⟨⟨⟨trivial, (congrArg V.b hc9)⟩, rfl⟩, (F_expr_parts_ok _ _ hx10)⟩ ?_
        obtain rfl := Option.some.inj h
        exact AK.met rfl
      · refine AK.go tab_ok hC [.say 13 (.b false), .n 6, .keep [4] []] rfl ⟨trivial, (congrArg V.b hc9)⟩ ?_
        obtain rfl := Option.some.inj h
        exact AK.met rfl
    · refine AK.go tab_ok hC [.say 8 (.b false), .n 11, .keep [4] []] rfl ⟨trivial, (congrArg V.b hc7)⟩ ?_
      obtain rfl := Option.some.inj h
      exact AK.met rfl
  · rintro σ rfl
    replace h : F_expr_Right_k2 x4 = some r := h
    unfold F_expr_Right_k2 at h
    refine AK.go tab_ok hC [.n 2, .keep [4] []] rfl trivial ?_
    obtain rfl := Option.some.inj h
    refine AK.done ?_
    exact Exists.intro [_] (And.intro (And.intro rfl trivial) (gives trivial))

-- 133 (baldric/expr.env).doer
noncomputable def F_expr_env_doer_k1 (kind2 : Int) (x6 : Bool) : Option (List Int) :=
  bif x6 then
  none
  else
  bif (kind2 == 5) then
  none
  else
  none

noncomputable def F_expr_env_doer (v1 : (List Int)) (kind2 : Int) : Option (List Int) :=
  bif (kind2 == 1) then
  some v1
  else
  bif (kind2 == 2) then
  none
  else
  bif (kind2 == 3) then
  F_expr_env_doer_k1 kind2 (kind2 == 3)
  else
  F_expr_env_doer_k1 kind2 (kind2 == 4)

set_option maxRecDepth 100000 in
set_option maxHeartbeats 4000000 in
theorem F_expr_env_doer_ok (v1 : (List Int)) (kind2 : Int) {r : (List Int)} (h : F_expr_env_doer v1 kind2 = some r) : ACalls Tryz.prog 133 [.sl 1 (v1.map row_I), .i .i64 kind2] [] (Gives (.clo (.func 140) [.sl 1 (r.map row_I)] []) []) := by
  refine ACalls.walk 25 Tryz.func133 rfl Tryz.ntmps133 rfl fun C hC => ?_
  unfold F_expr_env_doer at h
  refine AK.go tab_ok hC [.n 18] rfl trivial ?_
  rcases bifE h with ⟨hc4, h⟩ | ⟨hc4, h⟩
  · refine AK.go tab_ok hC [.br true, .n 10, .keep [4] []] rfl ⟨trivial, hc4⟩ ?_
    obtain rfl := Option.some.inj h
    refine AK.done ?_
    exact Exists.intro [_] (And.intro (And.intro rfl trivial) (gives trivial))
  · refine AK.go tab_ok hC [.br false, .n 6] rfl ⟨trivial, hc4⟩ ?_
    rcases bifE h with ⟨hc5, h⟩ | ⟨hc5, h⟩
    · refine AK.go tab_ok hC [.br true, .n 1] rfl ⟨trivial, hc5⟩ ?_
      cases h
    · refine AK.go tab_ok hC [.br false] rfl ⟨trivial, hc5⟩ ?_
      refine AK.meet (fun σ => ∃ x6 : Bool, σ = ⟨[(0, .sl 1 (v1.map row_I)), (5, .i .i64 kind2), (14, .b x6)], []⟩ ∧ F_expr_env_doer_k1 kind2 x6 = some r) ?_ ?_
      · refine AK.go tab_ok hC [.n 6] rfl trivial ?_
        rcases bifE h with ⟨hc9, h⟩ | ⟨hc9, h⟩
        · refine AK.go tab_ok hC [.br true, .n 1, .keep [0, 5, 14] []] rfl ⟨trivial, hc9⟩ ?_
          exact AK.met (Exists.intro _ (And.intro rfl h))
        · refine AK.go tab_ok hC [.br false, .n 4, .keep [0, 5, 14] []] rfl ⟨trivial, hc9⟩ ?_
          exact AK.met (Exists.intro _ (And.intro rfl h))
      · rintro σ ⟨x6, rfl, h⟩
        unfold F_expr_env_doer_k1 at h
        rcases bifE h with ⟨hc7, h⟩ | ⟨hc7, h⟩
        · refine AK.go tab_ok hC [.br true, .n 1] rfl ⟨trivial, hc7⟩ ?_
          cases h
        · refine AK.go tab_ok hC [.br false, .n 6] rfl ⟨trivial, hc7⟩ ?_
          rcases bifE h with ⟨hc8, h⟩ | ⟨hc8, h⟩
          · refine AK.go tab_ok hC [.br true, .n 1] rfl ⟨trivial, hc8⟩ ?_
            cases h
          · refine AK.go tab_ok hC [.br false, .n 4] rfl ⟨trivial, hc8⟩ ?_
            cases h

-- 140 (baldric/expr.env).number
noncomputable def F_expr_env_number (v1 : (List Int)) (e2 : TExpr) : Option (Int × Int) :=
  some (e2.Num, 0)

set_option maxRecDepth 100000 in
set_option maxHeartbeats 4000000 in
theorem F_expr_env_number_ok (v1 : (List Int)) (e2 : TExpr) {r : (Int × Int)} (h : F_expr_env_number v1 e2 = some r) : ACalls Tryz.prog 140 [.sl 1 (v1.map row_I), .agg (row_TExpr e2)] [] (Gives (.tup [.i .i64 r.1, .i .i64 r.2]) []) := by
  refine ACalls.walk 8 Tryz.func140 rfl Tryz.ntmps140 rfl fun C hC => ?_
  unfold F_expr_env_number at h
  refine AK.go tab_ok hC [.n 16, .keep [4, 5] []] rfl trivial ?_
  obtain rfl := Option.some.inj h
  refine AK.done ?_
  exact Exists.intro [_, _] (And.intro (And.intro rfl (And.intro rfl trivial)) (gives trivial))

-- 124 (baldric/expr.env).eval
noncomputable def F_expr_env_eval (v1 : (List Int)) (e2 : TExpr) : Option (Int × Int) :=
  (F_expr_env_doer v1 e2.Kind).bind fun x5 =>
  (F_expr_env_number x5 e2).bind fun x6 =>
  some (x6.1, x6.2)

set_option maxRecDepth 100000 in
set_option maxHeartbeats 4000000 in
theorem F_expr_env_eval_ok (v1 : (List Int)) (e2 : TExpr) {r : (Int × Int)} (h : F_expr_env_eval v1 e2 = some r) : ACalls Tryz.prog 124 [.sl 1 (v1.map row_I), .agg (row_TExpr e2)] [] (Gives (.tup [.i .i64 r.1, .i .i64 r.2]) []) := by
  refine ACalls.walk 14 Tryz.func124 rfl Tryz.ntmps124 rfl fun C hC => ?_
  unfold F_expr_env_eval at h
  obtain ⟨x5, hx5, h⟩ := bindE h
  obtain ⟨x6, hx6, h⟩ := bindE h
  refine AK.go tab_ok hC [.n 8, .keep [0, 3, 4, 5] [3]] rfl trivial ?_
  refine AK.draw2 tab_ok hC mixed [.a .no none false, .a .no none false, .a .no none false, .a (.any (.clo (.func 140) [.sl 1 (x5.map row_I)] []) none) none false, .a .no (some ([], .agg (row_TExpr e2))) false, .a (.c false [.d, .d] (.tup [.i .i64 x6.1, .i .i64 x6.2])) none false, .a .no none false, .a .no none false, .m .s, .m .s] [] [] [4, 5] [] rfl rfl rfl ⟨⟨⟨trivial, (fun σ h1 h2 _ => Stp.callSame (md := .cm (.fn) [] [] [] [.d, .d] [] (.clo (.func 140) [.sl 1 (x5.map row_I)] []) []) tab_ok hC h1 h2 rfl ⟨trivial, (F_expr_env_doer_ok _ _ hx5)⟩)⟩, rfl⟩, (F_expr_env_number_ok _ _ hx6)⟩ rfl (by kernel_rfl) rfl rfl rfl ?_
  refine AK.go tab_ok hC [.n 2, .keep [4, 5] []] rfl trivial ?_
  obtain rfl := Option.some.inj h
  refine AK.done ?_
  exact Exists.intro [_, _] (And.intro (And.intro rfl (And.intro rfl trivial)) (gives trivial))

-- 112 baldric/expr.Eval
noncomputable def F_expr_Eval (e1 : TExpr) (vars2 : (List Int)) : Option (Int × Int) :=
  (F_expr_Right e1 (vars2.length : Int)).bind fun x5 =>
  bif (!x5) then
  none
  else
  (F_expr_env_eval vars2 e1).bind fun x7 =>
  some (x7.1, x7.2)

set_option maxRecDepth 100000 in
set_option maxHeartbeats 4000000 in
theorem F_expr_Eval_ok (e1 : TExpr) (vars2 : (List Int)) {r : (Int × Int)} (h : F_expr_Eval e1 vars2 = some r) : ACalls Tryz.prog 112 [.agg (row_TExpr e1), .sl 1 (vars2.map row_I)] [] (Gives (.tup [.i .i64 r.1, .i .i64 r.2]) []) := by
  refine ACalls.walk 16 Tryz.func112 rfl Tryz.ntmps112 rfl fun C hC => ?_
  unfold F_expr_Eval at h
  obtain ⟨x5, hx5, h⟩ := bindE h
  refine AK.go tab_ok hC [.n 10, .v .no [] (.agg (row_TExpr e1)), .n 1, .o (.ln vars2.length), .o (.c false [.d, .d] (.b x5)), .n 3] rfl ⟨⟨⟨trivial, rfl⟩, mapLen⟩, (F_expr_Right_ok _ _ hx5)⟩ ?_
  rcases bifE h with ⟨hc6, h⟩ | ⟨hc6, h⟩
  · refine AK.go tab_ok hC [.br true, .n 1] rfl ⟨trivial, hc6⟩ ?_
    cases h
  · obtain ⟨x7, hx7, h⟩ := bindE h
    refine AK.go tab_ok hC [.br false, .n 5, .v .no [] (.agg (row_TExpr e1)), .o (.c false [.d, .d] (.tup [.i .i64 x7.1, .i .i64 x7.2])), .n 7, .keep [4, 5] []] rfl ⟨⟨⟨trivial, hc6⟩, rfl⟩, (F_expr_env_eval_ok _ _ hx7)⟩ ?_
    obtain rfl := Option.some.inj h
    refine AK.done ?_
    exact Exists.intro [_, _] (And.intro (And.intro rfl (And.intro rfl trivial)) (gives trivial))

-- 94 (baldric/bind.binder).guarded
noncomputable def F_bind_binder_guarded (b1 : Tbind_binder) : Option Int :=
  (F_expr_Eval b1.task.Guard b1.env).bind fun x3 =>
  bif (x3.2 != 0) then
  none
  else
  bif (x3.1 == 0) then
  none
  else
  some 0

set_option maxRecDepth 100000 in
set_option maxHeartbeats 4000000 in
theorem F_bind_binder_guarded_ok (b1 : Tbind_binder) {r : Int} (h : F_bind_binder_guarded b1 = some r) : ACalls Tryz.prog 94 [.agg (row_Tbind_binder b1)] [] (Gives (.i .i64 r) []) := by
  refine ACalls.walk 21 Tryz.func94 rfl Tryz.ntmps94 rfl fun C hC => ?_
  unfold F_bind_binder_guarded at h
  obtain ⟨x3, hx3, h⟩ := bindE h
  refine AK.go tab_ok hC [.n 10, .v .no [] (.agg (row_TExpr b1.task.Guard)), .n 2, .o (.c false [.d, .d] (.tup [.i .i64 x3.1, .i .i64 x3.2])), .n 16] rfl ⟨⟨trivial, rfl⟩, (F_expr_Eval_ok _ _ hx3)⟩ ?_
  rcases bifE h with ⟨hc4, h⟩ | ⟨hc4, h⟩
  · refine AK.go tab_ok hC [.br true, .n 1] rfl ⟨trivial, hc4⟩ ?_
    cases h
  · refine AK.go tab_ok hC [.br false, .n 7] rfl ⟨trivial, hc4⟩ ?_
    rcases bifE h with ⟨hc5, h⟩ | ⟨hc5, h⟩
    · refine AK.go tab_ok hC [.br true, .n 1] rfl ⟨trivial, hc5⟩ ?_
      cases h
    · refine AK.go tab_ok hC [.br false, .n 9, .keep [2] []] rfl ⟨trivial, hc5⟩ ?_
      obtain rfl := Option.some.inj h
      refine AK.done ?_
      exact Exists.intro [_] (And.intro (And.intro rfl trivial) (gives trivial))

-- 96 slices.Clone[[][]int,[]int]
noncomputable def F_slices_Clone_int_int_v2 (s1 : (List (List Int))) : Option (List (List Int)) :=
  (chk (decide (([] : List (List Int)).length + s1.length ≤ 4294967296))).bind fun _ =>
  some (([] : List (List Int)) ++ s1)

set_option maxRecDepth 100000 in
set_option maxHeartbeats 4000000 in
theorem F_slices_Clone_int_int_v2_ok (s1 : (List (List Int))) {r : (List (List Int))} (h : F_slices_Clone_int_int_v2 s1 = some r) : ACalls Tryz.prog 96 [.sl 1 (s1.map row_LI)] [] (Gives (.own 30000 r.length) [(30000, .arr 1 (r.map row_LI))]) := by
  refine ACalls.walk 8 Tryz.func96 rfl Tryz.ntmps96 rfl fun C hC => ?_
  unfold F_slices_Clone_int_int_v2 at h
  refine AK.go tab_ok hC [.n 9] rfl trivial ?_
  refine AK.eqNil rfl rfl rfl (hC ▸ rfl) rfl rfl un_148 ?_ ?_
  · intro hz4
    replace h : some ([] : List (List Int)) = some r := by simpa [chk, List.map_eq_nil_iff.1 hz4] using h
    refine AK.go tab_ok hC [.n 10, .adopt 2 30000 1, .sayO 30000 (.arr 1 (([] : List (List Int)).map row_LI)), .say 2 (.own 30000 ([] : List (List Int)).length), .keep [2] [30000]] rfl ⟨⟨trivial, rfl⟩, rfl⟩ ?_
    obtain rfl := Option.some.inj h
    refine AK.done ?_
    exact Exists.intro [_] (And.intro (And.intro rfl trivial) (gives ⟨rfl, trivial⟩))
  · obtain ⟨_, hk5, h⟩ := bindE h
    replace hk5 := chkE hk5
    refine AK.go tab_ok hC [.n 8, .sayO 5 (.arr 1 (([] : List (List Int)).map row_LI)), .say 5 (.own 5 ([] : List (List Int)).length), .n 1, .app ((([] : List (List Int)) ++ s1).map row_LI) (([] : List (List Int)) ++ s1).length, .n 4, .keep [2] [5], .ren 5 30000, .keep [2] [30000]] rfl ⟨⟨⟨trivial, rfl⟩, rfl⟩, ⟨mapLen, appLim hk5 mapLen, mapApps, appLn mapLen⟩⟩ ?_
    obtain rfl := Option.some.inj h
    refine AK.done ?_
    exact Exists.intro [_] (And.intro (And.intro rfl trivial) (gives ⟨rfl, trivial⟩))

-- 147 baldric/colour.letter
noncomputable def F_colour_letter (c1 : Int) : Option Bool :=
  some (bif (decide (97 ≤ c1)) then ((decide (c1 ≤ 122)) || ((decide (65 ≤ c1)) && (decide (c1 ≤ 90)))) else ((decide (65 ≤ c1)) && (decide (c1 ≤ 90))))

set_option maxRecDepth 100000 in
set_option maxHeartbeats 4000000 in
theorem F_colour_letter_ok (c1 : Int) {r : Bool} (h : F_colour_letter c1 = some r) : ACalls Tryz.prog 147 [.i .u8 c1] [] (Gives (.b r) []) := by
  refine ACalls.walk 17 Tryz.func147 rfl Tryz.ntmps147 rfl fun C hC => ?_
  unfold F_colour_letter at h
  refine AK.go tab_ok hC [.n 6] rfl trivial ?_
  refine AK.meetX (fun σ => σ = ⟨[(2, .b (bif (decide (97 ≤ c1)) then ((decide (c1 ≤ 122)) || ((decide (65 ≤ c1)) && (decide (c1 ≤ 90)))) else ((decide (65 ≤ c1)) && (decide (c1 ≤ 90)))))], []⟩) ?_ ?_
  · refine AK.go tab_ok hC [.n 4] rfl trivial ?_
    rcases boolOr (decide (97 ≤ c1)) with hc4 | hc4
    · refine AK.go tab_ok hC [.say 5 (.b true), .n 4] rfl ⟨trivial, (congrArg V.b hc4)⟩ ?_
      rcases boolOr (decide (c1 ≤ 122)) with hc5 | hc5
      · refine AK.go tab_ok hC [.say 9 (.b true), .n 9, .say 2 (.b (bif (decide (97 ≤ c1)) then ((decide (c1 ≤ 122)) || ((decide (65 ≤ c1)) && (decide (c1 ≤ 90)))) else ((decide (65 ≤ c1)) && (decide (c1 ≤ 90))))), .keep [2] []] rfl ⟨⟨trivial, (congrArg V.b hc5)⟩, (congrArg V.b (bifT hc4 (orT hc5 rfl)))⟩ ?_
        exact AK.met rfl
      · refine AK.go tab_ok hC [.say 9 (.b false), .n 3] rfl ⟨trivial, (congrArg V.b hc5)⟩ ?_
        rcases boolOr (decide (65 ≤ c1)) with hc6 | hc6
        · refine AK.go tab_ok hC [.say 12 (.b true), .n 6, .say 2 (.b (bif (decide (97 ≤ c1)) then ((decide (c1 ≤ 122)) || ((decide (65 ≤ c1)) && (decide (c1 ≤ 90)))) else ((decide (65 ≤ c1)) && (decide (c1 ≤ 90))))), .keep [2] []] rfl ⟨⟨trivial, (congrArg V.b hc6)⟩, (congrArg V.b (bifT hc4 (orF hc5 (andT hc6 rfl))))⟩ ?_
          exact AK.met rfl
        · refine AK.go tab_ok hC [.say 12 (.b false), .n 6, .say 2 (.b (bif (decide (97 ≤ c1)) then ((decide (c1 ≤ 122)) || ((decide (65 ≤ c1)) && (decide (c1 ≤ 90)))) else ((decide (65 ≤ c1)) && (decide (c1 ≤ 90))))), .keep [2] []] rfl ⟨⟨trivial, (congrArg V.b hc6)⟩, (congrArg V.b (bifT hc4 (orF hc5 (andF hc6 rfl))))⟩ ?_
          exact AK.met rfl
    · refine AK.go tab_ok hC [.say 5 (.b false), .n 7] rfl ⟨trivial, (congrArg V.b hc4)⟩ ?_
      rcases boolOr (decide (65 ≤ c1)) with hc7 | hc7
      · refine AK.go tab_ok hC [.say 12 (.b true), .n 6, .say 2 (.b (bif (decide (97 ≤ c1)) then ((decide (c1 ≤ 122)) || ((decide (65 ≤ c1)) && (decide (c1 ≤ 90)))) else ((decide (65 ≤ c1)) && (decide (c1 ≤ 90))))), .keep [2] []] rfl ⟨⟨trivial, (congrArg V.b hc7)⟩, (congrArg V.b (bifF hc4 (andT hc7 rfl)))⟩ ?_
        exact AK.met rfl
      · refine AK.go tab_ok hC [.say 12 (.b false), .n 6, .say 2 (.b (bif (decide (97 ≤ c1)) then ((decide (c1 ≤ 122)) || ((decide (65 ≤ c1)) && (decide (c1 ≤ 90)))) else ((decide (65 ≤ c1)) && (decide (c1 ≤ 90))))), .keep [2] []] rfl ⟨⟨trivial, (congrArg V.b hc7)⟩, (congrArg V.b (bifF hc4 (andF hc7 rfl)))⟩ ?_
        exact AK.met rfl
  · rintro σ rfl
    refine AK.go tab_ok hC [.n 2, .keep [2] []] rfl trivial ?_
    obtain rfl := Option.some.inj h
    refine AK.done ?_
    exact Exists.intro [_] (And.intro (And.intro rfl trivial) (gives trivial))

-- 135 baldric/colour.Name
noncomputable def F_colour_Name_g1 (s1 : ByteArray) : Option Bool :=
  bif (strEq s1 (⟨#[]⟩ : ByteArray)) then
  some true
  else
  bif (decide (32 < (s1.size : Int))) then
  some true
  else
  (sidx s1 0).bind fun c7 =>
  (F_colour_letter c7).bind fun x8 =>
  some (!x8)

noncomputable def F_colour_Name_g2 (c13 : Int) : Option Bool :=
  (F_colour_letter c13).bind fun x16 =>
  bif (!x16) then
  bif (decide (c13 < 48)) then
  some (c13 != 95)
  else
  bif (decide (57 < c13)) then
  some (c13 != 95)
  else
  some false
  else
  some false

noncomputable def F_colour_Name_k3 (x10 : Int) (x14 : Bool) : Option (Int ⊕ Unit) :=
  bif x14 then
  none
  else
  some (.inl (w64 (x10 + 1)))

noncomputable def F_colour_Name_l4 (s1 : ByteArray) (x10 : Int) : Option (Int ⊕ Unit) :=
  bif (decide (x10 < (s1.size : Int))) then
  (sidx s1 x10).bind fun c13 =>
  (F_colour_Name_g2 c13).bind (fun x14 => F_colour_Name_k3 x10 x14)
  else
  some (.inr ())

noncomputable def F_colour_Name_c5 : Option Bool :=
  some true

noncomputable def F_colour_Name_k6 (s1 : ByteArray) (x3 : Bool) : Option Bool :=
  bif x3 then
  none
  else
  (loopM (fun st => F_colour_Name_l4 s1 st) 0).bind (fun q => F_colour_Name_c5)

noncomputable def F_colour_Name (s1 : ByteArray) : Option Bool :=
  (F_colour_Name_g1 s1).bind (fun x3 => F_colour_Name_k6 s1 x3)

set_option maxRecDepth 100000 in
set_option maxHeartbeats 4000000 in
theorem F_colour_Name_ok (s1 : ByteArray) {r : Bool} (h : F_colour_Name s1 = some r) : ACalls Tryz.prog 135 [.s s1] [] (Gives (.b r) []) := by
  refine ACalls.walk 42 Tryz.func135 rfl Tryz.ntmps135 rfl fun C hC => ?_
  unfold F_colour_Name at h
  refine AK.go tab_ok hC [.n 7] rfl trivial ?_
  obtain ⟨x3, hv4, h⟩ := bindE h
  replace h : F_colour_Name_k6 s1 x3 = some r := h
  refine AK.meetX (fun σ => σ = ⟨[(0, .s s1), (17, .b x3)], []⟩) ?_ ?_
  · replace h := hv4
    unfold F_colour_Name_g1 at h
    refine AK.go tab_ok hC [.n 4] rfl trivial ?_
    rcases bifE h with ⟨hc5, h⟩ | ⟨hc5, h⟩
    · refine AK.go tab_ok hC [.say 7 (.b true), .n 11, .keep [0, 17] []] rfl ⟨trivial, (congrArg V.b hc5)⟩ ?_
      obtain rfl := Option.some.inj h
      exact AK.met rfl
    · refine AK.go tab_ok hC [.say 7 (.b false), .n 5] rfl ⟨trivial, (congrArg V.b hc5)⟩ ?_
      rcases bifE h with ⟨hc6, h⟩ | ⟨hc6, h⟩
      · refine AK.go tab_ok hC [.say 12 (.b true), .n 6, .keep [0, 17] []] rfl ⟨trivial, (congrArg V.b hc6)⟩ ?_
        obtain rfl := Option.some.inj h
        exact AK.met rfl
      · obtain ⟨c7, hc7, h⟩ := bindE h
        obtain ⟨x8, hx8, h⟩ := bindE h
        refine AK.go tab_ok hC [.say 12 (.b false), .n 1, .o (.num c7), .o (.c false [.d] (.b x8)), .n 3, .keep [0, 17] []] rfl ⟨⟨⟨trivial, (congrArg V.b hc6)⟩, hc7⟩, (F_colour_letter_ok _ hx8)⟩ ?_
        obtain rfl := Option.some.inj h
        exact AK.met rfl
  · rintro σ rfl
    replace h : F_colour_Name_k6 s1 x3 = some r := h
    unfold F_colour_Name_k6 at h
    refine AK.go tab_ok hC [.n 1] rfl trivial ?_
    rcases bifE h with ⟨hc9, h⟩ | ⟨hc9, h⟩
    · refine AK.go tab_ok hC [.br true, .n 1] rfl ⟨trivial, hc9⟩ ?_
      cases h
    · refine AK.go tab_ok hC [.br false, .n 11, .keep [0, 19, 20] []] rfl ⟨trivial, hc9⟩ ?_
      obtain ⟨o21, hl21, h⟩ := bindE h
      refine AK.loop (body := (fun st => F_colour_Name_l4 s1 st)) (fun st σ => σ = ⟨[(0, .s s1), (19, .i .i64 (s1.size : Int)), (20, .i .i64 st)], []⟩) (fun q e σ => e = .exit 0 ∧ σ = ⟨[], []⟩) hl21 rfl ?_ ?_
      · rintro x10 o σ rfl h
        replace h : F_colour_Name_l4 s1 x10 = some o := h
        unfold F_colour_Name_l4 at h
        refine AK.go tab_ok hC [.n 6] rfl trivial ?_
        rcases bifE h with ⟨hc12, h⟩ | ⟨hc12, h⟩
        · obtain ⟨c13, hc13, h⟩ := bindE h
          refine AK.go tab_ok hC [.br true, .n 14, .o (.num c13), .n 4] rfl ⟨⟨trivial, hc12⟩, hc13⟩ ?_
          obtain ⟨x14, hv15, h⟩ := bindE h
          replace h : F_colour_Name_k3 x10 x14 = some o := h
          refine AK.meetX (fun σ => σ = ⟨[(0, .s s1), (19, .i .i64 (s1.size : Int)), (20, .i .i64 x10), (40, .b x14)], []⟩) ?_ ?_
          · replace h := hv15
            unfold F_colour_Name_g2 at h
            obtain ⟨x16, hx16, h⟩ := bindE h
            refine AK.go tab_ok hC [.n 2, .o (.c false [.d] (.b x16)), .n 2] rfl ⟨trivial, (F_colour_letter_ok _ hx16)⟩ ?_
            rcases bifE h with ⟨hc17, h⟩ | ⟨hc17, h⟩
            · refine AK.go tab_ok hC [.say 29 (.b true), .n 3] rfl ⟨trivial, (congrArg V.b hc17)⟩ ?_
              rcases bifE h with ⟨hc18, h⟩ | ⟨hc18, h⟩
              · refine AK.go tab_ok hC [.say 32 (.b true), .n 9, .keep [0, 19, 20, 40] []] rfl ⟨trivial, (congrArg V.b hc18)⟩ ?_
                obtain rfl := Option.some.inj h
                exact AK.met rfl
              · refine AK.go tab_ok hC [.say 32 (.b false), .n 5] rfl ⟨trivial, (congrArg V.b hc18)⟩ ?_
                rcases bifE h with ⟨hc19, h⟩ | ⟨hc19, h⟩
                · refine AK.go tab_ok hC [.say 37 (.b true), .n 4, .keep [0, 19, 20, 40] []] rfl ⟨trivial, (congrArg V.b hc19)⟩ ?_
                  obtain rfl := Option.some.inj h
                  exact AK.met rfl
                · refine AK.go tab_ok hC [.say 37 (.b false), .n 4, .keep [0, 19, 20, 40] []] rfl ⟨trivial, (congrArg V.b hc19)⟩ ?_
                  obtain rfl := Option.some.inj h
                  exact AK.met rfl
            · refine AK.go tab_ok hC [.say 29 (.b false), .n 12, .keep [0, 19, 20, 40] []] rfl ⟨trivial, (congrArg V.b hc17)⟩ ?_
              obtain rfl := Option.some.inj h
              exact AK.met rfl
          · rintro σ rfl
            replace h : F_colour_Name_k3 x10 x14 = some o := h
            unfold F_colour_Name_k3 at h
            refine AK.go tab_ok hC [.n 1] rfl trivial ?_
            rcases bifE h with ⟨hc20, h⟩ | ⟨hc20, h⟩
            · refine AK.go tab_ok hC [.br true, .n 1] rfl ⟨trivial, hc20⟩ ?_
              cases h
            · refine AK.go tab_ok hC [.br false, .n 7, .keep [0, 19, 20] []] rfl ⟨trivial, hc20⟩ ?_
              obtain rfl := Option.some.inj h
              exact rndN rfl rfl
        · refine AK.go tab_ok hC [.br false, .n 2, .keep [] []] rfl ⟨trivial, hc12⟩ ?_
          obtain rfl := Option.some.inj h
          exact rndX rfl (And.intro rfl rfl)
      · obtain _ := o21
        replace h : F_colour_Name_c5 = some r := h
        unfold F_colour_Name_c5 at h
        rintro e σ ⟨rfl, rfl⟩
        refine AK.go tab_ok hC [.n 8, .keep [2] []] rfl trivial ?_
        obtain rfl := Option.some.inj h
        refine AK.done ?_
        exact Exists.intro [_] (And.intro (And.intro rfl trivial) (gives trivial))

-- 146 baldric/colour.names
noncomputable def F_colour_names_g1 (e9 : ByteArray) (m5 : (List (ByteArray × Bool))) : Option Bool :=
  (F_colour_Name e9).bind fun x12 =>
  bif (!x12) then
  some true
  else
  some ((mget m5 e9).getD false)

noncomputable def F_colour_names_k2 (x4 : Int) (m5 : (List (ByteArray × Bool))) (e9 : ByteArray) (x10 : Bool) : Option ((Int × (List (ByteArray × Bool))) ⊕ Unit) :=
  bif x10 then
  none
  else
  some (.inl ((w64 (x4 + 1)), (mset ltS m5 e9 true)))

noncomputable def F_colour_names_l3 (l1 : (List ByteArray)) (x4 : Int) (m5 : (List (ByteArray × Bool))) : Option ((Int × (List (ByteArray × Bool))) ⊕ Unit) :=
  bif (decide (x4 < (l1.length : Int))) then
  (idx l1 x4).bind fun e9 =>
  (F_colour_names_g1 e9 m5).bind (fun x10 => F_colour_names_k2 x4 m5 e9 x10)
  else
  some (.inr ())

noncomputable def F_colour_names_c4 : Option Bool :=
  some true

noncomputable def F_colour_names (l1 : (List ByteArray)) : Option Bool :=
  (loopM (fun st => F_colour_names_l3 l1 st.1 st.2) (0, ([] : (List (ByteArray × Bool))))).bind (fun q => F_colour_names_c4)

set_option maxRecDepth 100000 in
set_option maxHeartbeats 4000000 in
theorem F_colour_names_ok (l1 : (List ByteArray)) {r : Bool} (h : F_colour_names l1 = some r) : ACalls Tryz.prog 146 [.sl 1 (l1.map row_S)] [] (Gives (.b r) []) := by
  refine ACalls.walk 24 Tryz.func146 rfl Tryz.ntmps146 rfl fun C hC => ?_
  unfold F_colour_names at h
  refine AK.go tab_ok hC [.n 8, .sayO 6 (.map (mapV V.s V.b ([] : (List (ByteArray × Bool))))), .n 7, .o (.ln l1.length), .n 4, .keep [3, 7, 8, 9] [6]] rfl ⟨⟨trivial, rfl⟩, mapLen⟩ ?_
  obtain ⟨o15, hl15, h⟩ := bindE h
  refine AK.loop (body := (fun st => F_colour_names_l3 l1 st.1 st.2)) (fun st σ => σ = ⟨[(3, .map 6), (7, .sl 1 (l1.map row_S)), (8, .i .i64 (l1.length : Int)), (9, .i .i64 st.1)], [(6, .map (mapV V.s V.b st.2))]⟩) (fun q e σ => e = .exit 0 ∧ σ = ⟨[], []⟩) hl15 rfl ?_ ?_
  · rintro ⟨x4, m5⟩ o σ rfl h
    replace h : F_colour_names_l3 l1 x4 m5 = some o := h
    unfold F_colour_names_l3 at h
    refine AK.go tab_ok hC [.n 6] rfl trivial ?_
    rcases bifE h with ⟨hc8, h⟩ | ⟨hc8, h⟩
    · obtain ⟨e9, he9, h⟩ := bindE h
      refine AK.go tab_ok hC [.br true, .n 6, .o (.row (row_S e9)), .n 6] rfl ⟨⟨trivial, hc8⟩, (idxM he9)⟩ ?_
      obtain ⟨x10, hv11, h⟩ := bindE h
      replace h : F_colour_names_k2 x4 m5 e9 x10 = some o := h
      refine AK.meetX (fun σ => σ = ⟨[(3, .map 6), (5, .s e9), (7, .sl 1 (l1.map row_S)), (8, .i .i64 (l1.length : Int)), (9, .i .i64 x4), (20, .b x10)], [(6, .map (mapV V.s V.b m5))]⟩) ?_ ?_
      · replace h := hv11
        unfold F_colour_names_g1 at h
        obtain ⟨x12, hx12, h⟩ := bindE h
        refine AK.go tab_ok hC [.n 2, .o (.c false [.d] (.b x12)), .n 2] rfl ⟨trivial, (F_colour_Name_ok _ hx12)⟩ ?_
        rcases bifE h with ⟨hc13, h⟩ | ⟨hc13, h⟩
        · refine AK.go tab_ok hC [.say 16 (.b true), .n 5, .keep [3, 5, 7, 8, 9, 20] [6]] rfl ⟨trivial, (congrArg V.b hc13)⟩ ?_
          obtain rfl := Option.some.inj h
          exact AK.met rfl
        · refine AK.go tab_ok hC [.say 16 (.b false), .n 2, .o (.any (.b ((mget m5 e9).getD false)) none), .n 2, .keep [3, 5, 7, 8, 9, 20] [6]] rfl ⟨⟨trivial, (congrArg V.b hc13)⟩, (fun σ h1 h2 _ => Stp.lookup (e := V.s) (f := V.b) (l := m5) (k := e9) (z := false) rfl rfl (hC ▸ rfl) (h1 _ _ rfl) (h2 _ _ rfl) (h1 _ _ rfl) mt_180 ky_9 zi_4 rfl)⟩ ?_
          obtain rfl := Option.some.inj h
          exact AK.met rfl
      · rintro σ rfl
        replace h : F_colour_names_k2 x4 m5 e9 x10 = some o := h
        unfold F_colour_names_k2 at h
        refine AK.go tab_ok hC [.n 1] rfl trivial ?_
        rcases bifE h with ⟨hc14, h⟩ | ⟨hc14, h⟩
        · refine AK.go tab_ok hC [.br true, .n 1] rfl ⟨trivial, hc14⟩ ?_
          cases h
        · refine AK.go tab_ok hC [.br false, .n 5, .x (fun σ => σ.set 6 (.map (mapV V.s V.b (mset ltS m5 e9 true)))), .n 7, .keep [3, 7, 8, 9] [6]] rfl ⟨⟨trivial, hc14⟩, (Stp.mapUpdate (e := V.s) (f := V.b) (l := m5) (k := e9) (v := true) ltS rfl rfl rfl rfl rfl rfl mt_180 ky_9 rfl)⟩ ?_
          obtain rfl := Option.some.inj h
          exact rndN rfl rfl
    · refine AK.go tab_ok hC [.br false, .n 2, .keep [] []] rfl ⟨trivial, hc8⟩ ?_
      obtain rfl := Option.some.inj h
      exact rndX rfl (And.intro rfl rfl)
  · obtain _ := o15
    replace h : F_colour_names_c4 = some r := h
    unfold F_colour_names_c4 at h
    rintro e σ ⟨rfl, rfl⟩
    refine AK.go tab_ok hC [.n 8, .keep [2] []] rfl trivial ?_
    obtain rfl := Option.some.inj h
    refine AK.done ?_
    exact Exists.intro [_] (And.intro (And.intro rfl trivial) (gives trivial))

-- 134 baldric/colour.size
noncomputable def F_colour_size_k1 : Option Int :=
  none

noncomputable def F_colour_size (c1 : TColour) (ahead2 : (List Int)) : Option Int :=
  bif (c1.Kind == 1) then
  none
  else
  bif (c1.Kind == 2) then
  (F_colour_names c1.Names).bind fun x6 =>
  bif x6 then
  some (c1.Names.length : Int)
  else
  F_colour_size_k1
  else
  bif (c1.Kind == 3) then
  none
  else
  F_colour_size_k1

set_option maxRecDepth 100000 in
set_option maxHeartbeats 4000000 in
theorem F_colour_size_ok (c1 : TColour) (ahead2 : (List Int)) {r : Int} (h : F_colour_size c1 ahead2 = some r) : ACalls Tryz.prog 134 [.agg (row_TColour c1), .sl 1 (ahead2.map row_I)] [] (Gives (.i .i64 r) []) := by
  refine ACalls.walk 51 Tryz.func134 rfl Tryz.ntmps134 rfl fun C hC => ?_
  unfold F_colour_size at h
  refine AK.go tab_ok hC [.n 6] rfl trivial ?_
  refine AK.meet (fun σ => σ = ⟨[], []⟩ ∧ F_colour_size_k1 = some r) ?_ ?_
  · refine AK.go tab_ok hC [.n 13] rfl trivial ?_
    rcases bifE h with ⟨hc4, h⟩ | ⟨hc4, h⟩
    · refine AK.go tab_ok hC [.br true, .n 1] rfl ⟨trivial, hc4⟩ ?_
      cases h
    · refine AK.go tab_ok hC [.br false, .n 6] rfl ⟨trivial, hc4⟩ ?_
      rcases bifE h with ⟨hc5, h⟩ | ⟨hc5, h⟩
      · obtain ⟨x6, hx6, h⟩ := bindE h
        refine AK.go tab_ok hC [.br true, .n 4, .o (.c false [.d] (.b x6)), .n 2] rfl ⟨⟨trivial, hc5⟩, (F_colour_names_ok _ hx6)⟩ ?_
        rcases bifE h with ⟨hc7, h⟩ | ⟨hc7, h⟩
        · refine AK.go tab_ok hC [.br true, .n 4, .o (.ln c1.Names.length), .n 6, .keep [4] []] rfl ⟨⟨trivial, hc7⟩, mapLen⟩ ?_
          obtain rfl := Option.some.inj h
          refine AK.done ?_
          exact Exists.intro [_] (And.intro (And.intro rfl trivial) (gives trivial))
        · refine AK.go tab_ok hC [.br false, .n 2, .keep [] []] rfl ⟨trivial, hc7⟩ ?_
          exact AK.met (And.intro rfl h)
      · refine AK.go tab_ok hC [.br false, .n 6] rfl ⟨trivial, hc5⟩ ?_
        rcases bifE h with ⟨hc8, h⟩ | ⟨hc8, h⟩
        · refine AK.go tab_ok hC [.br true, .n 1] rfl ⟨trivial, hc8⟩ ?_
          cases h
        · refine AK.go tab_ok hC [.br false, .n 2, .keep [] []] rfl ⟨trivial, hc8⟩ ?_
          exact AK.met (And.intro rfl h)
  · rintro σ ⟨rfl, h⟩
    unfold F_colour_size_k1 at h
    refine AK.go tab_ok hC [.n 1] rfl trivial ?_
    cases h

-- 129 baldric/colour.sizes
noncomputable def F_colour_sizes_g1 (e14 : TColour) (m7 : (List (ByteArray × Bool))) (x15 : Int) : Option Bool :=
  (F_colour_Name e14.Name).bind fun x18 =>
  bif (!x18) then
  some true
  else
  bif ((mget m7 e14.Name).getD false) then
  some true
  else
  bif (decide (x15 < 1)) then
  some true
  else
  some (decide (1024 < x15))

noncomputable def F_colour_sizes_k2 (l8 : (List Int)) (x15 : Int) (x6 : Int) (m7 : (List (ByteArray × Bool))) (e14 : TColour) (x16 : Bool) : Option ((Int × (List (ByteArray × Bool)) × (List Int)) ⊕ (List Int)) :=
  bif x16 then
  none
  else
  (chk (decide (l8.length + ([x15] : List Int).length ≤ 4294967296))).bind fun _ =>
  some (.inl ((w64 (x6 + 1)), (mset ltS m7 e14.Name true), (l8 ++ ([x15] : List Int))))

noncomputable def F_colour_sizes_l3 (l1 : (List TColour)) (x6 : Int) (m7 : (List (ByteArray × Bool))) (l8 : (List Int)) : Option ((Int × (List (ByteArray × Bool)) × (List Int)) ⊕ (List Int)) :=
  bif (decide (x6 < (l1.length : Int))) then
  (idx l1 x6).bind fun e14 =>
  (F_colour_size e14 l8).bind fun x15 =>
  (F_colour_sizes_g1 e14 m7 x15).bind (fun x16 => F_colour_sizes_k2 l8 x15 x6 m7 e14 x16)
  else
  some (.inr l8)

noncomputable def F_colour_sizes_c4 (l12 : (List Int)) : Option ((List Int) × Bool) :=
  some (l12, true)

noncomputable def F_colour_sizes (l1 : (List TColour)) : Option ((List Int) × Bool) :=
  bif (decide (32 < (l1.length : Int))) then
  none
  else
  (loopM (fun st => F_colour_sizes_l3 l1 st.1 st.2.1 st.2.2) (0, ([] : (List (ByteArray × Bool))), ([] : List Int))).bind (fun q => F_colour_sizes_c4 q)

set_option maxRecDepth 100000 in
set_option maxHeartbeats 4000000 in
theorem F_colour_sizes_ok (l1 : (List TColour)) {r : ((List Int) × Bool)} (h : F_colour_sizes l1 = some r) : ACalls Tryz.prog 129 [.sl 7 (l1.map row_TColour)] [] (Gives (.tup [.sl 1 (r.1.map row_I), .b r.2]) []) := by
  refine ACalls.walk 49 Tryz.func129 rfl Tryz.ntmps129 rfl fun C hC => ?_
  unfold F_colour_sizes at h
  refine AK.go tab_ok hC [.n 10, .o (.ln l1.length), .n 3] rfl ⟨trivial, mapLen⟩ ?_
  rcases bifE h with ⟨hc4, h⟩ | ⟨hc4, h⟩
  · refine AK.go tab_ok hC [.br true, .n 1] rfl ⟨trivial, hc4⟩ ?_
    cases h
  · refine AK.go tab_ok hC [.br false, .n 5, .sayO 12 (.map (mapV V.s V.b ([] : (List (ByteArray × Bool))))), .n 12, .o (.ln l1.length), .n 4, .adopt 5 43 1, .sayO 43 (.arr 1 (([] : List Int).map row_I)), .say 5 (.own 43 ([] : List Int).length), .keep [4, 5, 13, 14, 15] [12, 43]] rfl ⟨⟨⟨⟨⟨trivial, hc4⟩, rfl⟩, mapLen⟩, rfl⟩, (congrArg (fun n => V.own 43 n) (by simp))⟩ ?_
    obtain ⟨l12, hl24, h⟩ := bindE h
    refine AK.loop (body := (fun st => F_colour_sizes_l3 l1 st.1 st.2.1 st.2.2)) (fun st σ => σ = ⟨[(4, .map 12), (5, .own 43 st.2.2.length), (13, .sl 7 (l1.map row_TColour)), (14, .i .i64 (l1.length : Int)), (15, .i .i64 st.1)], [(12, .map (mapV V.s V.b st.2.1)), (43, .arr 1 (st.2.2.map row_I))]⟩) (fun q e σ => e = .exit 0 ∧ σ = ⟨[(5, .own 43 q.length)], [(43, .arr 1 (q.map row_I))]⟩) hl24 rfl ?_ ?_
    · rintro ⟨x6, m7, l8⟩ o σ rfl h
      replace h : F_colour_sizes_l3 l1 x6 m7 l8 = some o := h
      unfold F_colour_sizes_l3 at h
      refine AK.go tab_ok hC [.n 6] rfl trivial ?_
      rcases bifE h with ⟨hc13, h⟩ | ⟨hc13, h⟩
      · obtain ⟨e14, he14, h⟩ := bindE h
        obtain ⟨x15, hx15, h⟩ := bindE h
        refine AK.go tab_ok hC [.br true, .n 6, .o (.row (row_TColour e14)), .v .no [] (.agg (row_TColour e14)), .n 2, .sayO 7 (.var (row_TColour e14)), .n 4, .v .no [] (.agg (row_TColour e14)), .n 1, .o (.c true [.d, .o (l8.map row_I)] (.i .i64 x15)), .n 5] rfl ⟨⟨⟨⟨⟨⟨trivial, hc13⟩, (idxM he14)⟩, rfl⟩, rfl⟩, rfl⟩, ⟨(viewMap rfl), (F_colour_size_ok _ _ hx15)⟩⟩ ?_
        obtain ⟨x16, hv17, h⟩ := bindE h
        replace h : F_colour_sizes_k2 l8 x15 x6 m7 e14 x16 = some o := h
        refine AK.meetX (fun σ => σ = ⟨[(4, .map 12), (5, .own 43 l8.length), (7, .loc 7 0 0), (8, .i .i64 x15), (13, .sl 7 (l1.map row_TColour)), (14, .i .i64 (l1.length : Int)), (15, .i .i64 x6), (39, .b x16)], [(7, .var (row_TColour e14)), (12, .map (mapV V.s V.b m7)), (43, .arr 1 (l8.map row_I))]⟩) ?_ ?_
        · replace h := hv17
          unfold F_colour_sizes_g1 at h
          obtain ⟨x18, hx18, h⟩ := bindE h
          refine AK.go tab_ok hC [.n 3, .o (.c false [.d] (.b x18)), .n 2] rfl ⟨trivial, (F_colour_Name_ok _ hx18)⟩ ?_
          rcases bifE h with ⟨hc19, h⟩ | ⟨hc19, h⟩
          · refine AK.go tab_ok hC [.say 26 (.b true), .n 14, .keep [4, 5, 7, 8, 13, 14, 15, 39] [7, 12, 43]] rfl ⟨trivial, (congrArg V.b hc19)⟩ ?_
            obtain rfl := Option.some.inj h
            exact AK.met rfl
          · refine AK.go tab_ok hC [.say 26 (.b false), .n 3, .o (.any (.b ((mget m7 e14.Name).getD false)) none), .n 2] rfl ⟨⟨trivial, (congrArg V.b hc19)⟩, (fun σ h1 h2 _ => Stp.lookup (e := V.s) (f := V.b) (l := m7) (k := e14.Name) (z := false) rfl rfl (hC ▸ rfl) (h1 _ _ rfl) (h2 _ _ rfl) (h1 _ _ rfl) mt_180 ky_9 zi_4 rfl)⟩ ?_
            rcases bifE h with ⟨hc20, h⟩ | ⟨hc20, h⟩
            · refine AK.go tab_ok hC [.say 32 (.b true), .n 8, .keep [4, 5, 7, 8, 13, 14, 15, 39] [7, 12, 43]] rfl ⟨trivial, (congrArg V.b hc20)⟩ ?_
              obtain rfl := Option.some.inj h
              exact AK.met rfl
            · refine AK.go tab_ok hC [.say 32 (.b false), .n 4] rfl ⟨trivial, (congrArg V.b hc20)⟩ ?_
              rcases bifE h with ⟨hc21, h⟩ | ⟨hc21, h⟩
              · refine AK.go tab_ok hC [.say 36 (.b true), .n 4, .keep [4, 5, 7, 8, 13, 14, 15, 39] [7, 12, 43]] rfl ⟨trivial, (congrArg V.b hc21)⟩ ?_
                obtain rfl := Option.some.inj h
                exact AK.met rfl
              · refine AK.go tab_ok hC [.say 36 (.b false), .n 4, .keep [4, 5, 7, 8, 13, 14, 15, 39] [7, 12, 43]] rfl ⟨trivial, (congrArg V.b hc21)⟩ ?_
                obtain rfl := Option.some.inj h
                exact AK.met rfl
        · rintro σ rfl
          replace h : F_colour_sizes_k2 l8 x15 x6 m7 e14 x16 = some o := h
          unfold F_colour_sizes_k2 at h
          refine AK.go tab_ok hC [.n 1] rfl trivial ?_
          rcases bifE h with ⟨hc22, h⟩ | ⟨hc22, h⟩
          · refine AK.go tab_ok hC [.br true, .n 1] rfl ⟨trivial, hc22⟩ ?_
            cases h
          · obtain ⟨_, hk23, h⟩ := bindE h
            replace hk23 := chkE hk23
            refine AK.go tab_ok hC [.br false, .n 7, .x (fun σ => σ.set 12 (.map (mapV V.s V.b (mset ltS m7 e14.Name true)))), .n 5, .v (.bd []) [] (.sl 1 (([x15] : List Int).map row_I)), .app ((l8 ++ ([x15] : List Int)).map row_I) (l8 ++ ([x15] : List Int)).length, .n 8, .keep [4, 5, 13, 14, 15] [12, 43]] rfl ⟨⟨⟨⟨trivial, hc22⟩, (Stp.mapUpdate (e := V.s) (f := V.b) (l := m7) (k := e14.Name) (v := true) ltS rfl rfl rfl rfl rfl rfl mt_180 ky_9 rfl)⟩, rfl⟩, ⟨mapLen, appLim hk23 mapLen, mapApps, appLn mapLen⟩⟩ ?_
            obtain rfl := Option.some.inj h
            exact rndN rfl rfl
      · refine AK.go tab_ok hC [.br false, .n 2, .keep [5] [43]] rfl ⟨trivial, hc13⟩ ?_
        obtain rfl := Option.some.inj h
        exact rndX rfl (And.intro rfl rfl)
    · replace h : F_colour_sizes_c4 l12 = some r := h
      unfold F_colour_sizes_c4 at h
      rintro e σ ⟨rfl, rfl⟩
      refine AK.go tab_ok hC [.n 10, .frz 43 (l12.map row_I) [2] [], .keep [2, 3] []] rfl ⟨trivial, ⟨trivial, (frzL mapLen)⟩⟩ ?_
      obtain rfl := Option.some.inj h
      refine AK.done ?_
      exact Exists.intro [_, _] (And.intro (And.intro rfl (And.intro rfl trivial)) (gives trivial))

-- 122 baldric/colour.of
noncomputable def F_colour_of (l1 : (List TColour)) (k2 : Int) : Option (Bool × Tcolour_set) :=
  (F_colour_sizes l1).bind fun x5 =>
  bif ((!x5.2) || ((decide (k2 < 0)) || (decide ((l1.length : Int) ≤ k2)))) then
  none
  else
  some (true, (Tcolour_set.mk l1 x5.1 k2))

set_option maxRecDepth 100000 in
set_option maxHeartbeats 4000000 in
theorem F_colour_of_ok (l1 : (List TColour)) (k2 : Int) {r : (Bool × Tcolour_set)} (h : F_colour_of l1 k2 = some r) : ACalls Tryz.prog 122 [.sl 7 (l1.map row_TColour), .i .i64 k2] [] (Gives (.tup [.agg (row_Tcolour_set r.2), .b r.1]) []) := by
  refine ACalls.walk 30 Tryz.func122 rfl Tryz.ntmps122 rfl fun C hC => ?_
  unfold F_colour_of at h
  obtain ⟨x5, hx5, h⟩ := bindE h
  refine AK.go tab_ok hC [.n 9, .o (.c false [.d] (.tup [.sl 1 (x5.1.map row_I), .b x5.2])), .n 9] rfl ⟨trivial, (F_colour_sizes_ok _ hx5)⟩ ?_
  refine AK.meetX (fun σ => σ = ⟨[(0, .sl 7 (l1.map row_TColour)), (1, .i .i64 k2), (4, .loc 4 0 0), (6, .sl 1 (x5.1.map row_I)), (24, .b ((!x5.2) || ((decide (k2 < 0)) || (decide ((l1.length : Int) ≤ k2)))))], [(4, .var [.lit (.slice none 0 0), .lit (.slice none 0 0), .i .i64 0])]⟩) ?_ ?_
  · refine AK.go tab_ok hC [.n 4] rfl trivial ?_
    rcases boolOr (!x5.2) with hc7 | hc7
    · refine AK.go tab_ok hC [.say 15 (.b true), .n 10, .say 24 (.b ((!x5.2) || ((decide (k2 < 0)) || (decide ((l1.length : Int) ≤ k2))))), .keep [0, 1, 4, 6, 24] [4]] rfl ⟨⟨trivial, (congrArg V.b hc7)⟩, (congrArg V.b (orT hc7 rfl))⟩ ?_
      exact AK.met rfl
    · refine AK.go tab_ok hC [.say 15 (.b false), .n 4] rfl ⟨trivial, (congrArg V.b hc7)⟩ ?_
      rcases boolOr (decide (k2 < 0)) with hc8 | hc8
      · refine AK.go tab_ok hC [.say 19 (.b true), .n 6, .say 24 (.b ((!x5.2) || ((decide (k2 < 0)) || (decide ((l1.length : Int) ≤ k2))))), .keep [0, 1, 4, 6, 24] [4]] rfl ⟨⟨trivial, (congrArg V.b hc8)⟩, (congrArg V.b (orF hc7 (orT hc8 rfl)))⟩ ?_
        exact AK.met rfl
      · refine AK.go tab_ok hC [.say 19 (.b false), .n 2, .o (.ln l1.length), .n 3, .say 24 (.b ((!x5.2) || ((decide (k2 < 0)) || (decide ((l1.length : Int) ≤ k2))))), .keep [0, 1, 4, 6, 24] [4]] rfl ⟨⟨⟨trivial, (congrArg V.b hc8)⟩, mapLen⟩, (congrArg V.b (orF hc7 (orF hc8 rfl)))⟩ ?_
        exact AK.met rfl
  · rintro σ rfl
    refine AK.go tab_ok hC [.n 1] rfl trivial ?_
    rcases bifE h with ⟨hc9, h⟩ | ⟨hc9, h⟩
    · refine AK.go tab_ok hC [.br true, .n 1] rfl ⟨trivial, hc9⟩ ?_
      cases h
    · refine AK.go tab_ok hC [.br false, .n 7, .v .no [] (.agg (row_Tcolour_set (Tcolour_set.mk l1 x5.1 k2))), .n 1, .sayO 4 (.var (row_Tcolour_set (Tcolour_set.mk l1 x5.1 k2))), .n 4, .keep [4, 5] [4]] rfl ⟨⟨⟨trivial, hc9⟩, rfl⟩, rfl⟩ ?_
      obtain rfl := Option.some.inj h
      refine AK.done ?_
      exact Exists.intro [_, _] (And.intro (And.intro (Exists.intro _ (Exists.intro _ (And.intro rfl (And.intro rfl (Or.inl (And.intro (tab_ok.ag rfl) (And.intro (tab_ok.sz rfl) rfl))))))) (And.intro rfl trivial)) (gives trivial))

-- 128 (baldric/colour.set).colour
noncomputable def F_colour_set_colour (s1 : Tcolour_set) : Option TColour :=
  (idx s1.all s1.k).bind fun e3 =>
  some e3

set_option maxRecDepth 100000 in
set_option maxHeartbeats 4000000 in
theorem F_colour_set_colour_ok (s1 : Tcolour_set) {r : TColour} (h : F_colour_set_colour s1 = some r) : ACalls Tryz.prog 128 [.agg (row_Tcolour_set s1)] [] (Gives (.agg (row_TColour r)) []) := by
  refine ACalls.walk 9 Tryz.func128 rfl Tryz.ntmps128 rfl fun C hC => ?_
  unfold F_colour_set_colour at h
  obtain ⟨e3, he3, h⟩ := bindE h
  refine AK.go tab_ok hC [.n 12, .o (.row (row_TColour e3)), .v .no [] (.agg (row_TColour e3)), .n 1, .sayO 2 (.var (row_TColour e3)), .n 3, .keep [2] [2]] rfl ⟨⟨⟨trivial, (idxM he3)⟩, rfl⟩, rfl⟩ ?_
  obtain rfl := Option.some.inj h
  refine AK.done ?_
  exact Exists.intro [_] (And.intro (And.intro (Exists.intro _ (Exists.intro _ (And.intro rfl (And.intro rfl (Or.inl (And.intro (tab_ok.ag rfl) (And.intro (tab_ok.sz rfl) rfl))))))) trivial) (gives trivial))

-- 127 (baldric/colour.set).has
noncomputable def F_colour_set_has_g1 (m2 : Int) (s1 : Tcolour_set) : Option Bool :=
  bif (decide (0 ≤ m2)) then
  (idx s1.sizes s1.k).bind fun e7 =>
  some (decide (m2 < e7))
  else
  some false

noncomputable def F_colour_set_has_k2 (x4 : Bool) : Option Bool :=
  some x4

noncomputable def F_colour_set_has (s1 : Tcolour_set) (m2 : Int) : Option Bool :=
  (F_colour_set_has_g1 m2 s1).bind (fun x4 => F_colour_set_has_k2 x4)

set_option maxRecDepth 100000 in
set_option maxHeartbeats 4000000 in
theorem F_colour_set_has_ok (s1 : Tcolour_set) (m2 : Int) {r : Bool} (h : F_colour_set_has s1 m2 = some r) : ACalls Tryz.prog 127 [.agg (row_Tcolour_set s1), .i .i64 m2] [] (Gives (.b r) []) := by
  refine ACalls.walk 17 Tryz.func127 rfl Tryz.ntmps127 rfl fun C hC => ?_
  unfold F_colour_set_has at h
  refine AK.go tab_ok hC [.n 7] rfl trivial ?_
  obtain ⟨x4, hv5, h⟩ := bindE h
  replace h : F_colour_set_has_k2 x4 = some r := h
  refine AK.meetX (fun σ => σ = ⟨[(4, .b x4)], []⟩) ?_ ?_
  · replace h := hv5
    unfold F_colour_set_has_g1 at h
    refine AK.go tab_ok hC [.n 4] rfl trivial ?_
    rcases bifE h with ⟨hc6, h⟩ | ⟨hc6, h⟩
    · obtain ⟨e7, he7, h⟩ := bindE h
      refine AK.go tab_ok hC [.say 7 (.b true), .n 5, .o (.row (row_I e7)), .n 5, .keep [4] []] rfl ⟨⟨trivial, (congrArg V.b hc6)⟩, (idxM he7)⟩ ?_
      obtain rfl := Option.some.inj h
      exact AK.met rfl
    · refine AK.go tab_ok hC [.say 7 (.b false), .n 11, .keep [4] []] rfl ⟨trivial, (congrArg V.b hc6)⟩ ?_
      obtain rfl := Option.some.inj h
      exact AK.met rfl
  · rintro σ rfl
    replace h : F_colour_set_has_k2 x4 = some r := h
    unfold F_colour_set_has_k2 at h
    refine AK.go tab_ok hC [.n 2, .keep [4] []] rfl trivial ?_
    obtain rfl := Option.some.inj h
    refine AK.done ?_
    exact Exists.intro [_] (And.intro (And.intro rfl trivial) (gives trivial))

-- 121 baldric/colour.Member
noncomputable def F_colour_Member (l1 : (List TColour)) (k2 : Int) (n3 : Int) : Option (Int × Bool) :=
  (F_colour_of l1 k2).bind fun x6 =>
  bif (!x6.1) then
  none
  else
  (F_colour_set_colour x6.2).bind fun x8 =>
  bif (x8.Kind == 1) then
  none
  else
  (F_colour_set_has x6.2 n3).bind fun x10 =>
  bif (!x10) then
  none
  else
  some (n3, true)

set_option maxRecDepth 100000 in
set_option maxHeartbeats 4000000 in
theorem F_colour_Member_ok (l1 : (List TColour)) (k2 : Int) (n3 : Int) {r : (Int × Bool)} (h : F_colour_Member l1 k2 n3 = some r) : ACalls Tryz.prog 121 [.sl 7 (l1.map row_TColour), .i .i64 k2, .i .i64 n3] [] (Gives (.tup [.i .i64 r.1, .b r.2]) []) := by
  refine ACalls.walk 43 Tryz.func121 rfl Tryz.ntmps121 rfl fun C hC => ?_
  unfold F_colour_Member at h
  obtain ⟨x6, hx6, h⟩ := bindE h
  refine AK.go tab_ok hC [.n 10, .o (.c false [.d, .d] (.tup [.agg (row_Tcolour_set x6.2), .b x6.1])), .n 5, .sayO 8 (.var (row_Tcolour_set x6.2)), .n 10] rfl ⟨⟨trivial, (F_colour_of_ok _ _ hx6)⟩, rfl⟩ ?_
  rcases bifE h with ⟨hc7, h⟩ | ⟨hc7, h⟩
  · refine AK.go tab_ok hC [.br true, .n 1] rfl ⟨trivial, hc7⟩ ?_
    cases h
  · obtain ⟨x8, hx8, h⟩ := bindE h
    refine AK.go tab_ok hC [.br false, .n 5, .v .no [] (.agg (row_Tcolour_set x6.2)), .o (.c false [.d] (.agg (row_TColour x8))), .n 2, .sayO 10 (.var (row_TColour x8)), .n 9] rfl ⟨⟨⟨⟨trivial, hc7⟩, rfl⟩, (F_colour_set_colour_ok _ hx8)⟩, rfl⟩ ?_
    rcases bifE h with ⟨hc9, h⟩ | ⟨hc9, h⟩
    · refine AK.go tab_ok hC [.br true, .n 2] rfl ⟨trivial, hc9⟩ ?_
      cases h
    · obtain ⟨x10, hx10, h⟩ := bindE h
      refine AK.go tab_ok hC [.br false, .n 5, .v .no [] (.agg (row_Tcolour_set x6.2)), .n 1, .o (.c false [.d, .d] (.b x10)), .n 3] rfl ⟨⟨⟨trivial, hc9⟩, rfl⟩, (F_colour_set_has_ok _ _ hx10)⟩ ?_
      rcases bifE h with ⟨hc11, h⟩ | ⟨hc11, h⟩
      · refine AK.go tab_ok hC [.br true, .n 1] rfl ⟨trivial, hc11⟩ ?_
        cases h
      · refine AK.go tab_ok hC [.br false, .n 10, .keep [6, 7] []] rfl ⟨trivial, hc11⟩ ?_
        obtain rfl := Option.some.inj h
        refine AK.done ?_
        exact Exists.intro [_, _] (And.intro (And.intro rfl (And.intro rfl trivial)) (gives trivial))

-- 107 baldric/bind.tokens
noncomputable def F_bind_tokens_l1 (which3 : (List Int)) (l2 : (List TArc)) (env4 : (List Int)) (n1 : TNet) (x9 : Int) (l10 : (List (List (Int × Int)))) : Option ((Int × (List (List (Int × Int)))) ⊕ (List (List (Int × Int)))) :=
  bif (decide (x9 < (which3.length : Int))) then
  (idx which3 x9).bind fun e15 =>
  bif ((decide (e15 < 0)) || (decide ((l2.length : Int) ≤ e15))) then
  none
  else
  (idx l2 e15).bind fun e19 =>
  (F_expr_Eval e19.Expr env4).bind fun x20 =>
  bif (x20.2 != 0) then
  none
  else
  (idx l2 e15).bind fun e22 =>
  bif ((decide (e22.Place < 0)) || (decide ((n1.Places.length : Int) ≤ e22.Place))) then
  none
  else
  (idx n1.Places e22.Place).bind fun e26 =>
  (F_colour_Member n1.Colours e26.Colour x20.1).bind fun x27 =>
  bif (!x27.2) then
  none
  else
  (idx l10 e22.Place).bind fun e29 =>
  (F_bag_Of ([x27.1] : List Int)).bind fun x30 =>
  (F_bag_Sum e29 x30).bind fun x31 =>
  (idx l10 e22.Place).bind fun e32 =>
  bif (x31.2 != 0) then
  none
  else
  some (.inl ((w64 (x9 + 1)), (l10.set e22.Place.toNat x31.1)))
  else
  some (.inr l10)

noncomputable def F_bind_tokens_c2 (l13 : (List (List (Int × Int)))) : Option ((List (List (Int × Int))) × Int) :=
  some (l13, 0)

noncomputable def F_bind_tokens (n1 : TNet) (l2 : (List TArc)) (which3 : (List Int)) (env4 : (List Int)) : Option ((List (List (Int × Int))) × Int) :=
  (chk (decide (0 ≤ (n1.Places.length : Int)) && decide ((n1.Places.length : Int) ≤ (n1.Places.length : Int)) && decide ((n1.Places.length : Int) ≤ 4294967296))).bind fun _ =>
  (loopM (fun st => F_bind_tokens_l1 which3 l2 env4 n1 st.1 st.2) (0, (List.replicate (n1.Places.length : Int).toNat (([] : (List (Int × Int))) : (List (Int × Int)))))).bind (fun q => F_bind_tokens_c2 q)

set_option maxRecDepth 100000 in
set_option maxHeartbeats 4000000 in
theorem F_bind_tokens_ok (n1 : TNet) (l2 : (List TArc)) (which3 : (List Int)) (env4 : (List Int)) {r : ((List (List (Int × Int))) × Int)} (h : F_bind_tokens n1 l2 which3 env4 = some r) : ACalls Tryz.prog 107 [.agg (row_TNet n1), .sl 4 (l2.map row_TArc), .sl 1 (which3.map row_I), .sl 1 (env4.map row_I)] [] (Gives (.tup [.sl 1 (r.1.map row_LA2I), .i .i64 r.2]) []) := by
  refine ACalls.walk 97 Tryz.func107 rfl Tryz.ntmps107 rfl fun C hC => ?_
  unfold F_bind_tokens at h
  obtain ⟨_, hk7, h⟩ := bindE h
  replace hk7 := chkE hk7
  refine AK.go tab_ok hC [.n 11, .o (.ln n1.Places.length), .o (.rows (List.replicate (n1.Places.length : Int).toNat [.lit (.slice none 0 0)]))] rfl ⟨⟨trivial, mapLen⟩, ⟨hk7, rfl⟩⟩ ?_
  refine AK.denilA (b := 21) [some 2] rfl (mapDen (f := row_LA2I) (x := ([] : (List (Int × Int)))) rfl) ?_
  refine AK.go tab_ok hC [.say 21 (.own 21 (List.replicate (n1.Places.length : Int).toNat (([] : (List (Int × Int))) : (List (Int × Int)))).length), .n 7, .o (.ln which3.length), .n 4, .keep [1, 3, 4, 10, 22, 23, 24] [4, 21]] rfl ⟨⟨trivial, (by simp)⟩, mapLen⟩ ?_
  obtain ⟨l13, hl34, h⟩ := bindE h
  refine AK.loop (body := (fun st => F_bind_tokens_l1 which3 l2 env4 n1 st.1 st.2)) (fun st σ => σ = ⟨[(1, .sl 4 (l2.map row_TArc)), (3, .sl 1 (env4.map row_I)), (4, .loc 4 0 0), (10, .own 21 st.2.length), (22, .sl 1 (which3.map row_I)), (23, .i .i64 (which3.length : Int)), (24, .i .i64 st.1)], [(4, .var (row_TNet n1)), (21, .arr 1 (st.2.map row_LA2I))]⟩) (fun q e σ => e = .exit 0 ∧ σ = ⟨[(10, .own 21 q.length)], [(21, .arr 1 (q.map row_LA2I))]⟩) hl34 rfl ?_ ?_
  · rintro ⟨x9, l10⟩ o σ rfl h
    replace h : F_bind_tokens_l1 which3 l2 env4 n1 x9 l10 = some o := h
    unfold F_bind_tokens_l1 at h
    refine AK.go tab_ok hC [.n 6] rfl trivial ?_
    rcases bifE h with ⟨hc14, h⟩ | ⟨hc14, h⟩
    · obtain ⟨e15, he15, h⟩ := bindE h
      refine AK.go tab_ok hC [.br true, .n 6, .o (.row (row_I e15)), .n 6] rfl ⟨⟨trivial, hc14⟩, (idxM he15)⟩ ?_
      refine AK.meetX (fun σ => σ = ⟨[(1, .sl 4 (l2.map row_TArc)), (3, .sl 1 (env4.map row_I)), (4, .loc 4 0 0), (10, .own 21 l10.length), (12, .i .i64 e15), (22, .sl 1 (which3.map row_I)), (23, .i .i64 (which3.length : Int)), (24, .i .i64 x9), (35, .b ((decide (e15 < 0)) || (decide ((l2.length : Int) ≤ e15))))], [(4, .var (row_TNet n1)), (21, .arr 1 (l10.map row_LA2I))]⟩) ?_ ?_
      · refine AK.go tab_ok hC [.n 4] rfl trivial ?_
        rcases boolOr (decide (e15 < 0)) with hc17 | hc17
        · refine AK.go tab_ok hC [.say 30 (.b true), .n 6, .say 35 (.b ((decide (e15 < 0)) || (decide ((l2.length : Int) ≤ e15)))), .keep [1, 3, 4, 10, 12, 22, 23, 24, 35] [4, 21]] rfl ⟨⟨trivial, (congrArg V.b hc17)⟩, (congrArg V.b (orT hc17 rfl))⟩ ?_
          exact AK.met rfl
        · refine AK.go tab_ok hC [.say 30 (.b false), .n 2, .o (.ln l2.length), .n 3, .say 35 (.b ((decide (e15 < 0)) || (decide ((l2.length : Int) ≤ e15)))), .keep [1, 3, 4, 10, 12, 22, 23, 24, 35] [4, 21]] rfl ⟨⟨⟨trivial, (congrArg V.b hc17)⟩, mapLen⟩, (congrArg V.b (orF hc17 rfl))⟩ ?_
          exact AK.met rfl
      · rintro σ rfl
        refine AK.go tab_ok hC [.n 1] rfl trivial ?_
        rcases bifE h with ⟨hc18, h⟩ | ⟨hc18, h⟩
        · refine AK.go tab_ok hC [.br true, .n 1] rfl ⟨trivial, hc18⟩ ?_
          cases h
        · obtain ⟨e19, he19, h⟩ := bindE h
          obtain ⟨x20, hx20, h⟩ := bindE h
          refine AK.go tab_ok hC [.br false, .n 6, .o (.row (row_TArc e19)), .n 1, .v .no [] (.agg (row_TExpr e19.Expr)), .n 1, .o (.c false [.d, .d] (.tup [.i .i64 x20.1, .i .i64 x20.2])), .n 14] rfl ⟨⟨⟨⟨trivial, hc18⟩, (idxM he19)⟩, rfl⟩, (F_expr_Eval_ok _ _ hx20)⟩ ?_
          rcases bifE h with ⟨hc21, h⟩ | ⟨hc21, h⟩
          · refine AK.go tab_ok hC [.br true, .n 1] rfl ⟨trivial, hc21⟩ ?_
            cases h
          · obtain ⟨e22, he22, h⟩ := bindE h
            refine AK.go tab_ok hC [.br false, .n 6, .o (.row (row_TArc e22)), .n 7] rfl ⟨⟨trivial, hc21⟩, (idxM he22)⟩ ?_
            refine AK.meetX (fun σ => σ = ⟨[(1, .sl 4 (l2.map row_TArc)), (3, .sl 1 (env4.map row_I)), (4, .loc 4 0 0), (10, .own 21 l10.length), (13, .i .i64 x20.1), (15, .i .i64 e22.Place), (22, .sl 1 (which3.map row_I)), (23, .i .i64 (which3.length : Int)), (24, .i .i64 x9), (62, .b ((decide (e22.Place < 0)) || (decide ((n1.Places.length : Int) ≤ e22.Place))))], [(4, .var (row_TNet n1)), (21, .arr 1 (l10.map row_LA2I))]⟩) ?_ ?_
            · refine AK.go tab_ok hC [.n 4] rfl trivial ?_
              rcases boolOr (decide (e22.Place < 0)) with hc24 | hc24
              · refine AK.go tab_ok hC [.say 56 (.b true), .n 7, .say 62 (.b ((decide (e22.Place < 0)) || (decide ((n1.Places.length : Int) ≤ e22.Place)))), .keep [1, 3, 4, 10, 13, 15, 22, 23, 24, 62] [4, 21]] rfl ⟨⟨trivial, (congrArg V.b hc24)⟩, (congrArg V.b (orT hc24 rfl))⟩ ?_
                exact AK.met rfl
              · refine AK.go tab_ok hC [.say 56 (.b false), .n 3, .o (.ln n1.Places.length), .n 3, .say 62 (.b ((decide (e22.Place < 0)) || (decide ((n1.Places.length : Int) ≤ e22.Place)))), .keep [1, 3, 4, 10, 13, 15, 22, 23, 24, 62] [4, 21]] rfl ⟨⟨⟨trivial, (congrArg V.b hc24)⟩, mapLen⟩, (congrArg V.b (orF hc24 rfl))⟩ ?_
                exact AK.met rfl
            · rintro σ rfl
              refine AK.go tab_ok hC [.n 1] rfl trivial ?_
              rcases bifE h with ⟨hc25, h⟩ | ⟨hc25, h⟩
              · refine AK.go tab_ok hC [.br true, .n 1] rfl ⟨trivial, hc25⟩ ?_
                cases h
              · obtain ⟨e26, he26, h⟩ := bindE h
                obtain ⟨x27, hx27, h⟩ := bindE h
                refine AK.go tab_ok hC [.br false, .n 3, .keep [1, 3, 4, 10, 13, 15, 22, 23, 24] [4, 21]] rfl ⟨trivial, hc25⟩ ?_
                refine AK.draw2 tab_ok hC mixed [.a .no none false, .a .no none false, .a .no none false, .a .no none false, .a .no none false, .a (.row (row_TPlace e26)) none false, .a .no none false, .a .no none false, .a .no none false, .a (.c false [.d, .d, .d] (.tup [.i .i64 x27.1, .b x27.2])) none false, .a .no none false, .a .no none false, .a .no none false, .a .no none false, .a .no none false] [] [] [1, 3, 4, 10, 15, 16, 17, 22, 23, 24] [4, 21] rfl rfl rfl ⟨⟨trivial, (idxM he26)⟩, (F_colour_Member_ok _ _ _ hx27)⟩ rfl (by kernel_rfl) rfl rfl rfl ?_
                refine AK.go tab_ok hC [.n 8] rfl trivial ?_
                rcases bifE h with ⟨hc28, h⟩ | ⟨hc28, h⟩
                · refine AK.go tab_ok hC [.br true, .n 1] rfl ⟨trivial, hc28⟩ ?_
                  cases h
                · obtain ⟨e29, he29, h⟩ := bindE h
                  obtain ⟨x30, hx30, h⟩ := bindE h
                  obtain ⟨x31, hx31, h⟩ := bindE h
                  obtain ⟨e32, he32, h⟩ := bindE h
                  refine AK.go tab_ok hC [.br false, .n 3, .keep [1, 3, 4, 10, 15, 16, 22, 23, 24] [4, 21]] rfl ⟨trivial, hc28⟩ ?_
                  refine AK.draw2 tab_ok hC mixed [.a .no none false, .a .no none false, .a .no none false, .a .no none false, .a .no none false, .a (.row (row_LA2I e29)) none false, .a .no none false, .a (.bd []) (some ([], .sl 1 (([x27.1] : List Int).map row_I))) false, .a (.cd false [.d] 2 (x30.map row_A2I) x30.length) none false, .a (.c false [.d, .d] (.tup [.sl 2 (x31.1.map row_A2I), .i .i64 x31.2])) none false, .a .no none true true, .a .no none false, .a .no none true, .a .no none false, .m (.st (row_LA2I e32) ((l10.set e22.Place.toNat x31.1).map row_LA2I)), .a .no none false] [1, 3, 4, 10, 15, 16, 22, 23, 24] [4] [1, 3, 4, 10, 14, 22, 23, 24] [4, 21] rfl rfl rfl ⟨⟨⟨⟨⟨⟨⟨trivial, (idxOw he29 rfl)⟩, (mapGet (idxE he29).2)⟩, rfl⟩, ⟨(F_bag_Of_ok _ hx30), mapLen⟩⟩, (F_bag_Sum_ok _ _ hx31)⟩, (idxOw he32 rfl)⟩, ⟨(mapGet (idxE he32).2), mapSet rfl⟩⟩ rfl (by kernel_rfl) rfl rfl rfl ?_
                  refine AK.go tab_ok hC [.n 7] rfl trivial ?_
                  rcases bifE h with ⟨hc33, h⟩ | ⟨hc33, h⟩
                  · refine AK.go tab_ok hC [.br true, .n 1] rfl ⟨trivial, hc33⟩ ?_
                    cases h
                  · refine AK.go tab_ok hC [.br false, .n 7, .say 10 (.own 21 (l10.set e22.Place.toNat x31.1).length), .keep [1, 3, 4, 10, 22, 23, 24] [4, 21]] rfl ⟨⟨trivial, hc33⟩, (congrArg (fun n => V.own 21 n) (by simp))⟩ ?_
                    obtain rfl := Option.some.inj h
                    exact rndN rfl rfl
    · refine AK.go tab_ok hC [.br false, .n 2, .keep [10] [21]] rfl ⟨trivial, hc14⟩ ?_
      obtain rfl := Option.some.inj h
      exact rndX rfl (And.intro rfl rfl)
  · replace h : F_bind_tokens_c2 l13 = some r := h
    unfold F_bind_tokens_c2 at h
    rintro e σ ⟨rfl, rfl⟩
    refine AK.go tab_ok hC [.n 10, .frz 21 (l13.map row_LA2I) [8] [], .keep [8, 9] []] rfl ⟨trivial, ⟨trivial, (frzL mapLen)⟩⟩ ?_
    obtain rfl := Option.some.inj h
    refine AK.done ?_
    exact Exists.intro [_, _] (And.intro (And.intro rfl (And.intro rfl trivial)) (gives trivial))

-- 98 (baldric/bind.binder).gives
noncomputable def F_bind_binder_gives (b1 : Tbind_binder) (outs2 : (List Int)) : Option Int :=
  (F_bind_tokens b1.net b1.task.Outs outs2 b1.env).bind fun x4 =>
  some x4.2

set_option maxRecDepth 100000 in
set_option maxHeartbeats 4000000 in
theorem F_bind_binder_gives_ok (b1 : Tbind_binder) (outs2 : (List Int)) {r : Int} (h : F_bind_binder_gives b1 outs2 = some r) : ACalls Tryz.prog 98 [.agg (row_Tbind_binder b1), .sl 1 (outs2.map row_I)] [] (Gives (.i .i64 r) []) := by
  refine ACalls.walk 20 Tryz.func98 rfl Tryz.ntmps98 rfl fun C hC => ?_
  unfold F_bind_binder_gives at h
  obtain ⟨x4, hx4, h⟩ := bindE h
  refine AK.go tab_ok hC [.n 9, .v .no [] (.agg (row_TNet b1.net)), .n 6, .o (.c false [.d, .d, .d, .d] (.tup [.sl 1 (x4.1.map row_LA2I), .i .i64 x4.2])), .n 14, .keep [4] []] rfl ⟨⟨trivial, rfl⟩, (F_bind_tokens_ok _ _ _ _ hx4)⟩ ?_
  obtain rfl := Option.some.inj h
  refine AK.done ?_
  exact Exists.intro [_] (And.intro (And.intro rfl trivial) (gives trivial))

-- 97 baldric/bind.Modes$1
noncomputable def F_bind_Modes_1 (row1 : (List Int)) (v2 : Tbind_binder) : Option Bool :=
  (F_bind_binder_gives v2 row1).bind fun x4 =>
  some (x4 != 0)

set_option maxRecDepth 100000 in
set_option maxHeartbeats 4000000 in
theorem F_bind_Modes_1_ok (row1 : (List Int)) (v2 : Tbind_binder) {r : Bool} (h : F_bind_Modes_1 row1 v2 = some r) : ACalls Tryz.prog 97 [.sl 1 (row1.map row_I), .loc 200000 0 0] [(200000, .var (row_Tbind_binder v2))] (Gives (.b r) [(200000, .var (row_Tbind_binder v2))]) := by
  refine ACalls.walk 8 Tryz.func97 rfl Tryz.ntmps97 rfl fun C hC => ?_
  unfold F_bind_Modes_1 at h
  obtain ⟨x4, hx4, h⟩ := bindE h
  refine AK.go tab_ok hC [.n 7, .v .no [] (.agg (row_Tbind_binder v2)), .n 1, .o (.c false [.d, .d] (.i .i64 x4)), .n 5, .keep [3] [200000]] rfl ⟨⟨trivial, rfl⟩, (F_bind_binder_gives_ok _ _ hx4)⟩ ?_
  obtain rfl := Option.some.inj h
  refine AK.done ?_
  exact Exists.intro [_] (And.intro (And.intro rfl trivial) (gives ⟨rfl, trivial⟩))

-- 113 slices.IndexFunc[[][]int,[]int]
-- 113 slices.IndexFunc[[][]int,[]int]
noncomputable def F_slices_IndexFunc_int_int_v2_l1 (l1 : (List (List Int))) (v2 : Tbind_binder) (x5 : Int) : Option (Int ⊕ (Int ⊕ Unit)) :=
  bif (decide (x5 < (l1.length : Int))) then
  (idx l1 x5).bind fun e9 =>
  (F_bind_Modes_1 e9 v2).bind fun x10 =>
  bif x10 then
  some (.inr (.inl x5))
  else
  some (.inl (w64 (x5 + 1)))
  else
  some (.inr (.inr ()))

noncomputable def F_slices_IndexFunc_int_int_v2_c2 (x7 : Int) : Option Int :=
  some x7

noncomputable def F_slices_IndexFunc_int_int_v2_c3 : Option Int :=
  some (-1)

noncomputable def F_slices_IndexFunc_int_int_v2 (l1 : (List (List Int))) (v2 : Tbind_binder) : Option Int :=
  (loopM (fun st => F_slices_IndexFunc_int_int_v2_l1 l1 v2 st) 0).bind (Sum.elim (fun q => F_slices_IndexFunc_int_int_v2_c2 q) (fun q => F_slices_IndexFunc_int_int_v2_c3))

set_option maxRecDepth 100000 in
set_option maxHeartbeats 4000000 in
theorem F_slices_IndexFunc_int_int_v2_ok (l1 : (List (List Int))) (v2 : Tbind_binder) {r : Int} (h : F_slices_IndexFunc_int_int_v2 l1 v2 = some r) : ACalls Tryz.prog 113 [.own 200000 l1.length, .clo (.func 97) [] [.loc 200001 0 0]] [(200000, .arr 1 (l1.map row_LI)), (200001, .var (row_Tbind_binder v2))] (Gives (.i .i64 r) [(200000, .arr 1 (l1.map row_LI)), (200001, .var (row_Tbind_binder v2))]) := by
  refine ACalls.walk 19 Tryz.func113 rfl Tryz.ntmps113 rfl fun C hC => ?_
  unfold F_slices_IndexFunc_int_int_v2 at h
  refine AK.go tab_ok hC [.n 14, .keep [0, 1, 7, 8] [200000, 200001]] rfl trivial ?_
  obtain ⟨o12, hl12, h⟩ := bindE h
  refine AK.loop (body := (fun st => F_slices_IndexFunc_int_int_v2_l1 l1 v2 st)) (fun st σ => σ = ⟨[(0, .own 200000 l1.length), (1, .clo (.func 97) [] [.loc 200001 0 0]), (7, .i .i64 (l1.length : Int)), (8, .i .i64 st)], [(200000, .arr 1 (l1.map row_LI)), (200001, .var (row_Tbind_binder v2))]⟩) (Sum.elim (fun q e σ => e = .ret ∧ σ = ⟨[(4, .i .i64 q)], [(200000, .arr 1 (l1.map row_LI)), (200001, .var (row_Tbind_binder v2))]⟩) (fun q e σ => e = .exit 0 ∧ σ = ⟨[], [(200000, .arr 1 (l1.map row_LI)), (200001, .var (row_Tbind_binder v2))]⟩)) hl12 rfl ?_ ?_
  · rintro x5 o σ rfl h
    replace h : F_slices_IndexFunc_int_int_v2_l1 l1 v2 x5 = some o := h
    unfold F_slices_IndexFunc_int_int_v2_l1 at h
    refine AK.go tab_ok hC [.n 6] rfl trivial ?_
    rcases bifE h with ⟨hc8, h⟩ | ⟨hc8, h⟩
    · obtain ⟨e9, he9, h⟩ := bindE h
      obtain ⟨x10, hx10, h⟩ := bindE h
      refine AK.go tab_ok hC [.br true, .n 16, .o (.row (row_LI e9)), .cm (.clo) [(200000, 200001)] [(200001, 200000)] [] [.d, .d] [(200000, .var (row_Tbind_binder v2))] (.b x10), .n 2] rfl ⟨⟨⟨⟨trivial, hc8⟩, (idxOw he9 rfl)⟩, (mapGet (idxE he9).2)⟩, (F_bind_Modes_1_ok _ _ hx10)⟩ ?_
      rcases bifE h with ⟨hc11, h⟩ | ⟨hc11, h⟩
      · refine AK.go tab_ok hC [.br true, .n 9, .keep [4] [200000, 200001]] rfl ⟨trivial, hc11⟩ ?_
        obtain rfl := Option.some.inj h
        exact rndR rfl (And.intro rfl rfl)
      · refine AK.go tab_ok hC [.br false, .n 7, .keep [0, 1, 7, 8] [200000, 200001]] rfl ⟨trivial, hc11⟩ ?_
        obtain rfl := Option.some.inj h
        exact rndN rfl rfl
    · refine AK.go tab_ok hC [.br false, .n 2, .keep [] [200000, 200001]] rfl ⟨trivial, hc8⟩ ?_
      obtain rfl := Option.some.inj h
      exact rndX rfl (And.intro rfl rfl)
  · rcases o12 with (x7 | _)
    · replace h : F_slices_IndexFunc_int_int_v2_c2 x7 = some r := h
      unfold F_slices_IndexFunc_int_int_v2_c2 at h
      rintro e σ ⟨rfl, rfl⟩
      refine AK.go tab_ok hC [.n 2, .keep [4] [200000, 200001]] rfl trivial ?_
      obtain rfl := Option.some.inj h
      refine AK.done ?_
      exact Exists.intro [_] (And.intro (And.intro rfl trivial) (gives ⟨rfl, rfl, trivial⟩))
    · replace h : F_slices_IndexFunc_int_int_v2_c3 = some r := h
      unfold F_slices_IndexFunc_int_int_v2_c3 at h
      rintro e σ ⟨rfl, rfl⟩
      refine AK.go tab_ok hC [.n 8, .keep [4] [200000, 200001]] rfl trivial ?_
      obtain rfl := Option.some.inj h
      refine AK.done ?_
      exact Exists.intro [_] (And.intro (And.intro rfl trivial) (gives ⟨rfl, rfl, trivial⟩))

-- 95 slices.DeleteFunc[[][]int,[]int]
noncomputable def F_slices_DeleteFunc_int_int_v2_k1 (j10 : Int) (i18 : Int) (l19 : (List (List Int))) : Option ((Int × Int × (List (List Int))) ⊕ (Int × (List (List Int)))) :=
  some (.inl (i18, (w64 (j10 + 1)), l19))

noncomputable def F_slices_DeleteFunc_int_int_v2_l2 (v2 : Tbind_binder) (i9 : Int) (j10 : Int) (l11 : (List (List Int))) : Option ((Int × Int × (List (List Int))) ⊕ (Int × (List (List Int)))) :=
  bif (decide (j10 < (l11.length : Int))) then
  (idx l11 j10).bind fun e20 =>
  (F_bind_Modes_1 e20 v2).bind fun x21 =>
  bif (!x21) then
  (idx l11 i9).bind fun e23 =>
  F_slices_DeleteFunc_int_int_v2_k1 j10 (w64 (i9 + 1)) (l11.set i9.toNat e20)
  else
  F_slices_DeleteFunc_int_int_v2_k1 j10 i9 l11
  else
  some (.inr (i9, l11))

noncomputable def F_slices_DeleteFunc_int_int_v2_c3 (i15 : Int) (l16 : (List (List Int))) : Option (List (List Int)) :=
  (chk (decide (0 ≤ i15) && decide (i15.toNat ≤ l16.length))).bind fun _ =>
  (chk (decide (0 ≤ i15) && decide (i15.toNat ≤ (l16.take i15.toNat ++ List.replicate (l16.length - i15.toNat) (([] : (List Int)) : (List Int))).length))).bind fun _ =>
  some ((l16.take i15.toNat ++ List.replicate (l16.length - i15.toNat) (([] : (List Int)) : (List Int))).take i15.toNat)

noncomputable def F_slices_DeleteFunc_int_int_v2 (l1 : (List (List Int))) (v2 : Tbind_binder) : Option (List (List Int)) :=
  (F_slices_IndexFunc_int_int_v2 l1 v2).bind fun x5 =>
  bif (x5 == (-1)) then
  some l1
  else
  (loopM (fun st => F_slices_DeleteFunc_int_int_v2_l2 v2 st.1 st.2.1 st.2.2) (x5, (w64 (x5 + 1)), l1)).bind (fun q => F_slices_DeleteFunc_int_int_v2_c3 q.1 q.2)

set_option maxRecDepth 100000 in
set_option maxHeartbeats 4000000 in
theorem F_slices_DeleteFunc_int_int_v2_ok (l1 : (List (List Int))) (v2 : Tbind_binder) {r : (List (List Int))} (h : F_slices_DeleteFunc_int_int_v2 l1 v2 = some r) : ACalls Tryz.prog 95 [.own 200000 l1.length, .clo (.func 97) [] [.loc 200001 0 0]] [(200000, .arr 1 (l1.map row_LI)), (200001, .var (row_Tbind_binder v2))] (Gives (.own 200000 r.length) [(200000, .arr 1 (r.map row_LI)), (200001, .var (row_Tbind_binder v2))]) := by
  refine ACalls.walk 42 Tryz.func95 rfl Tryz.ntmps95 rfl fun C hC => ?_
  unfold F_slices_DeleteFunc_int_int_v2 at h
  obtain ⟨x5, hx5, h⟩ := bindE h
  refine AK.go tab_ok hC [.n 9, .cm (.fn) [(200000, 200000), (200001, 200001)] [(200000, 200000), (200001, 200001)] [] [.d, .d] [(200000, .arr 1 (l1.map row_LI)), (200001, .var (row_Tbind_binder v2))] (.i .i64 x5), .n 10] rfl ⟨trivial, (F_slices_IndexFunc_int_int_v2_ok _ _ hx5)⟩ ?_
  rcases bifE h with ⟨hc6, h⟩ | ⟨hc6, h⟩
  · refine AK.go tab_ok hC [.br true, .n 8, .keep [4] [200000, 200001]] rfl ⟨trivial, hc6⟩ ?_
    obtain rfl := Option.some.inj h
    refine AK.done ?_
    exact Exists.intro [_] (And.intro (And.intro rfl trivial) (gives ⟨rfl, rfl, trivial⟩))
  · refine AK.go tab_ok hC [.br false, .n 11, .keep [0, 1, 5, 6] [200000, 200001]] rfl ⟨trivial, hc6⟩ ?_
    obtain ⟨o24, hl24, h⟩ := bindE h
    refine AK.loop (body := (fun st => F_slices_DeleteFunc_int_int_v2_l2 v2 st.1 st.2.1 st.2.2)) (fun st σ => σ = ⟨[(0, .own 200000 st.2.2.length), (1, .clo (.func 97) [] [.loc 200001 0 0]), (5, .i .i64 st.1), (6, .i .i64 st.2.1)], [(200000, .arr 1 (st.2.2.map row_LI)), (200001, .var (row_Tbind_binder v2))]⟩) (fun q e σ => e = .exit 0 ∧ σ = ⟨[(0, .own 200000 q.2.length), (5, .i .i64 q.1)], [(200000, .arr 1 (q.2.map row_LI)), (200001, .var (row_Tbind_binder v2))]⟩) hl24 rfl ?_ ?_
    · rintro ⟨i9, j10, l11⟩ o σ rfl h
      replace h : F_slices_DeleteFunc_int_int_v2_l2 v2 i9 j10 l11 = some o := h
      unfold F_slices_DeleteFunc_int_int_v2_l2 at h
      refine AK.go tab_ok hC [.n 9] rfl trivial ?_
      rcases bifE h with ⟨hc17, h⟩ | ⟨hc17, h⟩
      · refine AK.go tab_ok hC [.br true, .n 2] rfl ⟨trivial, hc17⟩ ?_
        refine AK.meet (fun σ => ∃ i18 : Int, ∃ l19 : (List (List Int)), σ = ⟨[(0, .own 200000 l19.length), (1, .clo (.func 97) [] [.loc 200001 0 0]), (5, .i .i64 i18), (6, .i .i64 j10)], [(200000, .arr 1 (l19.map row_LI)), (200001, .var (row_Tbind_binder v2))]⟩ ∧ F_slices_DeleteFunc_int_int_v2_k1 j10 i18 l19 = some o) ?_ ?_
        · obtain ⟨e20, he20, h⟩ := bindE h
          obtain ⟨x21, hx21, h⟩ := bindE h
          refine AK.go tab_ok hC [.n 6, .o (.row (row_LI e20)), .n 7, .cm (.clo) [(200000, 200001)] [(200001, 200000)] [] [.d, .d] [(200000, .var (row_Tbind_binder v2))] (.b x21), .n 3] rfl ⟨⟨⟨trivial, (idxOw he20 rfl)⟩, (mapGet (idxE he20).2)⟩, (F_bind_Modes_1_ok _ _ hx21)⟩ ?_
          rcases bifE h with ⟨hc22, h⟩ | ⟨hc22, h⟩
          · obtain ⟨e23, he23, h⟩ := bindE h
            refine AK.go tab_ok hC [.br true, .n 6, .st (row_LI e23) ((l11.set i9.toNat e20).map row_LI), .n 8, .say 0 (.own 200000 (l11.set i9.toNat e20).length), .keep [0, 1, 5, 6] [200000, 200001]] rfl ⟨⟨⟨⟨trivial, hc22⟩, (idxOw he23 rfl)⟩, ⟨(mapGet (idxE he23).2), mapSet rfl⟩⟩, (congrArg (fun n => V.own 200000 n) (by simp))⟩ ?_
            exact AK.met (Exists.intro _ (Exists.intro _ (And.intro rfl h)))
          · refine AK.go tab_ok hC [.br false, .n 2, .keep [0, 1, 5, 6] [200000, 200001]] rfl ⟨trivial, hc22⟩ ?_
            exact AK.met (Exists.intro _ (Exists.intro _ (And.intro rfl h)))
        · rintro σ ⟨i18, l19, rfl, h⟩
          unfold F_slices_DeleteFunc_int_int_v2_k1 at h
          refine AK.go tab_ok hC [.n 5, .keep [0, 1, 5, 6] [200000, 200001]] rfl trivial ?_
          obtain rfl := Option.some.inj h
          exact rndN rfl rfl
      · refine AK.go tab_ok hC [.br false, .n 2, .keep [0, 5] [200000, 200001]] rfl ⟨trivial, hc17⟩ ?_
        obtain rfl := Option.some.inj h
        exact rndX rfl (And.intro rfl rfl)
    · obtain ⟨i15, l16⟩ := o24
      replace h : F_slices_DeleteFunc_int_int_v2_c3 i15 l16 = some r := h
      unfold F_slices_DeleteFunc_int_int_v2_c3 at h
      rintro e σ ⟨rfl, rfl⟩
      refine AK.go tab_ok hC [.n 6] rfl trivial ?_
      obtain ⟨_, hk25, h⟩ := bindE h
      replace hk25 := chkE hk25
      refine AK.clearTail (b := 200000) (l := i15.toNat) (n := l16.length) rfl rfl rfl rfl rfl rfl (hC ▸ rfl) rfl rfl mapLen (tab_ok.es rfl) zv_31 rfl rfl rfl (Bnd.val rfl (of_decide_eq_true (and2_0 hk25)) rfl) (of_decide_eq_true (and2_1 hk25)) rfl ?_
      refine AK.denilA (b := 200000) [some 1] rfl (clrDen (f := row_LI) (x := (([] : (List Int)) : (List Int))) (fun _ => rfl) rfl) ?_
      obtain ⟨_, hk26, h⟩ := bindE h
      replace hk26 := chkE hk26
      refine AK.go tab_ok hC [.say 0 (.own 200000 (l16.take i15.toNat ++ List.replicate (l16.length - i15.toNat) (([] : (List Int)) : (List Int))).length), .say 36 (.own 200000 (l16.take i15.toNat ++ List.replicate (l16.length - i15.toNat) (([] : (List Int)) : (List Int))).length), .n 6] rfl ⟨⟨trivial, (clrLen (of_decide_eq_true (and2_1 hk25)))⟩, (clrLen (of_decide_eq_true (and2_1 hk25)))⟩ ?_
      have hl27 : i15.toNat = ((l16.take i15.toNat ++ List.replicate (l16.length - i15.toNat) (([] : (List Int)) : (List Int))).take i15.toNat).length := by rw [List.length_take, Nat.min_eq_left (of_decide_eq_true (and2_1 hk26))]
      refine AK.go tab_ok hC [.x (fun σ => (σ.set 200000 (.arr 1 (((l16.take i15.toNat ++ List.replicate (l16.length - i15.toNat) (([] : (List Int)) : (List Int))).take i15.toNat).map row_LI))).put 41 (.own 200000 i15.toNat)), .say 41 (.own 200000 ((l16.take i15.toNat ++ List.replicate (l16.length - i15.toNat) (([] : (List Int)) : (List Int))).take i15.toNat).length), .n 4, .keep [4] [200000, 200001]] rfl ⟨⟨trivial, (Stp.sliceO rfl rfl (hC ▸ rfl) rfl rfl (tab_ok.es rfl) Bnd.no (Bnd.val rfl (of_decide_eq_true (and2_0 hk26)) rfl) (of_decide_eq_true (and2_1 hk26)) (by simp))⟩, (sayLen (of_decide_eq_true (and2_1 hk26)))⟩ ?_
      obtain rfl := Option.some.inj h
      refine AK.done ?_
      exact Exists.intro [_] (And.intro (And.intro rfl trivial) (gives ⟨rfl, rfl, trivial⟩))

-- 108 (baldric/bag.counts).within
noncomputable def F_bag_counts_within_m1 (m2 : (List (Int × Int))) (k7 : Int) (v8 : Int) : Option (Unit ⊕ Unit) :=
  bif (decide (((mget m2 k7).getD 0) < v8)) then
  some (.inr ())
  else
  some (.inl ())

noncomputable def F_bag_counts_within_c2 : Option Bool :=
  some true

noncomputable def F_bag_counts_within_c3 : Option Bool :=
  some false

noncomputable def F_bag_counts_within (m1 : (List (Int × Int))) (m2 : (List (Int × Int))) : Option Bool :=
  (rangeM (fun st p => F_bag_counts_within_m1 m2 p.1 p.2) () m1).bind (Sum.elim (fun q => F_bag_counts_within_c2) (fun q => F_bag_counts_within_c3))

set_option maxRecDepth 100000 in
set_option maxHeartbeats 4000000 in
theorem F_bag_counts_within_ok (m1 : (List (Int × Int))) (m2 : (List (Int × Int))) {r : Bool} (h : F_bag_counts_within m1 m2 = some r) : ACalls Tryz.prog 108 [.map 200000, .map 200001] [(200000, .map (mapV (V.i .i64) (V.i .i64) m1)), (200001, .map (mapV (V.i .i64) (V.i .i64) m2))] (Gives (.b r) [(200000, .map (mapV (V.i .i64) (V.i .i64) m1)), (200001, .map (mapV (V.i .i64) (V.i .i64) m2))]) := by
  refine ACalls.walk 19 Tryz.func108 rfl Tryz.ntmps108 rfl fun C hC => ?_
  unfold F_bag_counts_within at h
  refine AK.go tab_ok hC [.n 9] rfl trivial ?_
  refine AK.openMap (b := 200000) ky_3 rfl fun bm5 cl5 L5 hbn5 hpm5 => ?_
  refine AK.go tab_ok hC [.x (fun σ => (σ.set 8 (.itr bm5 cl5 #[] none)).put 8 (.loc 8 0 0)), .n 3, .keep [1, 8] [8, 200000, 200001]] rfl ⟨trivial, (Stp.range (b := 200000) rfl rfl (hC ▸ rfl) rfl rfl mt_117 rfl)⟩ ?_
  obtain ⟨o10, hl10, h⟩ := bindE h
  refine AK.range (body := (fun st p => F_bag_counts_within_m1 m2 p.1 p.2)) (fun st seen σ => ∃ cur : Option MapEntry, σ = ⟨[(1, .map 200001), (8, .loc 8 0 0)], [(8, .itr bm5 cl5 seen cur), (200000, .mapX bm5 cl5 (typV (V.i .i64) (V.i .i64) L5) (mapV (V.i .i64) (V.i .i64) m1)), (200001, .map (mapV (V.i .i64) (V.i .i64) m2))]⟩) (fun q e σ => e = .ret ∧ σ = ⟨[(4, .b false)], [(200000, .mapX bm5 cl5 (typV (V.i .i64) (V.i .i64) L5) (mapV (V.i .i64) (V.i .i64) m1)), (200001, .map (mapV (V.i .i64) (V.i .i64) m2))]⟩) (fun st e σ => e = .exit 0 ∧ σ = ⟨[], [(200000, .mapX bm5 cl5 (typV (V.i .i64) (V.i .i64) L5) (mapV (V.i .i64) (V.i .i64) m1)), (200001, .map (mapV (V.i .i64) (V.i .i64) m2))]⟩) hbn5 hpm5 hl10 (Exists.intro _ rfl) ?_ ?_
  · rintro _ seen σ ⟨cur, rfl⟩ hex
    refine AK.go tab_ok hC [.n 2] rfl trivial ?_
    refine AK.nextT (b := 8) (m := 200000) rfl rfl rfl (hC ▸ rfl) rfl rfl rfl rfl ?_ ?_
    · intro hleft
      refine AK.go tab_ok hC [.n 7, .keep [] [200000, 200001]] rfl trivial ?_
      exact AK.done (Or.inl (And.intro hleft (And.intro (fun h => (by cases h)) (And.intro rfl rfl))))
    · intro xk7 k7 v8 hq6
      obtain ⟨o, h⟩ := hex _ hq6
      have ho := h
      replace h : F_bag_counts_within_m1 m2 k7 v8 = some o := h
      unfold F_bag_counts_within_m1 at h
      refine AK.go tab_ok hC [.n 10, .x (fun σ => σ.put 11 (.tup [.i .i64 k7, .i .i64 v8])), .n 11, .o (.any (.i .i64 ((mget m2 k7).getD 0)) none), .n 3] rfl ⟨⟨trivial, (Stp.entryT (b := 8) (m := 200000) rfl rfl (hC ▸ rfl) rfl hq6 rfl rfl)⟩, (fun σ h1 h2 _ => Stp.lookup (e := (V.i .i64)) (f := (V.i .i64)) (l := m2) (k := k7) (z := 0) rfl rfl (hC ▸ rfl) (h1 _ _ rfl) (h2 _ _ rfl) (h1 _ _ rfl) mt_117 ky_3 zi_3 rfl)⟩ ?_
      rcases bifE h with ⟨hc9, h⟩ | ⟨hc9, h⟩
      · refine AK.go tab_ok hC [.br true, .n 7, .keep [4] [200000, 200001]] rfl ⟨trivial, hc9⟩ ?_
        obtain rfl := Option.some.inj h
        exact AK.done (Or.inr (Exists.intro _ (And.intro hq6 (Or.inr (Exists.intro _ (And.intro ho (And.intro (fun h => (by cases h)) (And.intro rfl rfl))))))))
      · refine AK.go tab_ok hC [.br false, .n 2, .keep [1, 8] [8, 200000, 200001]] rfl ⟨trivial, hc9⟩ ?_
        obtain rfl := Option.some.inj h
        exact AK.done (Or.inr (Exists.intro _ (And.intro hq6 (Or.inl (Exists.intro _ (And.intro ho (And.intro rfl (Exists.intro _ rfl))))))))
  · rcases o10 with (_ | _)
    · replace h : F_bag_counts_within_c2 = some r := h
      unfold F_bag_counts_within_c2 at h
      rintro e σ ⟨rfl, rfl⟩
      refine AK.go tab_ok hC [.n 8] rfl trivial ?_
      refine AK.closeMap (b := 200000) rfl ?_
      refine AK.go tab_ok hC [.keep [4] [200000, 200001]] rfl trivial ?_
      obtain rfl := Option.some.inj h
      refine AK.done ?_
      exact Exists.intro [_] (And.intro (And.intro rfl trivial) (gives ⟨rfl, rfl, trivial⟩))
    · replace h : F_bag_counts_within_c3 = some r := h
      unfold F_bag_counts_within_c3 at h
      rintro e σ ⟨rfl, rfl⟩
      refine AK.go tab_ok hC [.n 2] rfl trivial ?_
      refine AK.closeMap (b := 200000) rfl ?_
      refine AK.go tab_ok hC [.keep [4] [200000, 200001]] rfl trivial ?_
      obtain rfl := Option.some.inj h
      refine AK.done ?_
      exact Exists.intro [_] (And.intro (And.intro rfl trivial) (gives ⟨rfl, rfl, trivial⟩))

-- 125 baldric/bag.Within
noncomputable def F_bag_Within_g1 (x4 : (Bool × (List (Int × Int)) × (List (Int × Int)))) : Option Bool :=
  bif x4.1 then
  (F_bag_counts_within x4.2.1 x4.2.2).bind fun x8 =>
  some x8
  else
  some false

noncomputable def F_bag_Within_k2 (x5 : Bool) : Option Bool :=
  some x5

noncomputable def F_bag_Within (a1 : (List (Int × Int))) (b2 : (List (Int × Int))) : Option Bool :=
  (F_bag_both a1 b2).bind fun x4 =>
  (F_bag_Within_g1 x4).bind (fun x5 => F_bag_Within_k2 x5)

set_option maxRecDepth 100000 in
set_option maxHeartbeats 4000000 in
theorem F_bag_Within_ok (a1 : (List (Int × Int))) (b2 : (List (Int × Int))) {r : Bool} (h : F_bag_Within a1 b2 = some r) : ACalls Tryz.prog 125 [.sl 2 (a1.map row_A2I), .sl 2 (b2.map row_A2I)] [] (Gives (.b r) []) := by
  refine ACalls.walk 21 Tryz.func125 rfl Tryz.ntmps125 rfl fun C hC => ?_
  unfold F_bag_Within at h
  obtain ⟨x4, hx4, h⟩ := bindE h
  refine AK.go tab_ok hC [.n 9, .cm (.fn) [] [(11, 30004), (50000, 30005)] [] [.d, .d] [(30004, .map (mapV (V.i .i64) (V.i .i64) x4.2.1)), (30005, .map (mapV (V.i .i64) (V.i .i64) x4.2.2))] (.tup [.map 30004, .map 30005, .b x4.1]), .n 10] rfl ⟨trivial, (F_bag_both_ok _ _ hx4)⟩ ?_
  obtain ⟨x5, hv6, h⟩ := bindE h
  replace h : F_bag_Within_k2 x5 = some r := h
  refine AK.meetX (fun σ => σ = ⟨[(4, .b x5)], []⟩) ?_ ?_
  · replace h := hv6
    unfold F_bag_Within_g1 at h
    refine AK.go tab_ok hC [.n 3] rfl trivial ?_
    rcases bifE h with ⟨hc7, h⟩ | ⟨hc7, h⟩
    · obtain ⟨x8, hx8, h⟩ := bindE h
      refine AK.go tab_ok hC [.say 16 (.b true), .n 2, .cm (.fn) [(200000, 11), (200001, 50000)] [(11, 200000), (50000, 200001)] [] [.d, .d] [(200000, .map (mapV (V.i .i64) (V.i .i64) x4.2.1)), (200001, .map (mapV (V.i .i64) (V.i .i64) x4.2.2))] (.b x8), .n 3, .keep [4] []] rfl ⟨⟨trivial, (congrArg V.b hc7)⟩, (F_bag_counts_within_ok _ _ hx8)⟩ ?_
      obtain rfl := Option.some.inj h
      exact AK.met rfl
    · refine AK.go tab_ok hC [.say 16 (.b false), .n 6, .keep [4] []] rfl ⟨trivial, (congrArg V.b hc7)⟩ ?_
      obtain rfl := Option.some.inj h
      exact AK.met rfl
  · rintro σ rfl
    replace h : F_bag_Within_k2 x5 = some r := h
    unfold F_bag_Within_k2 at h
    refine AK.go tab_ok hC [.n 2, .keep [4] []] rfl trivial ?_
    obtain rfl := Option.some.inj h
    refine AK.done ?_
    exact Exists.intro [_] (And.intro (And.intro rfl trivial) (gives trivial))

-- 30 slices.EqualFunc[baldric/api.Marking,baldric/api.Marking,baldric/api.Bag,baldric/api.Bag]
noncomputable def F_slices_EqualFunc_api_Marking_api_Marking_api_Bag_api_Bag_l1 (s1 : (List (List (Int × Int)))) (s2 : (List (List (Int × Int)))) (x6 : Int) : Option (Int ⊕ (Unit ⊕ Unit)) :=
  bif (decide (x6 < (s1.length : Int))) then
  (idx s1 x6).bind fun e9 =>
  (idx s2 x6).bind fun e10 =>
  (F_bag_Within e9 e10).bind fun x11 =>
  bif (!x11) then
  some (.inr (.inl ()))
  else
  some (.inl (w64 (x6 + 1)))
  else
  some (.inr (.inr ()))

noncomputable def F_slices_EqualFunc_api_Marking_api_Marking_api_Bag_api_Bag_c2 : Option Bool :=
  some false

noncomputable def F_slices_EqualFunc_api_Marking_api_Marking_api_Bag_api_Bag_c3 : Option Bool :=
  some true

noncomputable def F_slices_EqualFunc_api_Marking_api_Marking_api_Bag_api_Bag (s1 : (List (List (Int × Int)))) (s2 : (List (List (Int × Int)))) : Option Bool :=
  bif ((s1.length : Int) != (s2.length : Int)) then
  some false
  else
  (loopM (fun st => F_slices_EqualFunc_api_Marking_api_Marking_api_Bag_api_Bag_l1 s1 s2 st) 0).bind (Sum.elim (fun q => F_slices_EqualFunc_api_Marking_api_Marking_api_Bag_api_Bag_c2) (fun q => F_slices_EqualFunc_api_Marking_api_Marking_api_Bag_api_Bag_c3))

set_option maxRecDepth 100000 in
set_option maxHeartbeats 4000000 in
theorem F_slices_EqualFunc_api_Marking_api_Marking_api_Bag_api_Bag_ok (s1 : (List (List (Int × Int)))) (s2 : (List (List (Int × Int)))) {r : Bool} (h : F_slices_EqualFunc_api_Marking_api_Marking_api_Bag_api_Bag s1 s2 = some r) : ACalls Tryz.prog 30 [.sl 1 (s1.map row_LA2I), .sl 1 (s2.map row_LA2I), .clo (.func 125) [] []] [] (Gives (.b r) []) := by
  refine ACalls.walk 32 Tryz.func30 rfl Tryz.ntmps30 rfl fun C hC => ?_
  unfold F_slices_EqualFunc_api_Marking_api_Marking_api_Bag_api_Bag at h
  refine AK.go tab_ok hC [.n 9, .o (.ln s1.length), .n 1, .o (.ln s2.length), .n 3] rfl ⟨⟨trivial, mapLen⟩, mapLen⟩ ?_
  rcases bifE h with ⟨hc5, h⟩ | ⟨hc5, h⟩
  · refine AK.go tab_ok hC [.br true, .n 7, .keep [6] []] rfl ⟨trivial, hc5⟩ ?_
    obtain rfl := Option.some.inj h
    refine AK.done ?_
    exact Exists.intro [_] (And.intro (And.intro rfl trivial) (gives trivial))
  · refine AK.go tab_ok hC [.br false, .n 6, .o (.ln s1.length), .n 4, .keep [1, 2, 15, 16, 17] []] rfl ⟨⟨trivial, hc5⟩, mapLen⟩ ?_
    obtain ⟨o13, hl13, h⟩ := bindE h
    refine AK.loop (body := (fun st => F_slices_EqualFunc_api_Marking_api_Marking_api_Bag_api_Bag_l1 s1 s2 st)) (fun st σ => σ = ⟨[(1, .sl 1 (s2.map row_LA2I)), (2, .clo (.func 125) [] []), (15, .sl 1 (s1.map row_LA2I)), (16, .i .i64 (s1.length : Int)), (17, .i .i64 st)], []⟩) (Sum.elim (fun q e σ => e = .ret ∧ σ = ⟨[(6, .b false)], []⟩) (fun q e σ => e = .exit 0 ∧ σ = ⟨[], []⟩)) hl13 rfl ?_ ?_
    · rintro x6 o σ rfl h
      replace h : F_slices_EqualFunc_api_Marking_api_Marking_api_Bag_api_Bag_l1 s1 s2 x6 = some o := h
      unfold F_slices_EqualFunc_api_Marking_api_Marking_api_Bag_api_Bag_l1 at h
      refine AK.go tab_ok hC [.n 6] rfl trivial ?_
      rcases bifE h with ⟨hc8, h⟩ | ⟨hc8, h⟩
      · obtain ⟨e9, he9, h⟩ := bindE h
        obtain ⟨e10, he10, h⟩ := bindE h
        obtain ⟨x11, hx11, h⟩ := bindE h
        refine AK.go tab_ok hC [.br true, .n 7, .o (.row (row_LA2I e9)), .n 9, .o (.row (row_LA2I e10)), .n 9, .o (.c false [.d, .d] (.b x11)), .n 3] rfl ⟨⟨⟨⟨trivial, hc8⟩, (idxM he9)⟩, (idxM he10)⟩, (F_bag_Within_ok _ _ hx11)⟩ ?_
        rcases bifE h with ⟨hc12, h⟩ | ⟨hc12, h⟩
        · refine AK.go tab_ok hC [.br true, .n 8, .keep [6] []] rfl ⟨trivial, hc12⟩ ?_
          obtain rfl := Option.some.inj h
          exact rndR rfl (And.intro rfl rfl)
        · refine AK.go tab_ok hC [.br false, .n 7, .keep [1, 2, 15, 16, 17] []] rfl ⟨trivial, hc12⟩ ?_
          obtain rfl := Option.some.inj h
          exact rndN rfl rfl
      · refine AK.go tab_ok hC [.br false, .n 2, .keep [] []] rfl ⟨trivial, hc8⟩ ?_
        obtain rfl := Option.some.inj h
        exact rndX rfl (And.intro rfl rfl)
    · rcases o13 with (_ | _)
      · replace h : F_slices_EqualFunc_api_Marking_api_Marking_api_Bag_api_Bag_c2 = some r := h
        unfold F_slices_EqualFunc_api_Marking_api_Marking_api_Bag_api_Bag_c2 at h
        rintro e σ ⟨rfl, rfl⟩
        refine AK.go tab_ok hC [.n 2, .keep [6] []] rfl trivial ?_
        obtain rfl := Option.some.inj h
        refine AK.done ?_
        exact Exists.intro [_] (And.intro (And.intro rfl trivial) (gives trivial))
      · replace h : F_slices_EqualFunc_api_Marking_api_Marking_api_Bag_api_Bag_c3 = some r := h
        unfold F_slices_EqualFunc_api_Marking_api_Marking_api_Bag_api_Bag_c3 at h
        rintro e σ ⟨rfl, rfl⟩
        refine AK.go tab_ok hC [.n 8, .keep [6] []] rfl trivial ?_
        obtain rfl := Option.some.inj h
        refine AK.done ?_
        exact Exists.intro [_] (And.intro (And.intro rfl trivial) (gives trivial))

-- 114 baldric/bind.within
noncomputable def F_bind_within (need1 : (List (List (Int × Int)))) (m2 : (List (List (Int × Int)))) : Option Bool :=
  (F_slices_EqualFunc_api_Marking_api_Marking_api_Bag_api_Bag need1 m2).bind fun x4 =>
  some x4

set_option maxRecDepth 100000 in
set_option maxHeartbeats 4000000 in
theorem F_bind_within_ok (need1 : (List (List (Int × Int)))) (m2 : (List (List (Int × Int)))) {r : Bool} (h : F_bind_within need1 m2 = some r) : ACalls Tryz.prog 114 [.sl 1 (need1.map row_LA2I), .sl 1 (m2.map row_LA2I)] [] (Gives (.b r) []) := by
  refine ACalls.walk 8 Tryz.func114 rfl Tryz.ntmps114 rfl fun C hC => ?_
  unfold F_bind_within at h
  obtain ⟨x4, hx4, h⟩ := bindE h
  refine AK.go tab_ok hC [.n 9, .cm (.fn) [] [] [] [.d, .d, .d] [] (.b x4), .n 4, .keep [4] []] rfl ⟨trivial, (F_slices_EqualFunc_api_Marking_api_Marking_api_Bag_api_Bag_ok _ _ hx4)⟩ ?_
  obtain rfl := Option.some.inj h
  refine AK.done ?_
  exact Exists.intro [_] (And.intro (And.intro rfl trivial) (gives trivial))

-- 99 (baldric/bind.binder).takes
noncomputable def F_bind_binder_takes (b1 : Tbind_binder) (ins2 : (List Int)) : Option Int :=
  (F_bind_tokens b1.net b1.task.Ins ins2 b1.env).bind fun x5 =>
  bif (x5.2 != 0) then
  none
  else
  (F_bind_within x5.1 b1.m).bind fun x7 =>
  bif (!x7) then
  some 10
  else
  bif (b1.task.Join != 3) then
  some 0
  else
  none

set_option maxRecDepth 100000 in
set_option maxHeartbeats 4000000 in
theorem F_bind_binder_takes_ok (b1 : Tbind_binder) (ins2 : (List Int)) {r : Int} (h : F_bind_binder_takes b1 ins2 = some r) : ACalls Tryz.prog 99 [.agg (row_Tbind_binder b1), .sl 1 (ins2.map row_I)] [] (Gives (.i .i64 r) []) := by
  refine ACalls.walk 76 Tryz.func99 rfl Tryz.ntmps99 rfl fun C hC => ?_
  unfold F_bind_binder_takes at h
  obtain ⟨x5, hx5, h⟩ := bindE h
  refine AK.go tab_ok hC [.n 9, .v .no [] (.agg (row_TNet b1.net)), .n 6, .o (.c false [.d, .d, .d, .d] (.tup [.sl 1 (x5.1.map row_LA2I), .i .i64 x5.2])), .n 16] rfl ⟨⟨trivial, rfl⟩, (F_bind_tokens_ok _ _ _ _ hx5)⟩ ?_
  rcases bifE h with ⟨hc6, h⟩ | ⟨hc6, h⟩
  · refine AK.go tab_ok hC [.br true, .n 1] rfl ⟨trivial, hc6⟩ ?_
    cases h
  · obtain ⟨x7, hx7, h⟩ := bindE h
    refine AK.go tab_ok hC [.br false, .n 5, .o (.c false [.d, .d] (.b x7)), .n 4] rfl ⟨⟨trivial, hc6⟩, (F_bind_within_ok _ _ hx7)⟩ ?_
    rcases bifE h with ⟨hc8, h⟩ | ⟨hc8, h⟩
    · refine AK.go tab_ok hC [.br true, .n 8, .keep [4] []] rfl ⟨trivial, hc8⟩ ?_
      obtain rfl := Option.some.inj h
      refine AK.done ?_
      exact Exists.intro [_] (And.intro (And.intro rfl trivial) (gives trivial))
    · refine AK.go tab_ok hC [.br false, .n 9] rfl ⟨trivial, hc8⟩ ?_
      rcases bifE h with ⟨hc9, h⟩ | ⟨hc9, h⟩
      · refine AK.go tab_ok hC [.br true, .n 8, .keep [4] []] rfl ⟨trivial, hc9⟩ ?_
        obtain rfl := Option.some.inj h
        refine AK.done ?_
        exact Exists.intro [_] (And.intro (And.intro rfl trivial) (gives trivial))
      · refine AK.go tab_ok hC [.br false, .n 5] rfl ⟨trivial, hc9⟩ ?_
        cases h


end Go.Proofs
