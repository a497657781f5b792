/- What functions of the program do, as functions over plain data, and the walks that show it: printed by a program. -/
import Derived.Test.YtpijolohkdchcaaGreatDoorXVm5
import Derived.Test.YtpijolohkdchcaaGreatDoorProg
set_option linter.unusedVariables false
set_option linter.unusedSimpArgs false
set_option linter.unusedSectionVars false
set_option linter.deprecated false
set_option maxRecDepth 100000
set_option maxHeartbeats 4000000
noncomputable section
namespace Go.Proofs
open Go Go.RowKit Go.Vm
structure Qy where
 Name : ByteArray
 Kind : Int
 Lo : Int
 Hi : Int
 Names : (List ByteArray)
 First : Int
 Then : Int
structure Qz where
 Name : ByteArray
 Colour : Int
 First : (List (Int × Int))
structure TVar where
 Name : ByteArray
 Colour : Int
structure Qf where
 Kind : Int
 Num : Int
 Kids : (List Qf)
structure TArc where
 Place : Int
 Expr : Qf
structure Qr where
 Name : ByteArray
 Vars : (List TVar)
 Guard : Qf
 Join : Int
 Split : Int
 Ins : (List TArc)
 Outs : (List TArc)
 Cancel : (List Int)
 After : Int
 Many : (Int × Int × Int)
structure TNet where
 Colours : (List Qy)
 Places : (List Qz)
 Tasks : (List Qr)
 From : Int
 To : Int
structure Qk where
 Task : Int
 Vars : (List Int)
 Ins : (List Int)
 Outs : (List Int)
structure QA where
 net : TNet
 m : (List (List (Int × Int)))
 task : Qr
 env : (List Int)
structure Qaa where
 all : (List Qy)
 sizes : (List Int)
 k : Int
structure Qdv where
 Kind : Int
 At : Int
def Qdb (x : ByteArray) : List V := [.s x]
def Qe (x : Int) : List V := [.i .i64 x]
theorem Qtt (l : List Int) : ∀ r ∈ l.map Qe, ∀ v ∈ r, v.sca = true := Quo (fun _ => rfl) l
def QuM (x : (List ByteArray)) : List V := [.sl 1 (x.map Qdb)]
def Qu (x : Qy) : List V := [.s x.Name, .i .i64 x.Kind, .i .i64 x.Lo, .i .i64 x.Hi, .sl 1 (x.Names.map Qdb), .i .i64 x.First, .i .i64 x.Then]
def QrZ (x : (List Qy)) : List V := [.sl 7 (x.map Qu)]
def Qt (x : (Int × Int)) : List V := [.i .i64 x.1, .i .i64 x.2]
def Qh (x : (List (Int × Int))) : List V := [.sl 2 (x.map Qt)]
def Qs (x : Qz) : List V := [.s x.Name, .i .i64 x.Colour, .sl 2 (x.First.map Qt)]
def Qsl (x : (List Qz)) : List V := [.sl 3 (x.map Qs)]
def QB (x : TVar) : List V := [.s x.Name, .i .i64 x.Colour]
def Qbn (x : (List TVar)) : List V := [.sl 2 (x.map QB)]
mutual
def Qm6 : Qf → List V
 | ⟨x0, x1, x2⟩ => [.i .i64 x0, .i .i64 x1, .sl 3 (QaF x2)]
def QaF : List Qf → List (List V)
 | [] => []
 | e :: es => Qm6 e :: QaF es
end
def Ql (x : Qf) : List V := [.i .i64 x.Kind, .i .i64 x.Num, .sl 3 (QaF x.Kids)]
theorem Qrh : ∀ x : Qf, Qm6 x = Ql x
 | ⟨x0, x1, x2⟩ => by rw [Qm6]; rfl
theorem Qh8 : ∀ l : List Qf, QaF l = l.map Ql
 | [] => by rw [QaF]; rfl
 | e :: es => by rw [QaF, Qh8 es, Qrh]; rfl
theorem Qh9 (l : List Qf) : (QaF l).length = l.length := by rw [Qh8, List.length_map]
theorem Qdc {l : List Qf} {j : Int} {x : Qf} (h : idx l j = some x) : 0 ≤ j ∧ (QaF l)[j.toNat]? = some (Ql x) := by rw [Qh8]; exact idxM h
def QN (x : TArc) : List V := [.i .i64 x.Place, .i .i64 x.Expr.Kind, .i .i64 x.Expr.Num, .sl 3 (QaF x.Expr.Kids)]
def Qtu (x : (List TArc)) : List V := [.sl 4 (x.map QN)]
def Qv (x : (List Int)) : List V := [.sl 1 (x.map Qe)]
def QqJ (x : (Int × Int × Int)) : List V := [.i .i64 x.1, .i .i64 x.2.1, .i .i64 x.2.2]
def Qi (x : Qr) : List V := [.s x.Name, .sl 2 (x.Vars.map QB), .i .i64 x.Guard.Kind, .i .i64 x.Guard.Num, .sl 3 (QaF x.Guard.Kids), .i .i64 x.Join, .i .i64 x.Split, .sl 4 (x.Ins.map QN), .sl 4 (x.Outs.map QN), .sl 1 (x.Cancel.map Qe), .i .i64 x.After, .i .i64 x.Many.1, .i .i64 x.Many.2.1, .i .i64 x.Many.2.2]
def QsY (x : (List Qr)) : List V := [.sl 14 (x.map Qi)]
def Qd (x : TNet) : List V := [.sl 7 (x.Colours.map Qu), .sl 3 (x.Places.map Qs), .sl 14 (x.Tasks.map Qi), .i .i64 x.From, .i .i64 x.To]
def Qj (x : Qk) : List V := [.i .i64 x.Task, .sl 1 (x.Vars.map Qe), .sl 1 (x.Ins.map Qe), .sl 1 (x.Outs.map Qe)]
def QS (x : (List (List (Int × Int)))) : List V := [.sl 1 (x.map Qh)]
def Qp (x : QA) : List V := [.sl 7 (x.net.Colours.map Qu), .sl 3 (x.net.Places.map Qs), .sl 14 (x.net.Tasks.map Qi), .i .i64 x.net.From, .i .i64 x.net.To, .sl 1 (x.m.map Qh), .s x.task.Name, .sl 2 (x.task.Vars.map QB), .i .i64 x.task.Guard.Kind, .i .i64 x.task.Guard.Num, .sl 3 (QaF x.task.Guard.Kids), .i .i64 x.task.Join, .i .i64 x.task.Split, .sl 4 (x.task.Ins.map QN), .sl 4 (x.task.Outs.map QN), .sl 1 (x.task.Cancel.map Qe), .i .i64 x.task.After, .i .i64 x.task.Many.1, .i .i64 x.task.Many.2.1, .i .i64 x.task.Many.2.2, .sl 1 (x.env.map Qe)]
def QI (x : Qaa) : List V := [.sl 7 (x.all.map Qu), .sl 1 (x.sizes.map Qe), .i .i64 x.k]
def QF (x : (List (List Int))) : List V := [.sl 1 (x.map Qv)]
def QsZ (x : (List Qk)) : List V := [.sl 4 (x.map Qj)]
def Qci (x : Qdv) : List V := [.i .i64 x.Kind, .i .i64 x.At]
def Qet (fn : Nat) : QfV := rfOf Tryz.f201 0 fn
def Qaq (fn : Nat) : QfV := rfOf Tryz.f88 0 fn
theorem Quh (a0 a1 b0 b1 : Int) : EqT Tryz.prog 40 [.int .i64 a0, .int .i64 a1] [.int .i64 b0, .int .i64 b1] ((a0 == b0) && (a1 == b1)) := by
 refine ⟨by kernel_rfl, fun w => ?_⟩
 have u3 := Tryz.underlying3
 have g3 := Tryz.isAgg3
 have z3 := Tryz.sizeOf3
 show (Op.equalIn (9999 + 1) 40 (.agg #[.int .i64 a0, .int .i64 a1]) (.agg #[.int .i64 b0, .int .i64 b1])).run Tryz.prog w = _
 rw [Op.equalIn]
 simp only [Sem.run_bind, run_underlying Tryz.underlying40, Result.andThen_ok]
 simp only [Std.Legacy.Range.forIn_eq_forIn_range', Std.Legacy.Range.size, Nat.sub_zero, Nat.add_sub_cancel, Nat.div_one, List.range'_succ, List.range'_zero, List.forIn_cons, List.forIn_nil]
 go_simp
 by_cases h0 : a0 = b0 <;> by_cases h1 : a1 = b1 <;> simp [h0, h1]
theorem Qu2 (a0 a1 a2 b0 b1 b2 : Int) : EqT Tryz.prog 53 [.int .i64 a0, .int .i64 a1, .int .i64 a2] [.int .i64 b0, .int .i64 b1, .int .i64 b2] ((a0 == b0) && ((a1 == b1) && (a2 == b2))) := by
 refine ⟨by kernel_rfl, fun w => ?_⟩
 have u3 := Tryz.underlying3
 have g3 := Tryz.isAgg3
 have z3 := Tryz.sizeOf3
 show (Op.equalIn (9999 + 1) 53 (.agg #[.int .i64 a0, .int .i64 a1, .int .i64 a2]) (.agg #[.int .i64 b0, .int .i64 b1, .int .i64 b2])).run Tryz.prog w = _
 rw [Op.equalIn]
 simp only [Sem.run_bind, run_underlying Tryz.underlying53, Result.andThen_ok]
 simp only [Std.Legacy.Range.forIn_eq_forIn_range', Std.Legacy.Range.size, Nat.sub_zero, Nat.add_sub_cancel, Nat.div_one, List.range'_succ, List.range'_zero, List.forIn_cons, List.forIn_nil]
 go_simp
 by_cases h0 : a0 = b0 <;> by_cases h1 : a1 = b1 <;> by_cases h2 : a2 = b2 <;> simp [h0, h1, h2]
theorem Quq : Qn0 Tryz.prog 94 1 = some (1, false, 1) := by kernel_rfl
theorem Qur : Qn0 Tryz.prog 94 2 = some (2, false, 1) := by kernel_rfl
def QtY : Go.Shelf.Ren := ⟨fun | 157 => 238 | 199 => 251 | 229 => 250 | 261 => 258 | 311 => 261 | 312 => 262 | n => n, fun | 0 => 0 | 3 => 3 | 4 => 4 | 5 => 5 | 9 => 9 | 21 => 21 | 31 => 92 | 40 => 238 | 46 => 196 | 49 => 258 | 51 => 219 | 119 => 236 | 141 => 250 | 152 => 246 | 154 => 248 | 193 => 254 | 194 => 255 | 196 => 257 | 198 => 260 | 201 => 263 | 226 => 265 | 227 => 266 | n => n, fun | 0 => 0 | 6 => 1 | n => n⟩
theorem Qtv : Lays.n157 Tryz.prog QtY where
 mixed := by kernel_rfl
 f157 := Tryz.func238.trans (congrArg some (by kernel_rfl))
 f199 := Tryz.func251.trans (congrArg some (by kernel_rfl))
 f229 := Tryz.func250.trans (congrArg some (by kernel_rfl))
 f261 := Tryz.func258.trans (congrArg some (by kernel_rfl))
 f311 := Tryz.func261.trans (congrArg some (by kernel_rfl))
 f312 := Tryz.func262.trans (congrArg some (by kernel_rfl))
 t0 := Tryz.underlying0
 a0 := Tryz.isAgg0
 z0 := Tryz.sizeOf0
 v0 := Tryz.zeroValue0
 t3 := Tryz.underlying3
 a3 := Tryz.isAgg3
 z3 := Tryz.sizeOf3
 v3 := Tryz.zeroValue3
 t4 := Tryz.underlying4
 a4 := Tryz.isAgg4
 z4 := Tryz.sizeOf4
 v4 := Tryz.zeroValue4
 t5 := Tryz.underlying5
 a5 := Tryz.isAgg5
 z5 := Tryz.sizeOf5
 v5 := Tryz.zeroValue5
 t9 := Tryz.underlying9
 a9 := Tryz.isAgg9
 z9 := Tryz.sizeOf9
 v9 := Tryz.zeroValue9
 t21 := Tryz.underlying21
 a21 := Tryz.isAgg21
 z21 := Tryz.sizeOf21
 v21 := Tryz.zeroValue21
 t31 := Tryz.underlying92
 a31 := Tryz.isAgg92
 z31 := Tryz.sizeOf92
 v31 := Tryz.zeroValue92
 t40 := Tryz.underlying238
 a40 := Tryz.isAgg238
 z40 := Tryz.sizeOf238
 v40 := Tryz.zeroValue238
 t46 := Tryz.underlying196
 a46 := Tryz.isAgg196
 z46 := Tryz.sizeOf196
 v46 := Tryz.zeroValue196
 t49 := Tryz.underlying258
 a49 := Tryz.isAgg258
 z49 := Tryz.sizeOf258
 v49 := Tryz.zeroValue258
 t51 := Tryz.underlying219
 a51 := Tryz.isAgg219
 z51 := Tryz.sizeOf219
 v51 := Tryz.zeroValue219
 t119 := Tryz.underlying236
 a119 := Tryz.isAgg236
 z119 := Tryz.sizeOf236
 t141 := Tryz.underlying250
 a141 := Tryz.isAgg250
 z141 := Tryz.sizeOf250
 v141 := Tryz.zeroValue250
 t152 := Tryz.underlying246
 a152 := Tryz.isAgg246
 z152 := Tryz.sizeOf246
 v152 := Tryz.zeroValue246
 t154 := Tryz.underlying248
 a154 := Tryz.isAgg248
 z154 := Tryz.sizeOf248
 v154 := Tryz.zeroValue248
 t193 := Tryz.underlying254
 a193 := Tryz.isAgg254
 z193 := Tryz.sizeOf254
 v193 := Tryz.zeroValue254
 t194 := Tryz.underlying255
 a194 := Tryz.isAgg255
 z194 := Tryz.sizeOf255
 v194 := Tryz.zeroValue255
 t196 := Tryz.underlying257
 a196 := Tryz.isAgg257
 z196 := Tryz.sizeOf257
 v196 := Tryz.zeroValue257
 t198 := Tryz.underlying260
 a198 := Tryz.isAgg260
 z198 := Tryz.sizeOf260
 v198 := Tryz.zeroValue260
 t201 := Tryz.underlying263
 a201 := Tryz.isAgg263
 z201 := Tryz.sizeOf263
 v201 := Tryz.zeroValue263
 t226 := Tryz.underlying265
 a226 := Tryz.isAgg265
 z226 := Tryz.sizeOf265
 v226 := Tryz.zeroValue265
 t227 := Tryz.underlying266
 a227 := Tryz.isAgg266
 z227 := Tryz.sizeOf266
 v227 := Tryz.zeroValue266
 g0 := by kernel_rfl
 g6 := by kernel_rfl
theorem Qn1 : intT Tryz.prog 221 .u64 = true := by kernel_rfl
theorem it_3 : intT Tryz.prog 3 .i64 = true := by kernel_rfl
theorem ky_3 : QfW Tryz.prog 3 (V.i .i64) (Value.int .i64) := QfW.int (by kernel_rfl)
theorem ky_9 : QfW Tryz.prog 9 V.s Value.string := QfW.str (by kernel_rfl)
theorem mixed : Tryz.prog.follows .mixedOrders = true := by kernel_rfl
theorem Qp5 : mapT Tryz.prog 202 = some (9, 4) := by kernel_rfl
theorem QgH : mapT Tryz.prog 79 = some (3, 3) := by kernel_rfl
def QtZ : Go.Shelf.Ren := ⟨fun | 125 => 194 | 128 => 221 | 129 => 222 | 189 => 143 | 215 => 245 | 216 => 218 | 257 => 193 | 294 => 212 | 295 => 213 | 296 => 214 | 297 => 215 | 298 => 216 | 299 => 217 | 300 => 219 | 301 => 220 | 328 => 240 | 329 => 241 | 330 => 242 | 331 => 243 | 332 => 244 | 343 => 252 | n => n, fun | 0 => 0 | 3 => 3 | 4 => 4 | 5 => 5 | 9 => 9 | 28 => 29 | 46 => 196 | 51 => 219 | 53 => 221 | 131 => 132 | 182 => 211 | 183 => 212 | 218 => 229 | 222 => 233 | 228 => 239 | 229 => 240 | n => n, fun n => n⟩
theorem Qtw : Lays.n189 Tryz.prog QtZ where
 mixed := by kernel_rfl
 f125 := Tryz.func194.trans (congrArg some (by kernel_rfl))
 f128 := Tryz.func221.trans (congrArg some (by kernel_rfl))
 f129 := Tryz.func222.trans (congrArg some (by kernel_rfl))
 f189 := Tryz.func143.trans (congrArg some (by kernel_rfl))
 f215 := Tryz.func245.trans (congrArg some (by kernel_rfl))
 f216 := Tryz.func218.trans (congrArg some (by kernel_rfl))
 f257 := Tryz.func193.trans (congrArg some (by kernel_rfl))
 f294 := Tryz.func212.trans (congrArg some (by kernel_rfl))
 f295 := Tryz.func213.trans (congrArg some (by kernel_rfl))
 f296 := Tryz.func214.trans (congrArg some (by kernel_rfl))
 f297 := Tryz.func215.trans (congrArg some (by kernel_rfl))
 f298 := Tryz.func216.trans (congrArg some (by kernel_rfl))
 f299 := Tryz.func217.trans (congrArg some (by kernel_rfl))
 f300 := Tryz.func219.trans (congrArg some (by kernel_rfl))
 f301 := Tryz.func220.trans (congrArg some (by kernel_rfl))
 f328 := Tryz.func240.trans (congrArg some (by kernel_rfl))
 f329 := Tryz.func241.trans (congrArg some (by kernel_rfl))
 f330 := Tryz.func242.trans (congrArg some (by kernel_rfl))
 f331 := Tryz.func243.trans (congrArg some (by kernel_rfl))
 f332 := Tryz.func244.trans (congrArg some (by kernel_rfl))
 f343 := Tryz.func252.trans (congrArg some (by kernel_rfl))
 t0 := Tryz.underlying0
 a0 := Tryz.isAgg0
 z0 := Tryz.sizeOf0
 v0 := Tryz.zeroValue0
 t3 := Tryz.underlying3
 a3 := Tryz.isAgg3
 z3 := Tryz.sizeOf3
 v3 := Tryz.zeroValue3
 t4 := Tryz.underlying4
 a4 := Tryz.isAgg4
 z4 := Tryz.sizeOf4
 v4 := Tryz.zeroValue4
 t5 := Tryz.underlying5
 a5 := Tryz.isAgg5
 z5 := Tryz.sizeOf5
 v5 := Tryz.zeroValue5
 t9 := Tryz.underlying9
 a9 := Tryz.isAgg9
 z9 := Tryz.sizeOf9
 v9 := Tryz.zeroValue9
 t28 := Tryz.underlying29
 a28 := Tryz.isAgg29
 z28 := Tryz.sizeOf29
 v28 := Tryz.zeroValue29
 t46 := Tryz.underlying196
 a46 := Tryz.isAgg196
 z46 := Tryz.sizeOf196
 v46 := Tryz.zeroValue196
 t51 := Tryz.underlying219
 a51 := Tryz.isAgg219
 z51 := Tryz.sizeOf219
 v51 := Tryz.zeroValue219
 t53 := Tryz.underlying221
 a53 := Tryz.isAgg221
 z53 := Tryz.sizeOf221
 v53 := Tryz.zeroValue221
 t131 := Tryz.underlying132
 a131 := Tryz.isAgg132
 z131 := Tryz.sizeOf132
 v131 := Tryz.zeroValue132
 t182 := Tryz.underlying211
 a182 := Tryz.isAgg211
 z182 := Tryz.sizeOf211
 v182 := Tryz.zeroValue211
 t183 := Tryz.underlying212
 a183 := Tryz.isAgg212
 z183 := Tryz.sizeOf212
 v183 := Tryz.zeroValue212
 t218 := Tryz.underlying229
 a218 := Tryz.isAgg229
 z218 := Tryz.sizeOf229
 v218 := Tryz.zeroValue229
 t222 := Tryz.underlying233
 a222 := Tryz.isAgg233
 z222 := Tryz.sizeOf233
 v222 := Tryz.zeroValue233
 t228 := Tryz.underlying239
 a228 := Tryz.isAgg239
 z228 := Tryz.sizeOf239
 v228 := Tryz.zeroValue239
 t229 := Tryz.underlying240
 a229 := Tryz.isAgg240
 z229 := Tryz.sizeOf240
 v229 := Tryz.zeroValue240
theorem QuN : Tryz.prog.underlying 160 = some (.slice 29) := by kernel_rfl
theorem Qu3 : Tryz.prog.underlying 28 = some (.slice 35) := by kernel_rfl
theorem Qu4 : Tryz.prog.underlying 29 = some (.slice 3) := by kernel_rfl
theorem Qu5 : Tryz.prog.underlying 35 = some (.slice 40) := by kernel_rfl
theorem zi_3 : Qjp Tryz.prog 3 ((V.i .i64) 0) := Qjp.one (v := .int .i64 0) (by kernel_rfl)
theorem zi_4 : Qjp Tryz.prog 4 (V.b false) := Qjp.one (v := .bool false) (by kernel_rfl)
theorem zv_3 : Qap Tryz.prog 3 = some [.i .i64 0] := by kernel_rfl
theorem Qu6 : Qap Tryz.prog 26 = some [.lit (.slice none 0 0), .lit (.slice none 0 0), .lit (.slice none 0 0), .i .i64 0, .i .i64 0] := by kernel_rfl
theorem Qui : Qap Tryz.prog 29 = some [.lit (.slice none 0 0)] := by kernel_rfl
theorem Qu7 : Qap Tryz.prog 31 = some [.i .i64 0, .lit (.slice none 0 0), .lit (.slice none 0 0), .lit (.slice none 0 0)] := by kernel_rfl
theorem Qu8 : Qap Tryz.prog 35 = some [.lit (.slice none 0 0)] := by kernel_rfl
theorem Qu9 : Qap Tryz.prog 36 = some [.i .i64 0] := by kernel_rfl
theorem Qva : Qap Tryz.prog 40 = some [.i .i64 0, .i .i64 0] := by kernel_rfl
theorem Qvb : Qap Tryz.prog 42 = some [.lit (.slice none 0 0)] := by kernel_rfl
theorem Qvc : Qap Tryz.prog 51 = some [.i .i64 0, .i .i64 0, .lit (.slice none 0 0)] := by kernel_rfl
theorem Qvd : Qap Tryz.prog 53 = some [.i .i64 0, .i .i64 0, .i .i64 0] := by kernel_rfl
theorem Qve : Qap Tryz.prog 55 = some [.s (⟨#[]⟩ : ByteArray), .lit (.slice none 0 0), .i .i64 0, .i .i64 0, .lit (.slice none 0 0), .i .i64 0, .i .i64 0, .lit (.slice none 0 0), .lit (.slice none 0 0), .lit (.slice none 0 0), .i .i64 0, .i .i64 0, .i .i64 0, .i .i64 0] := by kernel_rfl
theorem Qvf : Qap Tryz.prog 67 = some [.i .i64 0, .i .i64 0] := by kernel_rfl
theorem Qvg : Qap Tryz.prog 89 = some [.s (⟨#[]⟩ : ByteArray), .i .i64 0, .lit (.slice none 0 0)] := by kernel_rfl
theorem Qvh : Qap Tryz.prog 94 = some [.s (⟨#[]⟩ : ByteArray), .i .i64 0, .i .i64 0, .i .i64 0, .lit (.slice none 0 0), .i .i64 0, .i .i64 0] := by kernel_rfl
theorem Qvi : Qap Tryz.prog 96 = some [.s (⟨#[]⟩ : ByteArray), .i .i64 0] := by kernel_rfl
theorem Qvj : Qap Tryz.prog 98 = some [.i .i64 0, .i .i64 0, .i .i64 0, .lit (.slice none 0 0)] := by kernel_rfl
theorem Qkv : Qap Tryz.prog 102 = some [.lit (.nilFunc), .i .i64 0] := by kernel_rfl
theorem QuO : Qap Tryz.prog 113 = some [.lit (.slice none 0 0), .lit (.slice none 0 0), .lit (.slice none 0 0), .i .i64 0, .i .i64 0, .lit (.slice none 0 0), .s (⟨#[]⟩ : ByteArray), .lit (.slice none 0 0), .i .i64 0, .i .i64 0, .lit (.slice none 0 0), .i .i64 0, .i .i64 0, .lit (.slice none 0 0), .lit (.slice none 0 0), .lit (.slice none 0 0), .i .i64 0, .i .i64 0, .i .i64 0, .i .i64 0, .lit (.slice none 0 0)] := by kernel_rfl
theorem QuP : Qap Tryz.prog 136 = some [.lit (.slice none 0 0), .lit (.slice none 0 0), .i .i64 0] := by kernel_rfl
theorem QuQ : Qap Tryz.prog 146 = some [.lit (.nilFunc)] := by kernel_rfl
theorem QuR : Qap Tryz.prog 151 = some [.lit (.nilFunc)] := by kernel_rfl
theorem QuS : Qap Tryz.prog 160 = some [.lit (.slice none 0 0)] := by kernel_rfl
theorem QuT : Qap Tryz.prog 183 = some [.lit (.nilFunc)] := by kernel_rfl
def tab : Tab := { ag := [(3, false), (9, false), (22, false), (23, false), (24, false), (26, true), (28, false), (29, false), (31, true), (32, false), (35, false), (36, false), (40, true), (42, false), (48, false), (49, false), (51, true), (52, false), (53, true), (55, true), (67, true), (79, false), (89, true), (92, false), (94, true), (96, true), (98, true), (102, true), (113, true), (116, false), (136, true), (146, false), (151, false), (154, false), (160, false), (183, false)], sz := [(3, 1), (26, 5), (29, 1), (31, 4), (35, 1), (36, 1), (40, 2), (42, 1), (51, 3), (53, 3), (55, 14), (67, 2), (89, 3), (94, 7), (96, 2), (98, 4), (102, 2), (113, 21), (136, 3), (146, 1), (151, 1), (160, 1), (183, 1)], fo := [(26, [0, 1, 2, 3, 4]), (31, [0, 1, 2, 3]), (51, [0, 1, 2]), (55, [0, 1, 2, 5, 6, 7, 8, 9, 10, 11]), (89, [0, 1, 2]), (94, [0, 1, 2, 3, 4, 5, 6]), (96, [0, 1]), (98, [0, 1]), (102, [0, 1]), (113, [0, 5, 6, 20]), (136, [0, 1, 2])], sp := [(26, [(0, 1), (1, 1), (2, 1), (3, 1), (4, 1)]), (31, [(0, 1), (1, 1), (2, 1), (3, 1)]), (51, [(0, 1), (1, 1), (2, 1)]), (55, [(0, 1), (1, 1), (2, 3), (5, 1), (6, 1), (7, 1), (8, 1), (9, 1), (10, 1), (11, 3)]), (67, [(0, 1), (1, 1)]), (89, [(0, 1), (1, 1), (2, 1)]), (94, [(0, 1), (1, 1), (2, 1), (3, 1), (4, 1), (5, 1), (6, 1)]), (96, [(0, 1), (1, 1)]), (98, [(0, 1), (1, 3)]), (102, [(0, 1), (1, 1)]), (113, [(0, 5), (5, 1), (6, 14), (20, 1)]), (136, [(0, 1), (1, 1), (2, 1)])], es := [(22, (94, 7, 80)), (23, (89, 3, 48)), (24, (55, 14, 200)), (28, (35, 1, 24)), (29, (3, 1, 8)), (35, (40, 2, 16)), (42, (31, 4, 80)), (48, (96, 2, 24)), (49, (51, 3, 40)), (52, (98, 4, 48)), (92, (9, 1, 16)), (140, (102, 2, 16)), (160, (29, 1, 24)), (174, (3, 1, 8))], ar := [(40, (2, 1)), (53, (3, 1))], zv := [(3, [.i .i64 0]), (26, [.lit (.slice none 0 0), .lit (.slice none 0 0), .lit (.slice none 0 0), .i .i64 0, .i .i64 0]), (29, [.lit (.slice none 0 0)]), (31, [.i .i64 0, .lit (.slice none 0 0), .lit (.slice none 0 0), .lit (.slice none 0 0)]), (35, [.lit (.slice none 0 0)]), (36, [.i .i64 0]), (40, [.i .i64 0, .i .i64 0]), (42, [.lit (.slice none 0 0)]), (51, [.i .i64 0, .i .i64 0, .lit (.slice none 0 0)]), (53, [.i .i64 0, .i .i64 0, .i .i64 0]), (55, [.s (⟨#[]⟩ : ByteArray), .lit (.slice none 0 0), .i .i64 0, .i .i64 0, .lit (.slice none 0 0), .i .i64 0, .i .i64 0, .lit (.slice none 0 0), .lit (.slice none 0 0), .lit (.slice none 0 0), .i .i64 0, .i .i64 0, .i .i64 0, .i .i64 0]), (67, [.i .i64 0, .i .i64 0]), (89, [.s (⟨#[]⟩ : ByteArray), .i .i64 0, .lit (.slice none 0 0)]), (94, [.s (⟨#[]⟩ : ByteArray), .i .i64 0, .i .i64 0, .i .i64 0, .lit (.slice none 0 0), .i .i64 0, .i .i64 0]), (96, [.s (⟨#[]⟩ : ByteArray), .i .i64 0]), (98, [.i .i64 0, .i .i64 0, .i .i64 0, .lit (.slice none 0 0)]), (102, [.lit (.nilFunc), .i .i64 0]), (113, [.lit (.slice none 0 0), .lit (.slice none 0 0), .lit (.slice none 0 0), .i .i64 0, .i .i64 0, .lit (.slice none 0 0), .s (⟨#[]⟩ : ByteArray), .lit (.slice none 0 0), .i .i64 0, .i .i64 0, .lit (.slice none 0 0), .i .i64 0, .i .i64 0, .lit (.slice none 0 0), .lit (.slice none 0 0), .lit (.slice none 0 0), .i .i64 0, .i .i64 0, .i .i64 0, .i .i64 0, .lit (.slice none 0 0)]), (136, [.lit (.slice none 0 0), .lit (.slice none 0 0), .i .i64 0]), (146, [.lit (.nilFunc)]), (151, [.lit (.nilFunc)]), (160, [.lit (.slice none 0 0)]), (183, [.lit (.nilFunc)])], sb := [9], bo := [4], cc := [], en := [8, 9, 10, 12, 14, 16, 18, 19, 22, 24, 25, 26, 27, 29, 30, 31, 32, 33, 34, 35, 36, 40, 41, 43, 45, 47, 48, 49, 50, 51, 52, 53, 54, 56, 57, 58, 59, 60, 61, 62, 63, 64, 65, 66, 67, 68, 69, 70, 71, 72, 73, 74, 75, 85, 86, 88, 90, 91, 92, 93, 94, 95, 96, 97, 98, 99, 100, 101, 102, 103, 104, 105, 106, 107, 108, 109, 110, 111, 112, 113, 114, 115, 116, 117, 118, 119, 120, 121, 122, 123, 124, 125, 126, 127, 128, 129, 130, 131, 132, 133, 134, 135, 136, 137, 138, 139, 140, 141, 142, 143, 153, 154, 155, 156, 158, 159, 160, 161, 162, 163, 164, 165, 166, 167, 168, 169, 170, 171, 172, 173, 174, 175, 176, 177, 178, 179, 180, 181, 182, 183, 184, 185, 186, 187, 188, 189, 190, 191, 192, 199, 201, 202, 203, 204, 205, 206, 207, 208, 209, 210, 211, 230, 231, 232, 233, 234, 235, 236, 237, 238, 239, 248, 249, 253, 254, 255, 256, 257, 259, 260] }
theorem Qo : Qct Tryz.prog tab := Tab.ok (by kernel_rfl) (List.forall_mem_cons.2 ⟨zv_3, List.forall_mem_cons.2 ⟨Qu6, List.forall_mem_cons.2 ⟨Qui, List.forall_mem_cons.2 ⟨Qu7, List.forall_mem_cons.2 ⟨Qu8, List.forall_mem_cons.2 ⟨Qu9, List.forall_mem_cons.2 ⟨Qva, List.forall_mem_cons.2 ⟨Qvb, List.forall_mem_cons.2 ⟨Qvc, List.forall_mem_cons.2 ⟨Qvd, List.forall_mem_cons.2 ⟨Qve, List.forall_mem_cons.2 ⟨Qvf, List.forall_mem_cons.2 ⟨Qvg, List.forall_mem_cons.2 ⟨Qvh, List.forall_mem_cons.2 ⟨Qvi, List.forall_mem_cons.2 ⟨Qvj, List.forall_mem_cons.2 ⟨Qkv, List.forall_mem_cons.2 ⟨QuO, List.forall_mem_cons.2 ⟨QuP, List.forall_mem_cons.2 ⟨QuQ, List.forall_mem_cons.2 ⟨QuR, List.forall_mem_cons.2 ⟨QuS, List.forall_mem_cons.2 ⟨QuT, fun _ h => (by cases h)⟩⟩⟩⟩⟩⟩⟩⟩⟩⟩⟩⟩⟩⟩⟩⟩⟩⟩⟩⟩⟩⟩⟩)
theorem Qa {C : Ctx} {Q : Exit → St → Prop} {n : Nat} {pt pt1 : Pt} {ks ks1 : List Fr} {σ σ1 : St} {φ : Prop} (hC : Qd3 Tryz.prog C n) (ds : List Dir) (e : Vm.go Tryz.prog C tab n ds pt ks σ True = some ⟨pt1, ks1, σ1, φ⟩) (hφ : φ) (h : AK Tryz.prog C Q pt1 ks1 σ1) : AK Tryz.prog C Q pt ks σ := AK.go Qo hC ds e hφ h
theorem tt_ : True := trivial
theorem an_ {a b : Prop} (x : a) (y : b) : a ∧ b := ⟨x, y⟩
theorem ex_ {α : Sort _} {p : α → Prop} (w : α) (h : p w) : ∃ x, p x := ⟨w, h⟩
def Qmc  : Option TNet :=
 some (TNet.mk ([(Qy.mk (⟨#[110]⟩ : ByteArray) 1 0 3 ([] : (List ByteArray)) 0 0)] : List Qy) ([(Qz.mk (⟨#[97]⟩ : ByteArray) 0 ([] : (List (Int × Int)))), (Qz.mk (⟨#[98]⟩ : ByteArray) 0 ([] : (List (Int × Int)))), (Qz.mk (⟨#[99]⟩ : ByteArray) 0 ([] : (List (Int × Int))))] : List Qz) ([(Qr.mk (⟨#[116]⟩ : ByteArray) ([(TVar.mk (⟨#[120]⟩ : ByteArray) 0)] : List TVar) (Qf.mk 1 1 ([] : (List Qf))) 1 1 ([(TArc.mk 0 (Qf.mk 2 0 ([] : (List Qf))))] : List TArc) ([(TArc.mk 1 (Qf.mk 5 1 ([(Qf.mk 2 0 ([] : (List Qf))), (Qf.mk 1 1 ([] : (List Qf)))] : List Qf)))] : List TArc) ([2] : List Int) 0 (0, 0, 0))] : List Qr) 0 1)
theorem QqK  {r : TNet} (h : Qmc  = some r) : Qc Tryz.prog 29 [] [] (Gives (.agg (Qd r)) []) := by
 refine Qc.walk 29 Tryz.func29 rfl Tryz.ntmps29 rfl fun C hC => ?_
 unfold Qmc at h
 refine Qa hC [.n 7, .v .no [none, none, some 3] (.agg (Ql (Qf.mk 2 0 ([] : (List Qf))))), .n 2, .sayO 1 (.var (Ql (Qf.mk 2 0 ([] : (List Qf))))), .n 4, .v .no [none, none, some 3] (.agg (Ql (Qf.mk 1 1 ([] : (List Qf))))), .n 2, .sayO 2 (.var (Ql (Qf.mk 1 1 ([] : (List Qf))))), .n 4, .v .no [] (.agg (Ql (Qf.mk 2 0 ([] : (List Qf))))), .v .no [] (.agg (Ql (Qf.mk 1 1 ([] : (List Qf))))), .v (.bd []) [] (.sl 3 (QaF ([(Qf.mk 2 0 ([] : (List Qf))), (Qf.mk 1 1 ([] : (List Qf)))] : List Qf))), .v .no [] (.agg (Ql (Qf.mk 5 1 ([(Qf.mk 2 0 ([] : (List Qf))), (Qf.mk 1 1 ([] : (List Qf)))] : List Qf)))), .n 2, .sayO 3 (.var (Ql (Qf.mk 5 1 ([(Qf.mk 2 0 ([] : (List Qf))), (Qf.mk 1 1 ([] : (List Qf)))] : List Qf)))), .n 4, .v .no [none, none, none, none, some 1, none, none] (.agg (Qu (Qy.mk (⟨#[110]⟩ : ByteArray) 1 0 3 ([] : (List ByteArray)) 0 0))), .v (.bd []) [] (.sl 7 (([(Qy.mk (⟨#[110]⟩ : ByteArray) 1 0 3 ([] : (List ByteArray)) 0 0)] : List Qy).map Qu)), .v .no [none, none, some 2] (.agg (Qs (Qz.mk (⟨#[97]⟩ : ByteArray) 0 ([] : (List (Int × Int)))))), .v .no [none, none, some 2] (.agg (Qs (Qz.mk (⟨#[98]⟩ : ByteArray) 0 ([] : (List (Int × Int)))))), .v .no [none, none, some 2] (.agg (Qs (Qz.mk (⟨#[99]⟩ : ByteArray) 0 ([] : (List (Int × Int)))))), .v (.bd []) [] (.sl 3 (([(Qz.mk (⟨#[97]⟩ : ByteArray) 0 ([] : (List (Int × Int)))), (Qz.mk (⟨#[98]⟩ : ByteArray) 0 ([] : (List (Int × Int)))), (Qz.mk (⟨#[99]⟩ : ByteArray) 0 ([] : (List (Int × Int))))] : List Qz).map Qs)), .v .no [] (.agg (QB (TVar.mk (⟨#[120]⟩ : ByteArray) 0))), .v (.bd []) [] (.sl 2 (([(TVar.mk (⟨#[120]⟩ : ByteArray) 0)] : List TVar).map QB)), .v .no [] (.agg (Ql (Qf.mk 1 1 ([] : (List Qf))))), .v .no [] (.agg (Ql (Qf.mk 2 0 ([] : (List Qf))))), .v .no [] (.agg (QN (TArc.mk 0 (Qf.mk 2 0 ([] : (List Qf)))))), .v (.bd []) [] (.sl 4 (([(TArc.mk 0 (Qf.mk 2 0 ([] : (List Qf))))] : List TArc).map QN)), .v .no [] (.agg (Ql (Qf.mk 5 1 ([(Qf.mk 2 0 ([] : (List Qf))), (Qf.mk 1 1 ([] : (List Qf)))] : List Qf)))), .v .no [] (.agg (QN (TArc.mk 1 (Qf.mk 5 1 ([(Qf.mk 2 0 ([] : (List Qf))), (Qf.mk 1 1 ([] : (List Qf)))] : List Qf))))), .v (.bd []) [] (.sl 4 (([(TArc.mk 1 (Qf.mk 5 1 ([(Qf.mk 2 0 ([] : (List Qf))), (Qf.mk 1 1 ([] : (List Qf)))] : List Qf)))] : List TArc).map QN)), .v (.bd []) [] (.sl 1 (([2] : List Int).map Qe)), .v .no [] (.agg (Qi (Qr.mk (⟨#[116]⟩ : ByteArray) ([(TVar.mk (⟨#[120]⟩ : ByteArray) 0)] : List TVar) (Qf.mk 1 1 ([] : (List Qf))) 1 1 ([(TArc.mk 0 (Qf.mk 2 0 ([] : (List Qf))))] : List TArc) ([(TArc.mk 1 (Qf.mk 5 1 ([(Qf.mk 2 0 ([] : (List Qf))), (Qf.mk 1 1 ([] : (List Qf)))] : List Qf)))] : List TArc) ([2] : List Int) 0 (0, 0, 0)))), .v (.bd []) [] (.sl 14 (([(Qr.mk (⟨#[116]⟩ : ByteArray) ([(TVar.mk (⟨#[120]⟩ : ByteArray) 0)] : List TVar) (Qf.mk 1 1 ([] : (List Qf))) 1 1 ([(TArc.mk 0 (Qf.mk 2 0 ([] : (List Qf))))] : List TArc) ([(TArc.mk 1 (Qf.mk 5 1 ([(Qf.mk 2 0 ([] : (List Qf))), (Qf.mk 1 1 ([] : (List Qf)))] : List Qf)))] : List TArc) ([2] : List Int) 0 (0, 0, 0))] : List Qr).map Qi)), .v .no [] (.agg (Qd (TNet.mk ([(Qy.mk (⟨#[110]⟩ : ByteArray) 1 0 3 ([] : (List ByteArray)) 0 0)] : List Qy) ([(Qz.mk (⟨#[97]⟩ : ByteArray) 0 ([] : (List (Int × Int)))), (Qz.mk (⟨#[98]⟩ : ByteArray) 0 ([] : (List (Int × Int)))), (Qz.mk (⟨#[99]⟩ : ByteArray) 0 ([] : (List (Int × Int))))] : List Qz) ([(Qr.mk (⟨#[116]⟩ : ByteArray) ([(TVar.mk (⟨#[120]⟩ : ByteArray) 0)] : List TVar) (Qf.mk 1 1 ([] : (List Qf))) 1 1 ([(TArc.mk 0 (Qf.mk 2 0 ([] : (List Qf))))] : List TArc) ([(TArc.mk 1 (Qf.mk 5 1 ([(Qf.mk 2 0 ([] : (List Qf))), (Qf.mk 1 1 ([] : (List Qf)))] : List Qf)))] : List TArc) ([2] : List Int) 0 (0, 0, 0))] : List Qr) 0 1))), .n 1, .sayO 0 (.var (Qd (TNet.mk ([(Qy.mk (⟨#[110]⟩ : ByteArray) 1 0 3 ([] : (List ByteArray)) 0 0)] : List Qy) ([(Qz.mk (⟨#[97]⟩ : ByteArray) 0 ([] : (List (Int × Int)))), (Qz.mk (⟨#[98]⟩ : ByteArray) 0 ([] : (List (Int × Int)))), (Qz.mk (⟨#[99]⟩ : ByteArray) 0 ([] : (List (Int × Int))))] : List Qz) ([(Qr.mk (⟨#[116]⟩ : ByteArray) ([(TVar.mk (⟨#[120]⟩ : ByteArray) 0)] : List TVar) (Qf.mk 1 1 ([] : (List Qf))) 1 1 ([(TArc.mk 0 (Qf.mk 2 0 ([] : (List Qf))))] : List TArc) ([(TArc.mk 1 (Qf.mk 5 1 ([(Qf.mk 2 0 ([] : (List Qf))), (Qf.mk 1 1 ([] : (List Qf)))] : List Qf)))] : List TArc) ([2] : List Int) 0 (0, 0, 0))] : List Qr) 0 1))), .n 3, .keep [0] [0]] rfl ⟨⟨⟨⟨⟨⟨⟨⟨⟨⟨⟨⟨⟨⟨⟨⟨⟨⟨⟨⟨⟨⟨⟨⟨⟨⟨⟨⟨⟨tt_, rfl⟩, rfl⟩, rfl⟩, rfl⟩, rfl⟩, rfl⟩, rfl⟩, rfl⟩, rfl⟩, rfl⟩, rfl⟩, rfl⟩, rfl⟩, rfl⟩, rfl⟩, rfl⟩, rfl⟩, rfl⟩, rfl⟩, rfl⟩, rfl⟩, rfl⟩, rfl⟩, rfl⟩, rfl⟩, rfl⟩, rfl⟩, rfl⟩, rfl⟩ ?_
 cases h
 exact AK.done (ex_ [_] (an_ (an_ (ex_ _ (ex_ _ (an_ rfl (an_ rfl (Or.inl (an_ (Qo.ag rfl) (an_ (Qo.sz rfl) rfl))))))) tt_) (gives tt_)))
def QgV (lo1 : Int) (hi2 : Int) : Option Int :=
 bif (decide (hi2 < lo1)) then
 some 0
 else
 some (w64 ((w64 (min2 (IntKind.u64.wrap ((IntKind.u64.wrap hi2) - (IntKind.u64.wrap lo1))) 1024)) + 1))
theorem Qpn (lo1 : Int) (hi2 : Int) {r : Int} (h : QgV lo1 hi2 = some r) : Qc Tryz.prog 235 [.i .i64 lo1, .i .i64 hi2] [] (Gives (.i .i64 r) []) := by
 refine Qc.walk 16 Tryz.func235 rfl Tryz.ntmps235 rfl fun C hC => ?_
 unfold QgV at h
 refine Qa hC [.n 13] rfl tt_ ?_
 rcases bifE h with ⟨hc5, h⟩ | ⟨hc5, h⟩
 ·refine Qa hC [.br true, .n 7, .keep [4] []] rfl ⟨tt_, hc5⟩ ?_
  cases h
  exact AK.done (ex_ [_] (an_ (an_ rfl tt_) (gives tt_)))
 ·refine Qa hC [.br false, .n 5, .o (.any (.i .u64 (IntKind.u64.wrap hi2)) none), .n 1, .o (.any (.i .u64 (IntKind.u64.wrap lo1)) none), .n 2, .o (.any (.i .i64 (w64 (min2 (IntKind.u64.wrap ((IntKind.u64.wrap hi2) - (IntKind.u64.wrap lo1))) 1024))) none), .n 5, .keep [4] []] rfl ⟨⟨⟨⟨tt_, hc5⟩, (fun σ h1 h2 _ => Stp.convI rfl rfl (bleN hC.n rfl) (h1 _ _ rfl) it_3 Qn1)⟩, (fun σ h1 h2 _ => Stp.convI rfl rfl (bleN hC.n rfl) (h1 _ _ rfl) it_3 Qn1)⟩, (fun σ h1 h2 _ => Stp.convI rfl rfl (bleN hC.n rfl) (h1 _ _ rfl) Qn1 it_3)⟩ ?_
  cases h
  exact AK.done (ex_ [_] (an_ (an_ rfl tt_) (gives tt_)))
def Qdw (c1 : Int) : Option Bool :=
 some (bif (decide (97 ≤ c1)) then ((decide (c1 ≤ 122)) || ((decide (65 ≤ c1)) && (decide (c1 ≤ 90)))) else ((decide (65 ≤ c1)) && (decide (c1 ≤ 90))))
theorem Qkw (c1 : Int) {r : Bool} (h : Qdw c1 = some r) : Qc Tryz.prog 204 [.i .u8 c1] [] (Gives (.b r) []) := by
 refine Qc.walk 17 Tryz.func204 rfl Tryz.ntmps204 rfl fun C hC => ?_
 unfold Qdw at h
 refine Qa hC [.n 6] rfl tt_ ?_
 refine AK.meetX (fun σ => σ = ⟨[(2, .b (bif (decide (97 ≤ c1)) then ((decide (c1 ≤ 122)) || ((decide (65 ≤ c1)) && (decide (c1 ≤ 90)))) else ((decide (65 ≤ c1)) && (decide (c1 ≤ 90)))))], []⟩) ?_ ?_
 ·refine Qa hC [.n 4] rfl tt_ ?_
  rcases QJ (decide (97 ≤ c1)) with hc4 | hc4
  ·refine Qa hC [.say 5 (.b true), .n 4] rfl ⟨tt_, (congrArg V.b hc4)⟩ ?_
   rcases QJ (decide (c1 ≤ 122)) with hc5 | hc5
   ·refine Qa hC [.say 9 (.b true), .n 9, .say 2 (.b (bif (decide (97 ≤ c1)) then ((decide (c1 ≤ 122)) || ((decide (65 ≤ c1)) && (decide (c1 ≤ 90)))) else ((decide (65 ≤ c1)) && (decide (c1 ≤ 90))))), .keep [2] []] rfl ⟨⟨tt_, (congrArg V.b hc5)⟩, (congrArg V.b (bifT hc4 (orT hc5 rfl)))⟩ ?_
    exact AK.met rfl
   ·refine Qa hC [.say 9 (.b false), .n 3] rfl ⟨tt_, (congrArg V.b hc5)⟩ ?_
    rcases QJ (decide (65 ≤ c1)) with hc6 | hc6
    ·refine Qa hC [.say 12 (.b true), .n 6, .say 2 (.b (bif (decide (97 ≤ c1)) then ((decide (c1 ≤ 122)) || ((decide (65 ≤ c1)) && (decide (c1 ≤ 90)))) else ((decide (65 ≤ c1)) && (decide (c1 ≤ 90))))), .keep [2] []] rfl ⟨⟨tt_, (congrArg V.b hc6)⟩, (congrArg V.b (bifT hc4 (orF hc5 (andT hc6 rfl))))⟩ ?_
     exact AK.met rfl
    ·refine Qa hC [.say 12 (.b false), .n 6, .say 2 (.b (bif (decide (97 ≤ c1)) then ((decide (c1 ≤ 122)) || ((decide (65 ≤ c1)) && (decide (c1 ≤ 90)))) else ((decide (65 ≤ c1)) && (decide (c1 ≤ 90))))), .keep [2] []] rfl ⟨⟨tt_, (congrArg V.b hc6)⟩, (congrArg V.b (bifT hc4 (orF hc5 (andF hc6 rfl))))⟩ ?_
     exact AK.met rfl
  ·refine Qa hC [.say 5 (.b false), .n 7] rfl ⟨tt_, (congrArg V.b hc4)⟩ ?_
   rcases QJ (decide (65 ≤ c1)) with hc7 | hc7
   ·refine Qa hC [.say 12 (.b true), .n 6, .say 2 (.b (bif (decide (97 ≤ c1)) then ((decide (c1 ≤ 122)) || ((decide (65 ≤ c1)) && (decide (c1 ≤ 90)))) else ((decide (65 ≤ c1)) && (decide (c1 ≤ 90))))), .keep [2] []] rfl ⟨⟨tt_, (congrArg V.b hc7)⟩, (congrArg V.b (bifF hc4 (andT hc7 rfl)))⟩ ?_
    exact AK.met rfl
   ·refine Qa hC [.say 12 (.b false), .n 6, .say 2 (.b (bif (decide (97 ≤ c1)) then ((decide (c1 ≤ 122)) || ((decide (65 ≤ c1)) && (decide (c1 ≤ 90)))) else ((decide (65 ≤ c1)) && (decide (c1 ≤ 90))))), .keep [2] []] rfl ⟨⟨tt_, (congrArg V.b hc7)⟩, (congrArg V.b (bifF hc4 (andF hc7 rfl)))⟩ ?_
    exact AK.met rfl
 ·rintro σ rfl
  refine Qa hC [.n 2, .keep [2] []] rfl tt_ ?_
  cases h
  exact AK.done (ex_ [_] (an_ (an_ rfl tt_) (gives tt_)))
def QiZ (s1 : ByteArray) : Option Bool :=
 bif (QgE s1 (⟨#[]⟩ : ByteArray)) then
 some true
 else
 bif (decide (32 < (s1.size : Int))) then
 some true
 else
 (sidx s1 0).bind fun c8 =>
 (Qdw c8).bind fun x9 =>
 some (!x9)
def Qi0 (c14 : Int) : Option Bool :=
 (Qdw c14).bind fun x17 =>
 bif (!x17) then
 bif (decide (c14 < 48)) then
 some (c14 != 95)
 else
 bif (decide (57 < c14)) then
 some (c14 != 95)
 else
 some false
 else
 some false
def Qeu (x11 : Int) (x15 : Bool) : Option (Int ⊕ (Unit ⊕ Unit)) :=
 bif x15 then
 some (.inr (.inl ()))
 else
 some (.inl (w64 (x11 + 1)))
def Qc1 (s1 : ByteArray) (x11 : Int) : Option (Int ⊕ (Unit ⊕ Unit)) :=
 bif (decide (x11 < (s1.size : Int))) then
 (sidx s1 x11).bind fun c14 =>
 (Qi0 c14).bind (fun x15 => Qeu x11 x15)
 else
 some (.inr (.inr ()))
def Qev : Option Bool :=
 some false
def Qew : Option Bool :=
 some true
def Qex (s1 : ByteArray) (x4 : Bool) : Option Bool :=
 bif x4 then
 some false
 else
 (QE (fun st => Qc1 s1 st) 0).bind (Sum.elim (fun q => Qev) (fun q => Qew))
def QdK (s1 : ByteArray) : Option Bool :=
 (QiZ s1).bind (fun x4 => Qex s1 x4)
theorem Qi1 (s1 : ByteArray) {r : Bool} (h : QdK s1 = some r) : Qc Tryz.prog 164 [.s s1] [] (Gives (.b r) []) := by
 refine Qc.walk 42 Tryz.func164 rfl Tryz.ntmps164 rfl fun C hC => ?_
 unfold QdK at h
 refine Qa hC [.n 7] rfl tt_ ?_
 obtain ⟨x4, hv5, h⟩ := Qb h
 replace h : Qex s1 x4 = some r := h
 refine AK.meetX (fun σ => σ = ⟨[(0, .s s1), (17, .b x4)], []⟩) ?_ ?_
 ·replace h := hv5
  unfold QiZ at h
  refine Qa hC [.n 4] rfl tt_ ?_
  rcases bifE h with ⟨hc6, h⟩ | ⟨hc6, h⟩
  ·refine Qa hC [.say 7 (.b true), .n 11, .keep [0, 17] []] rfl ⟨tt_, (congrArg V.b hc6)⟩ ?_
   cases h
   exact AK.met rfl
  ·refine Qa hC [.say 7 (.b false), .n 5] rfl ⟨tt_, (congrArg V.b hc6)⟩ ?_
   rcases bifE h with ⟨hc7, h⟩ | ⟨hc7, h⟩
   ·refine Qa hC [.say 12 (.b true), .n 6, .keep [0, 17] []] rfl ⟨tt_, (congrArg V.b hc7)⟩ ?_
    cases h
    exact AK.met rfl
   ·obtain ⟨c8, hc8, h⟩ := Qb h
    obtain ⟨x9, hx9, h⟩ := Qb h
    refine Qa hC [.say 12 (.b false), .n 1, .o (.num c8), .o (.c false [.d] (.b x9)), .n 3, .keep [0, 17] []] rfl ⟨⟨⟨tt_, (congrArg V.b hc7)⟩, hc8⟩, (Qkw _ hx9)⟩ ?_
    cases h
    exact AK.met rfl
 ·rintro σ rfl
  replace h : Qex s1 x4 = some r := h
  unfold Qex at h
  refine Qa hC [.n 1] rfl tt_ ?_
  rcases bifE h with ⟨hc10, h⟩ | ⟨hc10, h⟩
  ·refine Qa hC [.br true, .n 7, .keep [2] []] rfl ⟨tt_, hc10⟩ ?_
   cases h
   exact AK.done (ex_ [_] (an_ (an_ rfl tt_) (gives tt_)))
  ·refine Qa hC [.br false, .n 11, .keep [0, 19, 20] []] rfl ⟨tt_, hc10⟩ ?_
   obtain ⟨o22, hl22, h⟩ := Qb h
   refine AK.loop (body := (fun st => Qc1 s1 st)) (fun st σ => σ = ⟨[(0, .s s1), (19, .i .i64 (s1.size : Int)), (20, .i .i64 st)], []⟩) (Sum.elim (fun q e σ => e = .ret ∧ σ = ⟨[(2, .b false)], []⟩) (fun q e σ => e = .exit 0 ∧ σ = ⟨[], []⟩)) hl22 rfl ?_ ?_
   ·rintro x11 o σ rfl h
    replace h : Qc1 s1 x11 = some o := h
    unfold Qc1 at h
    refine Qa hC [.n 6] rfl tt_ ?_
    rcases bifE h with ⟨hc13, h⟩ | ⟨hc13, h⟩
    ·obtain ⟨c14, hc14, h⟩ := Qb h
     refine Qa hC [.br true, .n 14, .o (.num c14), .n 4] rfl ⟨⟨tt_, hc13⟩, hc14⟩ ?_
     obtain ⟨x15, hv16, h⟩ := Qb h
     replace h : Qeu x11 x15 = some o := h
     refine AK.meetX (fun σ => σ = ⟨[(0, .s s1), (19, .i .i64 (s1.size : Int)), (20, .i .i64 x11), (40, .b x15)], []⟩) ?_ ?_
     ·replace h := hv16
      unfold Qi0 at h
      obtain ⟨x17, hx17, h⟩ := Qb h
      refine Qa hC [.n 2, .o (.c false [.d] (.b x17)), .n 2] rfl ⟨tt_, (Qkw _ hx17)⟩ ?_
      rcases bifE h with ⟨hc18, h⟩ | ⟨hc18, h⟩
      ·refine Qa hC [.say 29 (.b true), .n 3] rfl ⟨tt_, (congrArg V.b hc18)⟩ ?_
       rcases bifE h with ⟨hc19, h⟩ | ⟨hc19, h⟩
       ·refine Qa hC [.say 32 (.b true), .n 9, .keep [0, 19, 20, 40] []] rfl ⟨tt_, (congrArg V.b hc19)⟩ ?_
        cases h
        exact AK.met rfl
       ·refine Qa hC [.say 32 (.b false), .n 5] rfl ⟨tt_, (congrArg V.b hc19)⟩ ?_
        rcases bifE h with ⟨hc20, h⟩ | ⟨hc20, h⟩
        ·refine Qa hC [.say 37 (.b true), .n 4, .keep [0, 19, 20, 40] []] rfl ⟨tt_, (congrArg V.b hc20)⟩ ?_
         cases h
         exact AK.met rfl
        ·refine Qa hC [.say 37 (.b false), .n 4, .keep [0, 19, 20, 40] []] rfl ⟨tt_, (congrArg V.b hc20)⟩ ?_
         cases h
         exact AK.met rfl
      ·refine Qa hC [.say 29 (.b false), .n 12, .keep [0, 19, 20, 40] []] rfl ⟨tt_, (congrArg V.b hc18)⟩ ?_
       cases h
       exact AK.met rfl
     ·rintro σ rfl
      replace h : Qeu x11 x15 = some o := h
      unfold Qeu at h
      refine Qa hC [.n 1] rfl tt_ ?_
      rcases bifE h with ⟨hc21, h⟩ | ⟨hc21, h⟩
      ·refine Qa hC [.br true, .n 8, .keep [2] []] rfl ⟨tt_, hc21⟩ ?_
       cases h
       exact rndR rfl (an_ rfl rfl)
      ·refine Qa hC [.br false, .n 7, .keep [0, 19, 20] []] rfl ⟨tt_, hc21⟩ ?_
       cases h
       exact rndN rfl rfl
    ·refine Qa hC [.br false, .n 2, .keep [] []] rfl ⟨tt_, hc13⟩ ?_
     cases h
     exact rndX rfl (an_ rfl rfl)
   ·rcases o22 with (_ | _)
    ·replace h : Qev = some r := h
     unfold Qev at h
     rintro e σ ⟨rfl, rfl⟩
     refine Qa hC [.n 2, .keep [2] []] rfl tt_ ?_
     cases h
     exact AK.done (ex_ [_] (an_ (an_ rfl tt_) (gives tt_)))
    ·replace h : Qew = some r := h
     unfold Qew at h
     rintro e σ ⟨rfl, rfl⟩
     refine Qa hC [.n 8, .keep [2] []] rfl tt_ ?_
     cases h
     exact AK.done (ex_ [_] (an_ (an_ rfl tt_) (gives tt_)))
def Qij (e10 : ByteArray) (m6 : (List (ByteArray × Bool))) : Option Bool :=
 (QdK e10).bind fun x13 =>
 bif (!x13) then
 some true
 else
 some ((mget m6 e10).getD false)
def QdP (x5 : Int) (m6 : (List (ByteArray × Bool))) (e10 : ByteArray) (x11 : Bool) : Option ((Int × (List (ByteArray × Bool))) ⊕ (Unit ⊕ Unit)) :=
 bif x11 then
 some (.inr (.inl ()))
 else
 some (.inl ((w64 (x5 + 1)), (mset ltS m6 e10 true)))
def QcI (l1 : (List ByteArray)) (x5 : Int) (m6 : (List (ByteArray × Bool))) : Option ((Int × (List (ByteArray × Bool))) ⊕ (Unit ⊕ Unit)) :=
 bif (decide (x5 < (l1.length : Int))) then
 (idx l1 x5).bind fun e10 =>
 (Qij e10 m6).bind (fun x11 => QdP x5 m6 e10 x11)
 else
 some (.inr (.inr ()))
def QdQ : Option Bool :=
 some false
def QdR : Option Bool :=
 some true
def Qf7 (l1 : (List ByteArray)) : Option Bool :=
 (QE (fun st => QcI l1 st.1 st.2) (0, ([] : (List (ByteArray × Bool))))).bind (Sum.elim (fun q => QdQ) (fun q => QdR))
theorem QoL (l1 : (List ByteArray)) {r : Bool} (h : Qf7 l1 = some r) : Qc Tryz.prog 236 [.sl 1 (l1.map Qdb)] [] (Gives (.b r) []) := by
 refine Qc.walk 24 Tryz.func236 rfl Tryz.ntmps236 rfl fun C hC => ?_
 unfold Qf7 at h
 refine Qa hC [.n 8, .sayO 6 (.map (mapV V.s V.b ([] : (List (ByteArray × Bool))))), .n 7, .o (.ln l1.length), .n 4, .keep [3, 7, 8, 9] [6]] rfl ⟨⟨tt_, rfl⟩, Qg⟩ ?_
 obtain ⟨o16, hl16, h⟩ := Qb h
 refine AK.loop (body := (fun st => QcI l1 st.1 st.2)) (fun st σ => σ = ⟨[(3, .map 6), (7, .sl 1 (l1.map Qdb)), (8, .i .i64 (l1.length : Int)), (9, .i .i64 st.1)], [(6, .map (mapV V.s V.b st.2))]⟩) (Sum.elim (fun q e σ => e = .ret ∧ σ = ⟨[(2, .b false)], []⟩) (fun q e σ => e = .exit 0 ∧ σ = ⟨[], []⟩)) hl16 rfl ?_ ?_
 ·rintro ⟨x5, m6⟩ o σ rfl h
  replace h : QcI l1 x5 m6 = some o := h
  unfold QcI at h
  refine Qa hC [.n 6] rfl tt_ ?_
  rcases bifE h with ⟨hc9, h⟩ | ⟨hc9, h⟩
  ·obtain ⟨e10, he10, h⟩ := Qb h
   refine Qa hC [.br true, .n 6, .o (.row (Qdb e10)), .n 6] rfl ⟨⟨tt_, hc9⟩, (idxM he10)⟩ ?_
   obtain ⟨x11, hv12, h⟩ := Qb h
   replace h : QdP x5 m6 e10 x11 = some o := h
   refine AK.meetX (fun σ => σ = ⟨[(3, .map 6), (5, .s e10), (7, .sl 1 (l1.map Qdb)), (8, .i .i64 (l1.length : Int)), (9, .i .i64 x5), (20, .b x11)], [(6, .map (mapV V.s V.b m6))]⟩) ?_ ?_
   ·replace h := hv12
    unfold Qij at h
    obtain ⟨x13, hx13, h⟩ := Qb h
    refine Qa hC [.n 2, .o (.c false [.d] (.b x13)), .n 2] rfl ⟨tt_, (Qi1 _ hx13)⟩ ?_
    rcases bifE h with ⟨hc14, h⟩ | ⟨hc14, h⟩
    ·refine Qa hC [.say 16 (.b true), .n 5, .keep [3, 5, 7, 8, 9, 20] [6]] rfl ⟨tt_, (congrArg V.b hc14)⟩ ?_
     cases h
     exact AK.met rfl
    ·refine Qa hC [.say 16 (.b false), .n 2, .o (.any (.b ((mget m6 e10).getD false)) none), .n 2, .keep [3, 5, 7, 8, 9, 20] [6]] rfl ⟨⟨tt_, (congrArg V.b hc14)⟩, (fun σ h1 h2 _ => Stp.lookup (e := V.s) (f := V.b) (l := m6) (k := e10) (z := false) rfl rfl (bleN hC.n rfl) (h1 _ _ rfl) (h2 _ _ rfl) (h1 _ _ rfl) Qp5 ky_9 zi_4 rfl)⟩ ?_
     cases h
     exact AK.met rfl
   ·rintro σ rfl
    replace h : QdP x5 m6 e10 x11 = some o := h
    unfold QdP at h
    refine Qa hC [.n 1] rfl tt_ ?_
    rcases bifE h with ⟨hc15, h⟩ | ⟨hc15, h⟩
    ·refine Qa hC [.br true, .n 9, .keep [2] []] rfl ⟨tt_, hc15⟩ ?_
     cases h
     exact rndR rfl (an_ rfl rfl)
    ·refine Qa hC [.br false, .n 5, .x (fun σ => σ.set 6 (.map (mapV V.s V.b (mset ltS m6 e10 true)))), .n 7, .keep [3, 7, 8, 9] [6]] rfl ⟨⟨tt_, hc15⟩, (Stp.mapUpdate (e := V.s) (f := V.b) (l := m6) (k := e10) (v := true) ltS rfl rfl rfl rfl rfl rfl Qp5 ky_9 rfl)⟩ ?_
     cases h
     exact rndN rfl rfl
  ·refine Qa hC [.br false, .n 2, .keep [] []] rfl ⟨tt_, hc9⟩ ?_
   cases h
   exact rndX rfl (an_ rfl rfl)
 ·rcases o16 with (_ | _)
  ·replace h : QdQ = some r := h
   unfold QdQ at h
   rintro e σ ⟨rfl, rfl⟩
   refine Qa hC [.n 2, .keep [2] []] rfl tt_ ?_
   cases h
   exact AK.done (ex_ [_] (an_ (an_ rfl tt_) (gives tt_)))
  ·replace h : QdR = some r := h
   unfold QdR at h
   rintro e σ ⟨rfl, rfl⟩
   refine Qa hC [.n 8, .keep [2] []] rfl tt_ ?_
   cases h
   exact AK.done (ex_ [_] (an_ (an_ rfl tt_) (gives tt_)))
def QbA : Option Int :=
 some 0
def QgW (c1 : Qy) (ahead2 : (List Int)) : Option Int :=
 bif (c1.Kind == 1) then
 (QgV c1.Lo c1.Hi).bind fun x6 =>
 some x6
 else
 bif (c1.Kind == 2) then
 (Qf7 c1.Names).bind fun x8 =>
 bif x8 then
 some (c1.Names.length : Int)
 else
 QbA
 else
 bif (c1.Kind == 3) then
 bif ((decide (0 ≤ (min2 c1.First c1.Then))) && (decide ((max2 c1.First c1.Then) < (ahead2.length : Int)))) then
 (idx ahead2 c1.First).bind fun e14 =>
 (idx ahead2 c1.Then).bind fun e15 =>
 some (w64 (e14 * e15))
 else
 QbA
 else
 QbA
theorem Qpo (c1 : Qy) (ahead2 : (List Int)) {r : Int} (h : QgW c1 ahead2 = some r) : Qc Tryz.prog 203 [.agg (Qu c1), .sl 1 (ahead2.map Qe)] [] (Gives (.i .i64 r) []) := by
 refine Qc.walk 51 Tryz.func203 rfl Tryz.ntmps203 rfl fun C hC => ?_
 unfold QgW at h
 refine Qa hC [.n 6] rfl tt_ ?_
 refine AK.meet (fun σ => σ = ⟨[], []⟩ ∧ QbA = some r) ?_ ?_
 ·refine Qa hC [.n 13] rfl tt_ ?_
  rcases bifE h with ⟨hc5, h⟩ | ⟨hc5, h⟩
  ·obtain ⟨x6, hx6, h⟩ := Qb h
   refine Qa hC [.br true, .n 6, .o (.c false [.d, .d] (.i .i64 x6)), .n 6, .keep [4] []] rfl ⟨⟨tt_, hc5⟩, (Qpn _ _ hx6)⟩ ?_
   cases h
   exact AK.done (ex_ [_] (an_ (an_ rfl tt_) (gives tt_)))
  ·refine Qa hC [.br false, .n 6] rfl ⟨tt_, hc5⟩ ?_
   rcases bifE h with ⟨hc7, h⟩ | ⟨hc7, h⟩
   ·obtain ⟨x8, hx8, h⟩ := Qb h
    refine Qa hC [.br true, .n 4, .o (.c false [.d] (.b x8)), .n 2] rfl ⟨⟨tt_, hc7⟩, (QoL _ hx8)⟩ ?_
    rcases bifE h with ⟨hc9, h⟩ | ⟨hc9, h⟩
    ·refine Qa hC [.br true, .n 4, .o (.ln c1.Names.length), .n 6, .keep [4] []] rfl ⟨⟨tt_, hc9⟩, Qg⟩ ?_
     cases h
     exact AK.done (ex_ [_] (an_ (an_ rfl tt_) (gives tt_)))
    ·refine Qa hC [.br false, .n 2, .keep [] []] rfl ⟨tt_, hc9⟩ ?_
     exact AK.met (an_ rfl h)
   ·refine Qa hC [.br false, .n 6] rfl ⟨tt_, hc7⟩ ?_
    rcases bifE h with ⟨hc10, h⟩ | ⟨hc10, h⟩
    ·refine Qa hC [.br true, .n 1] rfl ⟨tt_, hc10⟩ ?_
     refine AK.meetX (fun σ => σ = ⟨[(1, .sl 1 (ahead2.map Qe)), (2, .loc 2 0 0), (39, .b ((decide (0 ≤ (min2 c1.First c1.Then))) && (decide ((max2 c1.First c1.Then) < (ahead2.length : Int)))))], [(2, .var (Qu c1))]⟩) ?_ ?_
     ·refine Qa hC [.n 8] rfl tt_ ?_
      rcases QJ (decide (0 ≤ (min2 c1.First c1.Then))) with hc12 | hc12
      ·refine Qa hC [.say 30 (.b true), .n 6, .o (.ln ahead2.length), .n 3, .say 39 (.b ((decide (0 ≤ (min2 c1.First c1.Then))) && (decide ((max2 c1.First c1.Then) < (ahead2.length : Int))))), .keep [1, 2, 39] [2]] rfl ⟨⟨⟨tt_, (congrArg V.b hc12)⟩, Qg⟩, (congrArg V.b (andT hc12 rfl))⟩ ?_
       exact AK.met rfl
      ·refine Qa hC [.say 30 (.b false), .n 10, .say 39 (.b ((decide (0 ≤ (min2 c1.First c1.Then))) && (decide ((max2 c1.First c1.Then) < (ahead2.length : Int))))), .keep [1, 2, 39] [2]] rfl ⟨⟨tt_, (congrArg V.b hc12)⟩, (congrArg V.b (andF hc12 rfl))⟩ ?_
       exact AK.met rfl
     ·rintro σ rfl
      refine Qa hC [.n 1] rfl tt_ ?_
      rcases bifE h with ⟨hc13, h⟩ | ⟨hc13, h⟩
      ·obtain ⟨e14, he14, h⟩ := Qb h
       obtain ⟨e15, he15, h⟩ := Qb h
       refine Qa hC [.br true, .n 1, .keep [1, 2] [2]] rfl ⟨tt_, hc13⟩ ?_
       refine AK.draw2 Qo hC mixed [.a .no none false, .a .no none false, .a .no none false, .a (.row (Qe e14)) none false, .a .no none false, .a .no none false, .a .no none false, .a .no none false, .a (.row (Qe e15)) none false, .a .no none false, .a .no none false, .a .no none false] [] [] [4] [] rfl rfl rfl ⟨⟨tt_, (idxM he14)⟩, (idxM he15)⟩ rfl (by kernel_rfl) rfl rfl rfl ?_
       refine Qa hC [.n 4, .keep [4] []] rfl tt_ ?_
       cases h
       exact AK.done (ex_ [_] (an_ (an_ rfl tt_) (gives tt_)))
      ·refine Qa hC [.br false, .n 2, .keep [] []] rfl ⟨tt_, hc13⟩ ?_
       exact AK.met (an_ rfl h)
    ·refine Qa hC [.br false, .n 2, .keep [] []] rfl ⟨tt_, hc10⟩ ?_
     exact AK.met (an_ rfl h)
 ·rintro σ ⟨rfl, h⟩
  unfold QbA at h
  refine Qa hC [.n 6, .keep [4] []] rfl tt_ ?_
  cases h
  exact AK.done (ex_ [_] (an_ (an_ rfl tt_) (gives tt_)))
def Qik (e16 : Qy) (m9 : (List (ByteArray × Bool))) (x17 : Int) : Option Bool :=
 (QdK e16.Name).bind fun x20 =>
 bif (!x20) then
 some true
 else
 bif ((mget m9 e16.Name).getD false) then
 some true
 else
 bif (decide (x17 < 1)) then
 some true
 else
 some (decide (1024 < x17))
def QdS (l10 : (List Int)) (x17 : Int) (x8 : Int) (m9 : (List (ByteArray × Bool))) (e16 : Qy) (x18 : Bool) : Option ((Int × (List (ByteArray × Bool)) × (List Int)) ⊕ (Unit ⊕ (List Int))) :=
 bif x18 then
 some (.inr (.inl ()))
 else
 (chk (decide (l10.length + ([x17] : List Int).length ≤ 4294967296))).bind fun _ =>
 some (.inl ((w64 (x8 + 1)), (mset ltS m9 e16.Name true), (l10 ++ ([x17] : List Int))))
def QcJ (l1 : (List Qy)) (x8 : Int) (m9 : (List (ByteArray × Bool))) (l10 : (List Int)) : Option ((Int × (List (ByteArray × Bool)) × (List Int)) ⊕ (Unit ⊕ (List Int))) :=
 bif (decide (x8 < (l1.length : Int))) then
 (idx l1 x8).bind fun e16 =>
 (QgW e16 l10).bind fun x17 =>
 (Qik e16 m9 x17).bind (fun x18 => QdS l10 x17 x8 m9 e16 x18)
 else
 some (.inr (.inr l10))
def Qil : Option ((List Int) × Bool) :=
 some (([] : List Int), false)
def Qim (l14 : (List Int)) : Option ((List Int) × Bool) :=
 some (l14, true)
def Qec (l1 : (List Qy)) : Option ((List Int) × Bool) :=
 bif (decide (32 < (l1.length : Int))) then
 some (([] : List Int), false)
 else
 (QE (fun st => QcJ l1 st.1 st.2.1 st.2.2) (0, ([] : (List (ByteArray × Bool))), ([] : List Int))).bind (Sum.elim (fun q => Qil) (fun q => Qim q))
theorem QkT (l1 : (List Qy)) {r : ((List Int) × Bool)} (h : Qec l1 = some r) : Qc Tryz.prog 163 [.sl 7 (l1.map Qu)] [] (Gives (.tup [.sl 1 (r.1.map Qe), .b r.2]) []) := by
 refine Qc.walk 49 Tryz.func163 rfl Tryz.ntmps163 rfl fun C hC => ?_
 unfold Qec at h
 refine Qa hC [.n 10, .o (.ln l1.length), .n 3] rfl ⟨tt_, Qg⟩ ?_
 rcases bifE h with ⟨hc6, h⟩ | ⟨hc6, h⟩
 ·refine Qa hC [.br true, .n 8, .denil 2 [some 1], .keep [2, 3] []] rfl ⟨tt_, hc6⟩ ?_
  cases h
  exact AK.done (ex_ [_, _] (an_ (an_ rfl (an_ rfl tt_)) (gives tt_)))
 ·refine Qa hC [.br false, .n 5, .sayO 12 (.map (mapV V.s V.b ([] : (List (ByteArray × Bool))))), .n 12, .o (.ln l1.length), .n 4, .adopt 5 43 1, .sayO 43 (.arr 1 (([] : List Int).map Qe)), .say 5 (.own 43 ([] : List Int).length), .keep [4, 5, 13, 14, 15] [12, 43]] rfl ⟨⟨⟨⟨⟨tt_, hc6⟩, rfl⟩, Qg⟩, rfl⟩, (congrArg (fun n => V.own 43 n) (by simp))⟩ ?_
  obtain ⟨o26, hl26, h⟩ := Qb h
  refine AK.loop (body := (fun st => QcJ l1 st.1 st.2.1 st.2.2)) (fun st σ => σ = ⟨[(4, .map 12), (5, .own 43 st.2.2.length), (13, .sl 7 (l1.map Qu)), (14, .i .i64 (l1.length : Int)), (15, .i .i64 st.1)], [(12, .map (mapV V.s V.b st.2.1)), (43, .arr 1 (st.2.2.map Qe))]⟩) (Sum.elim (fun q e σ => e = .ret ∧ σ = ⟨[(2, .lit (.slice none 0 0)), (3, .b false)], []⟩) (fun q e σ => e = .exit 0 ∧ σ = ⟨[(5, .own 43 q.length)], [(43, .arr 1 (q.map Qe))]⟩)) hl26 rfl ?_ ?_
  ·rintro ⟨x8, m9, l10⟩ o σ rfl h
   replace h : QcJ l1 x8 m9 l10 = some o := h
   unfold QcJ at h
   refine Qa hC [.n 6] rfl tt_ ?_
   rcases bifE h with ⟨hc15, h⟩ | ⟨hc15, h⟩
   ·obtain ⟨e16, he16, h⟩ := Qb h
    obtain ⟨x17, hx17, h⟩ := Qb h
    refine Qa hC [.br true, .n 6, .o (.row (Qu e16)), .v .no [] (.agg (Qu e16)), .n 2, .sayO 7 (.var (Qu e16)), .n 4, .v .no [] (.agg (Qu e16)), .n 1, .o (.c true [.d, .o (l10.map Qe)] (.i .i64 x17)), .n 5] rfl ⟨⟨⟨⟨⟨⟨tt_, hc15⟩, (idxM he16)⟩, rfl⟩, rfl⟩, rfl⟩, ⟨(QqE rfl), (Qpo _ _ hx17)⟩⟩ ?_
    obtain ⟨x18, hv19, h⟩ := Qb h
    replace h : QdS l10 x17 x8 m9 e16 x18 = some o := h
    refine AK.meetX (fun σ => σ = ⟨[(4, .map 12), (5, .own 43 l10.length), (7, .loc 7 0 0), (8, .i .i64 x17), (13, .sl 7 (l1.map Qu)), (14, .i .i64 (l1.length : Int)), (15, .i .i64 x8), (39, .b x18)], [(7, .var (Qu e16)), (12, .map (mapV V.s V.b m9)), (43, .arr 1 (l10.map Qe))]⟩) ?_ ?_
    ·replace h := hv19
     unfold Qik at h
     obtain ⟨x20, hx20, h⟩ := Qb h
     refine Qa hC [.n 3, .o (.c false [.d] (.b x20)), .n 2] rfl ⟨tt_, (Qi1 _ hx20)⟩ ?_
     rcases bifE h with ⟨hc21, h⟩ | ⟨hc21, h⟩
     ·refine Qa hC [.say 26 (.b true), .n 14, .keep [4, 5, 7, 8, 13, 14, 15, 39] [7, 12, 43]] rfl ⟨tt_, (congrArg V.b hc21)⟩ ?_
      cases h
      exact AK.met rfl
     ·refine Qa hC [.say 26 (.b false), .n 3, .o (.any (.b ((mget m9 e16.Name).getD false)) none), .n 2] rfl ⟨⟨tt_, (congrArg V.b hc21)⟩, (fun σ h1 h2 _ => Stp.lookup (e := V.s) (f := V.b) (l := m9) (k := e16.Name) (z := false) rfl rfl (bleN hC.n rfl) (h1 _ _ rfl) (h2 _ _ rfl) (h1 _ _ rfl) Qp5 ky_9 zi_4 rfl)⟩ ?_
      rcases bifE h with ⟨hc22, h⟩ | ⟨hc22, h⟩
      ·refine Qa hC [.say 32 (.b true), .n 8, .keep [4, 5, 7, 8, 13, 14, 15, 39] [7, 12, 43]] rfl ⟨tt_, (congrArg V.b hc22)⟩ ?_
       cases h
       exact AK.met rfl
      ·refine Qa hC [.say 32 (.b false), .n 4] rfl ⟨tt_, (congrArg V.b hc22)⟩ ?_
       rcases bifE h with ⟨hc23, h⟩ | ⟨hc23, h⟩
       ·refine Qa hC [.say 36 (.b true), .n 4, .keep [4, 5, 7, 8, 13, 14, 15, 39] [7, 12, 43]] rfl ⟨tt_, (congrArg V.b hc23)⟩ ?_
        cases h
        exact AK.met rfl
       ·refine Qa hC [.say 36 (.b false), .n 4, .keep [4, 5, 7, 8, 13, 14, 15, 39] [7, 12, 43]] rfl ⟨tt_, (congrArg V.b hc23)⟩ ?_
        cases h
        exact AK.met rfl
    ·rintro σ rfl
     replace h : QdS l10 x17 x8 m9 e16 x18 = some o := h
     unfold QdS at h
     refine Qa hC [.n 1] rfl tt_ ?_
     rcases bifE h with ⟨hc24, h⟩ | ⟨hc24, h⟩
     ·refine Qa hC [.br true, .n 10, .keep [2, 3] []] rfl ⟨tt_, hc24⟩ ?_
      cases h
      exact rndR rfl (an_ rfl rfl)
     ·obtain ⟨_, hk25, h⟩ := Qb h
      replace hk25 := chkE hk25
      refine Qa hC [.br false, .n 7, .x (fun σ => σ.set 12 (.map (mapV V.s V.b (mset ltS m9 e16.Name true)))), .n 5, .v (.bd []) [] (.sl 1 (([x17] : List Int).map Qe)), .app ((l10 ++ ([x17] : List Int)).map Qe) (l10 ++ ([x17] : List Int)).length, .n 8, .keep [4, 5, 13, 14, 15] [12, 43]] rfl ⟨⟨⟨⟨tt_, hc24⟩, (Stp.mapUpdate (e := V.s) (f := V.b) (l := m9) (k := e16.Name) (v := true) ltS rfl rfl rfl rfl rfl rfl Qp5 ky_9 rfl)⟩, rfl⟩, ⟨Qg, Qes hk25 Qg, Qc0, QgG Qg⟩⟩ ?_
      cases h
      exact rndN rfl rfl
   ·refine Qa hC [.br false, .n 2, .keep [5] [43]] rfl ⟨tt_, hc15⟩ ?_
    cases h
    exact rndX rfl (an_ rfl rfl)
  ·rcases o26 with (_ | l14)
   ·replace h : Qil = some r := h
    unfold Qil at h
    rintro e σ ⟨rfl, rfl⟩
    refine Qa hC [.n 2, .denil 2 [some 1], .keep [2, 3] []] rfl tt_ ?_
    cases h
    exact AK.done (ex_ [_, _] (an_ (an_ rfl (an_ rfl tt_)) (gives tt_)))
   ·replace h : Qim l14 = some r := h
    unfold Qim at h
    rintro e σ ⟨rfl, rfl⟩
    refine Qa hC [.n 10, .frz 43 (l14.map Qe) [2] [], .keep [2, 3] []] rfl ⟨tt_, ⟨tt_, (frzL Qg)⟩⟩ ?_
    cases h
    exact AK.done (ex_ [_, _] (an_ (an_ rfl (an_ rfl tt_)) (gives tt_)))
def QfH (l1 : (List Qy)) (k2 : Int) : Option (Bool × Qaa) :=
 (Qec l1).bind fun x7 =>
 bif ((!x7.2) || ((decide (k2 < 0)) || (decide ((l1.length : Int) ≤ k2)))) then
 some (false, (Qaa.mk ([] : (List Qy)) ([] : (List Int)) 0))
 else
 some (true, (Qaa.mk l1 x7.1 k2))
theorem Qj7 (l1 : (List Qy)) (k2 : Int) {r : (Bool × Qaa)} (h : QfH l1 k2 = some r) : Qc Tryz.prog 98 [.sl 7 (l1.map Qu), .i .i64 k2] [] (Gives (.tup [.agg (QI r.2), .b r.1]) []) := by
 refine Qc.walk 30 Tryz.func98 rfl Tryz.ntmps98 rfl fun C hC => ?_
 unfold QfH at h
 obtain ⟨x7, hx7, h⟩ := Qb h
 refine Qa hC [.n 9, .o (.c false [.d] (.tup [.sl 1 (x7.1.map Qe), .b x7.2])), .n 9] rfl ⟨tt_, (QkT _ hx7)⟩ ?_
 refine AK.meetX (fun σ => σ = ⟨[(0, .sl 7 (l1.map Qu)), (1, .i .i64 k2), (4, .loc 4 0 0), (6, .sl 1 (x7.1.map Qe)), (24, .b ((!x7.2) || ((decide (k2 < 0)) || (decide ((l1.length : Int) ≤ k2)))))], [(4, .var [.lit (.slice none 0 0), .lit (.slice none 0 0), .i .i64 0])]⟩) ?_ ?_
 ·refine Qa hC [.n 4] rfl tt_ ?_
  rcases QJ (!x7.2) with hc9 | hc9
  ·refine Qa hC [.say 15 (.b true), .n 10, .say 24 (.b ((!x7.2) || ((decide (k2 < 0)) || (decide ((l1.length : Int) ≤ k2))))), .keep [0, 1, 4, 6, 24] [4]] rfl ⟨⟨tt_, (congrArg V.b hc9)⟩, (congrArg V.b (orT hc9 rfl))⟩ ?_
   exact AK.met rfl
  ·refine Qa hC [.say 15 (.b false), .n 4] rfl ⟨tt_, (congrArg V.b hc9)⟩ ?_
   rcases QJ (decide (k2 < 0)) with hc10 | hc10
   ·refine Qa hC [.say 19 (.b true), .n 6, .say 24 (.b ((!x7.2) || ((decide (k2 < 0)) || (decide ((l1.length : Int) ≤ k2))))), .keep [0, 1, 4, 6, 24] [4]] rfl ⟨⟨tt_, (congrArg V.b hc10)⟩, (congrArg V.b (orF hc9 (orT hc10 rfl)))⟩ ?_
    exact AK.met rfl
   ·refine Qa hC [.say 19 (.b false), .n 2, .o (.ln l1.length), .n 3, .say 24 (.b ((!x7.2) || ((decide (k2 < 0)) || (decide ((l1.length : Int) ≤ k2))))), .keep [0, 1, 4, 6, 24] [4]] rfl ⟨⟨⟨tt_, (congrArg V.b hc10)⟩, Qg⟩, (congrArg V.b (orF hc9 (orF hc10 rfl)))⟩ ?_
    exact AK.met rfl
 ·rintro σ rfl
  refine Qa hC [.n 1] rfl tt_ ?_
  rcases bifE h with ⟨hc11, h⟩ | ⟨hc11, h⟩
  ·refine Qa hC [.br true, .n 2, .v .no [some 7, some 1, none] (.agg (QI (Qaa.mk ([] : (List Qy)) ([] : (List Int)) 0))), .n 1, .sayO 4 (.var (QI (Qaa.mk ([] : (List Qy)) ([] : (List Int)) 0))), .n 5, .keep [4, 5] [4]] rfl ⟨⟨⟨tt_, hc11⟩, rfl⟩, rfl⟩ ?_
   cases h
   exact AK.done (ex_ [_, _] (an_ (an_ (ex_ _ (ex_ _ (an_ rfl (an_ rfl (Or.inl (an_ (Qo.ag rfl) (an_ (Qo.sz rfl) rfl))))))) (an_ rfl tt_)) (gives tt_)))
  ·refine Qa hC [.br false, .n 7, .v .no [] (.agg (QI (Qaa.mk l1 x7.1 k2))), .n 1, .sayO 4 (.var (QI (Qaa.mk l1 x7.1 k2))), .n 4, .keep [4, 5] [4]] rfl ⟨⟨⟨tt_, hc11⟩, rfl⟩, rfl⟩ ?_
   cases h
   exact AK.done (ex_ [_, _] (an_ (an_ (ex_ _ (ex_ _ (an_ rfl (an_ rfl (Or.inl (an_ (Qo.ag rfl) (an_ (Qo.sz rfl) rfl))))))) (an_ rfl tt_)) (gives tt_)))
def Qhh (m2 : Int) (s1 : Qaa) : Option Bool :=
 bif (decide (0 ≤ m2)) then
 (idx s1.sizes s1.k).bind fun e7 =>
 some (decide (m2 < e7))
 else
 some false
def QeY (x4 : Bool) : Option Bool :=
 some x4
def Qc2 (s1 : Qaa) (m2 : Int) : Option Bool :=
 (Qhh m2 s1).bind (fun x4 => QeY x4)
theorem Qj4 (s1 : Qaa) (m2 : Int) {r : Bool} (h : Qc2 s1 m2 = some r) : Qc Tryz.prog 160 [.agg (QI s1), .i .i64 m2] [] (Gives (.b r) []) := by
 refine Qc.walk 17 Tryz.func160 rfl Tryz.ntmps160 rfl fun C hC => ?_
 unfold Qc2 at h
 refine Qa hC [.n 7] rfl tt_ ?_
 obtain ⟨x4, hv5, h⟩ := Qb h
 replace h : QeY x4 = some r := h
 refine AK.meetX (fun σ => σ = ⟨[(4, .b x4)], []⟩) ?_ ?_
 ·replace h := hv5
  unfold Qhh at h
  refine Qa hC [.n 4] rfl tt_ ?_
  rcases bifE h with ⟨hc6, h⟩ | ⟨hc6, h⟩
  ·obtain ⟨e7, he7, h⟩ := Qb h
   refine Qa hC [.say 7 (.b true), .n 5, .o (.row (Qe e7)), .n 5, .keep [4] []] rfl ⟨⟨tt_, (congrArg V.b hc6)⟩, (idxM he7)⟩ ?_
   cases h
   exact AK.met rfl
  ·refine Qa hC [.say 7 (.b false), .n 11, .keep [4] []] rfl ⟨tt_, (congrArg V.b hc6)⟩ ?_
   cases h
   exact AK.met rfl
 ·rintro σ rfl
  replace h : QeY x4 = some r := h
  unfold QeY at h
  refine Qa hC [.n 2, .keep [4] []] rfl tt_ ?_
  cases h
  exact AK.done (ex_ [_] (an_ (an_ rfl tt_) (gives tt_)))
def Qbo (s1 : Qaa) : Option Qy :=
 (idx s1.all s1.k).bind fun e3 =>
 some e3
theorem QfI (s1 : Qaa) {r : Qy} (h : Qbo s1 = some r) : Qc Tryz.prog 161 [.agg (QI s1)] [] (Gives (.agg (Qu r)) []) := by
 refine Qc.walk 9 Tryz.func161 rfl Tryz.ntmps161 rfl fun C hC => ?_
 unfold Qbo at h
 obtain ⟨e3, he3, h⟩ := Qb h
 refine Qa hC [.n 12, .o (.row (Qu e3)), .v .no [] (.agg (Qu e3)), .n 1, .sayO 2 (.var (Qu e3)), .n 3, .keep [2] [2]] rfl ⟨⟨⟨tt_, (idxM he3)⟩, rfl⟩, rfl⟩ ?_
 cases h
 exact AK.done (ex_ [_] (an_ (an_ (ex_ _ (ex_ _ (an_ rfl (an_ rfl (Or.inl (an_ (Qo.ag rfl) (an_ (Qo.sz rfl) rfl))))))) tt_) (gives tt_)))
def QhM (x8 : (Bool × Qaa)) (m3 : Int) : Option Bool :=
 bif (!x8.1) then
 some true
 else
 (Qc2 x8.2 m3).bind fun x12 =>
 some (!x12)
def Qdj (x8 : (Bool × Qaa)) (m3 : Int) (x9 : Bool) : Option (Int × Bool) :=
 bif x9 then
 some (0, false)
 else
 (Qbo x8.2).bind fun x14 =>
 bif (x14.Kind == 1) then
 (Qbo x8.2).bind fun x16 =>
 some ((w64 (x16.Lo + m3)), true)
 else
 some (m3, true)
def Qfh (l1 : (List Qy)) (k2 : Int) (m3 : Int) : Option (Int × Bool) :=
 (QfH l1 k2).bind fun x8 =>
 (QhM x8 m3).bind (fun x9 => Qdj x8 m3 x9)
theorem Qn2 (l1 : (List Qy)) (k2 : Int) (m3 : Int) {r : (Int × Bool)} (h : Qfh l1 k2 m3 = some r) : Qc Tryz.prog 94 [.sl 7 (l1.map Qu), .i .i64 k2, .i .i64 m3] [] (Gives (.tup [.i .i64 r.1, .b r.2]) []) := by
 refine Qc.walk 36 Tryz.func94 rfl Tryz.ntmps94 rfl fun C hC => ?_
 unfold Qfh at h
 obtain ⟨x8, hx8, h⟩ := Qb h
 refine Qa hC [.n 10, .o (.c false [.d, .d] (.tup [.agg (QI x8.2), .b x8.1])), .n 5, .sayO 8 (.var (QI x8.2)), .n 6] rfl ⟨⟨tt_, (Qj7 _ _ hx8)⟩, rfl⟩ ?_
 obtain ⟨x9, hv10, h⟩ := Qb h
 replace h : Qdj x8 m3 x9 = some r := h
 refine AK.meetX (fun σ => σ = ⟨[(2, .i .i64 m3), (8, .loc 8 0 0), (16, .b x9)], [(8, .var (QI x8.2))]⟩) ?_ ?_
 ·replace h := hv10
  unfold QhM at h
  refine Qa hC [.n 4] rfl tt_ ?_
  rcases bifE h with ⟨hc11, h⟩ | ⟨hc11, h⟩
  ·refine Qa hC [.say 19 (.b true), .n 7, .keep [2, 8, 16] [8]] rfl ⟨tt_, (congrArg V.b hc11)⟩ ?_
   cases h
   exact AK.met rfl
  ·obtain ⟨x12, hx12, h⟩ := Qb h
   refine Qa hC [.say 19 (.b false), .v .no [] (.agg (QI x8.2)), .n 1, .o (.c false [.d, .d] (.b x12)), .n 4, .keep [2, 8, 16] [8]] rfl ⟨⟨⟨tt_, (congrArg V.b hc11)⟩, rfl⟩, (Qj4 _ _ hx12)⟩ ?_
   cases h
   exact AK.met rfl
 ·rintro σ rfl
  replace h : Qdj x8 m3 x9 = some r := h
  unfold Qdj at h
  refine Qa hC [.n 1] rfl tt_ ?_
  rcases bifE h with ⟨hc13, h⟩ | ⟨hc13, h⟩
  ·refine Qa hC [.br true, .n 9, .keep [6, 7] []] rfl ⟨tt_, hc13⟩ ?_
   cases h
   exact AK.done (ex_ [_, _] (an_ (an_ rfl (an_ rfl tt_)) (gives tt_)))
  ·obtain ⟨x14, hx14, h⟩ := Qb h
   refine Qa hC [.br false, .n 2, .v .no [] (.agg (QI x8.2)), .o (.c false [.d] (.agg (Qu x14))), .o (.any (.i .i64 x14.Kind) none), .n 4] rfl ⟨⟨⟨⟨tt_, hc13⟩, rfl⟩, (QfI _ hx14)⟩, (fun σ h1 h2 _ => Stp.field rfl rfl (bleN hC.n rfl) (h1 _ _ rfl) Quq rfl)⟩ ?_
   rcases bifE h with ⟨hc15, h⟩ | ⟨hc15, h⟩
   ·obtain ⟨x16, hx16, h⟩ := Qb h
    refine Qa hC [.br true, .n 2, .v .no [] (.agg (QI x8.2)), .o (.c false [.d] (.agg (Qu x16))), .o (.any (.i .i64 x16.Lo) none), .n 9, .keep [6, 7] []] rfl ⟨⟨⟨⟨tt_, hc15⟩, rfl⟩, (QfI _ hx16)⟩, (fun σ h1 h2 _ => Stp.field rfl rfl (bleN hC.n rfl) (h1 _ _ rfl) Qur rfl)⟩ ?_
    cases h
    exact AK.done (ex_ [_, _] (an_ (an_ rfl (an_ rfl tt_)) (gives tt_)))
   ·refine Qa hC [.br false, .n 11, .keep [6, 7] []] rfl ⟨tt_, hc15⟩ ?_
    cases h
    exact AK.done (ex_ [_, _] (an_ (an_ rfl (an_ rfl tt_)) (gives tt_)))
def Qe9 (e11 : Qr) (vars3 : (List Int)) (n1 : TNet) (x15 : Int) (l16 : (List Int)) : Option ((Int × (List Int)) ⊕ (Unit ⊕ (List Int))) :=
 bif (decide (x15 < (e11.Vars.length : Int))) then
 (idx e11.Vars x15).bind fun e21 =>
 (idx vars3 x15).bind fun e22 =>
 (Qfh n1.Colours e21.Colour e22).bind fun x23 =>
 bif (!x23.2) then
 some (.inr (.inl ()))
 else
 (idx l16 x15).bind fun e25 =>
 some (.inl ((w64 (x15 + 1)), (l16.set x15.toNat x23.1)))
 else
 some (.inr (.inr l16))
def QkD : Option ((List Int) × Int) :=
 some (([] : List Int), 1)
def QkE (l19 : (List Int)) : Option ((List Int) × Int) :=
 some (l19, 0)
def QgI (n1 : TNet) (task2 : Int) (vars3 : (List Int)) : Option ((List Int) × Int) :=
 bif ((decide (task2 < 0)) || (decide ((n1.Tasks.length : Int) ≤ task2))) then
 some (([] : List Int), 3)
 else
 (idx n1.Tasks task2).bind fun e11 =>
 bif ((vars3.length : Int) != (e11.Vars.length : Int)) then
 some (([] : List Int), 1)
 else
 (chk (decide (0 ≤ (e11.Vars.length : Int)) && decide ((e11.Vars.length : Int) ≤ (e11.Vars.length : Int)) && decide ((e11.Vars.length : Int) ≤ 4294967296))).bind fun _ =>
 (QE (fun st => Qe9 e11 vars3 n1 st.1 st.2) (0, (List.replicate (e11.Vars.length : Int).toNat (0 : Int)))).bind (Sum.elim (fun q => QkD) (fun q => QkE q))
theorem QkF (n1 : TNet) (task2 : Int) (vars3 : (List Int)) {r : ((List Int) × Int)} (h : QgI n1 task2 vars3 = some r) : Qc Tryz.prog 51 [.agg (Qd n1), .i .i64 task2, .sl 1 (vars3.map Qe)] [] (Gives (.tup [.sl 1 (r.1.map Qe), .i .i64 r.2]) []) := by
 refine Qc.walk 64 Tryz.func51 rfl Tryz.ntmps51 rfl fun C hC => ?_
 unfold QgI at h
 refine Qa hC [.n 9] rfl tt_ ?_
 refine AK.meetX (fun σ => σ = ⟨[(1, .i .i64 task2), (2, .sl 1 (vars3.map Qe)), (3, .loc 3 0 0), (22, .b ((decide (task2 < 0)) || (decide ((n1.Tasks.length : Int) ≤ task2))))], [(3, .var (Qd n1))]⟩) ?_ ?_
 ·refine Qa hC [.n 4] rfl tt_ ?_
  rcases QJ (decide (task2 < 0)) with hc9 | hc9
  ·refine Qa hC [.say 16 (.b true), .n 7, .say 22 (.b ((decide (task2 < 0)) || (decide ((n1.Tasks.length : Int) ≤ task2)))), .keep [1, 2, 3, 22] [3]] rfl ⟨⟨tt_, (congrArg V.b hc9)⟩, (congrArg V.b (orT hc9 rfl))⟩ ?_
   exact AK.met rfl
  ·refine Qa hC [.say 16 (.b false), .n 3, .o (.ln n1.Tasks.length), .n 3, .say 22 (.b ((decide (task2 < 0)) || (decide ((n1.Tasks.length : Int) ≤ task2)))), .keep [1, 2, 3, 22] [3]] rfl ⟨⟨⟨tt_, (congrArg V.b hc9)⟩, Qg⟩, (congrArg V.b (orF hc9 rfl))⟩ ?_
   exact AK.met rfl
 ·rintro σ rfl
  refine Qa hC [.n 1] rfl tt_ ?_
  rcases bifE h with ⟨hc10, h⟩ | ⟨hc10, h⟩
  ·refine Qa hC [.br true, .n 8, .denil 6 [some 1], .keep [6, 7] []] rfl ⟨tt_, hc10⟩ ?_
   cases h
   exact AK.done (ex_ [_, _] (an_ (an_ rfl (an_ rfl tt_)) (gives tt_)))
  ·obtain ⟨e11, he11, h⟩ := Qb h
   refine Qa hC [.br false, .n 7, .o (.row (Qi e11)), .n 9, .o (.ln vars3.length), .n 1, .o (.ln e11.Vars.length), .n 3] rfl ⟨⟨⟨⟨tt_, hc10⟩, (idxM he11)⟩, Qg⟩, Qg⟩ ?_
   rcases bifE h with ⟨hc12, h⟩ | ⟨hc12, h⟩
   ·refine Qa hC [.br true, .n 8, .denil 6 [some 1], .keep [6, 7] []] rfl ⟨tt_, hc12⟩ ?_
    cases h
    exact AK.done (ex_ [_, _] (an_ (an_ rfl (an_ rfl tt_)) (gives tt_)))
   ·obtain ⟨_, hk13, h⟩ := Qb h
    replace hk13 := chkE hk13
    refine Qa hC [.br false, .n 5, .o (.ln e11.Vars.length), .o (.rows ((List.replicate (e11.Vars.length : Int).toNat (0 : Int)).map Qe)), .say 36 (.own 36 (List.replicate (e11.Vars.length : Int).toNat (0 : Int)).length), .n 7, .o (.ln e11.Vars.length), .n 4, .keep [2, 3, 9, 37, 38, 39] [3, 36]] rfl ⟨⟨⟨⟨⟨tt_, hc12⟩, Qg⟩, ⟨hk13, Qtb rfl⟩⟩, (by simp)⟩, Qg⟩ ?_
    obtain ⟨o26, hl26, h⟩ := Qb h
    refine AK.loop (body := (fun st => Qe9 e11 vars3 n1 st.1 st.2)) (fun st σ => σ = ⟨[(2, .sl 1 (vars3.map Qe)), (3, .loc 3 0 0), (9, .own 36 st.2.length), (37, .sl 2 (e11.Vars.map QB)), (38, .i .i64 (e11.Vars.length : Int)), (39, .i .i64 st.1)], [(3, .var (Qd n1)), (36, .arr 1 (st.2.map Qe))]⟩) (Sum.elim (fun q e σ => e = .ret ∧ σ = ⟨[(6, .lit (.slice none 0 0)), (7, .i .i64 1)], []⟩) (fun q e σ => e = .exit 0 ∧ σ = ⟨[(9, .own 36 q.length)], [(36, .arr 1 (q.map Qe))]⟩)) hl26 rfl ?_ ?_
    ·rintro ⟨x15, l16⟩ o σ rfl h
     replace h : Qe9 e11 vars3 n1 x15 l16 = some o := h
     unfold Qe9 at h
     refine Qa hC [.n 6] rfl tt_ ?_
     rcases bifE h with ⟨hc20, h⟩ | ⟨hc20, h⟩
     ·obtain ⟨e21, he21, h⟩ := Qb h
      obtain ⟨e22, he22, h⟩ := Qb h
      obtain ⟨x23, hx23, h⟩ := Qb h
      refine Qa hC [.br true, .n 7, .o (.row (QB e21)), .v .no [] (.agg (QB e21)), .n 3, .sayO 11 (.var (QB e21)), .n 3, .keep [2, 3, 9, 10, 11, 37, 38, 39] [3, 11, 36]] rfl ⟨⟨⟨⟨tt_, hc20⟩, (idxM he21)⟩, rfl⟩, rfl⟩ ?_
      refine AK.draw2 Qo hC mixed [.a .no none false, .a .no none false, .a .no none false, .a .no none false, .a .no none false, .a .no none false, .a (.row (Qe e22)) none false, .a .no none false, .a (.c false [.d, .d, .d] (.tup [.i .i64 x23.1, .b x23.2])) none false, .a .no none false, .a .no none false, .a .no none false, .a .no none false, .a .no none false] [] [] [2, 3, 9, 10, 12, 13, 37, 38, 39] [3, 36] rfl rfl rfl ⟨⟨tt_, (idxM he22)⟩, (Qn2 _ _ _ hx23)⟩ rfl (by kernel_rfl) rfl rfl rfl ?_
      refine Qa hC [.n 8] rfl tt_ ?_
      rcases bifE h with ⟨hc24, h⟩ | ⟨hc24, h⟩
      ·refine Qa hC [.br true, .n 10, .keep [6, 7] []] rfl ⟨tt_, hc24⟩ ?_
       cases h
       exact rndR rfl (an_ rfl rfl)
      ·obtain ⟨e25, he25, h⟩ := Qb h
       refine Qa hC [.br false, .n 7, .st (Qe e25) ((l16.set x15.toNat x23.1).map Qe), .n 7, .say 9 (.own 36 (l16.set x15.toNat x23.1).length), .keep [2, 3, 9, 37, 38, 39] [3, 36]] rfl ⟨⟨⟨⟨tt_, hc24⟩, (QeX he25 rfl)⟩, ⟨(Qcz (idxE he25).2), Qjn rfl⟩⟩, (congrArg (fun n => V.own 36 n) (by simp))⟩ ?_
       cases h
       exact rndN rfl rfl
     ·refine Qa hC [.br false, .n 2, .keep [9] [36]] rfl ⟨tt_, hc20⟩ ?_
      cases h
      exact rndX rfl (an_ rfl rfl)
    ·rcases o26 with (_ | l19)
     ·replace h : QkD = some r := h
      unfold QkD at h
      rintro e σ ⟨rfl, rfl⟩
      refine Qa hC [.n 2, .denil 6 [some 1], .keep [6, 7] []] rfl tt_ ?_
      cases h
      exact AK.done (ex_ [_, _] (an_ (an_ rfl (an_ rfl tt_)) (gives tt_)))
     ·replace h : QkE l19 = some r := h
      unfold QkE at h
      rintro e σ ⟨rfl, rfl⟩
      refine Qa hC [.n 10, .frz 36 (l19.map Qe) [6] [], .keep [6, 7] []] rfl ⟨tt_, ⟨tt_, (frzL Qg)⟩⟩ ?_
      cases h
      exact AK.done (ex_ [_, _] (an_ (an_ rfl (an_ rfl tt_)) (gives tt_)))
def Qf8 (n1 : TNet) (m2 : (List (List (Int × Int)))) (task3 : Int) (vars4 : (List Int)) : Option (Int × QA) :=
 (QgI n1 task3 vars4).bind fun x9 =>
 bif (x9.2 != 0) then
 some (x9.2, (QA.mk (TNet.mk ([] : (List Qy)) ([] : (List Qz)) ([] : (List Qr)) 0 0) ([] : (List (List (Int × Int)))) (Qr.mk (⟨#[]⟩ : ByteArray) ([] : (List TVar)) (Qf.mk 0 0 ([] : (List Qf))) 0 0 ([] : (List TArc)) ([] : (List TArc)) ([] : (List Int)) 0 (0, 0, 0)) ([] : (List Int))))
 else
 (idx n1.Tasks task3).bind fun e11 =>
 some (0, (QA.mk n1 m2 e11 x9.1))
theorem Ql4 (n1 : TNet) (m2 : (List (List (Int × Int)))) (task3 : Int) (vars4 : (List Int)) {r : (Int × QA)} (h : Qf8 n1 m2 task3 vars4 = some r) : Qc Tryz.prog 70 [.agg (Qd n1), .sl 1 (m2.map Qh), .i .i64 task3, .sl 1 (vars4.map Qe)] [] (Gives (.tup [.agg (Qp r.2), .i .i64 r.1]) []) := by
 refine Qc.walk 32 Tryz.func70 rfl Tryz.ntmps70 rfl fun C hC => ?_
 unfold Qf8 at h
 obtain ⟨x9, hx9, h⟩ := Qb h
 refine Qa hC [.n 9, .v .no [] (.agg (Qd n1)), .n 2, .o (.c false [.d, .d, .d] (.tup [.sl 1 (x9.1.map Qe), .i .i64 x9.2])), .n 14] rfl ⟨⟨tt_, rfl⟩, (QkF _ _ _ hx9)⟩ ?_
 rcases bifE h with ⟨hc10, h⟩ | ⟨hc10, h⟩
 ·refine Qa hC [.br true, .n 2, .v .no [some 7, some 3, some 14, none, none, some 1, none, some 2, none, none, some 3, none, none, some 4, some 4, some 1, none, none, none, none, some 1] (.agg (Qp (QA.mk (TNet.mk ([] : (List Qy)) ([] : (List Qz)) ([] : (List Qr)) 0 0) ([] : (List (List (Int × Int)))) (Qr.mk (⟨#[]⟩ : ByteArray) ([] : (List TVar)) (Qf.mk 0 0 ([] : (List Qf))) 0 0 ([] : (List TArc)) ([] : (List TArc)) ([] : (List Int)) 0 (0, 0, 0)) ([] : (List Int))))), .n 2, .sayO 8 (.var (Qp (QA.mk (TNet.mk ([] : (List Qy)) ([] : (List Qz)) ([] : (List Qr)) 0 0) ([] : (List (List (Int × Int)))) (Qr.mk (⟨#[]⟩ : ByteArray) ([] : (List TVar)) (Qf.mk 0 0 ([] : (List Qf))) 0 0 ([] : (List TArc)) ([] : (List TArc)) ([] : (List Int)) 0 (0, 0, 0)) ([] : (List Int))))), .n 5, .keep [8, 9] [8]] rfl ⟨⟨⟨tt_, hc10⟩, rfl⟩, rfl⟩ ?_
  cases h
  exact AK.done (ex_ [_, _] (an_ (an_ (ex_ _ (ex_ _ (an_ rfl (an_ rfl (Or.inl (an_ (Qo.ag rfl) (an_ (Qo.sz rfl) rfl))))))) (an_ rfl tt_)) (gives tt_)))
 ·obtain ⟨e11, he11, h⟩ := Qb h
  refine Qa hC [.br false, .n 3, .keep [1, 2, 4, 8, 9, 10] [4, 8]] rfl ⟨tt_, hc10⟩ ?_
  refine AK.draw2 Qo hC mixed [.a .no (some ([], .agg (Qd n1))) false, .a .no none false, .a .no none false, .a .no none false, .a .no none false, .a (.row (Qi e11)) none false, .a .no (some ([], .agg (Qi e11))) false, .a .no none false, .a .no (some ([], .agg (Qp (QA.mk n1 m2 e11 x9.1)))) false, .m .s, .m .s] [] [] [8, 9] [8] rfl rfl rfl ⟨⟨⟨⟨tt_, rfl⟩, (idxM he11)⟩, rfl⟩, rfl⟩ rfl (by kernel_rfl) rfl rfl rfl ?_
  refine Qa hC [.sayO 8 (.var (Qp (QA.mk n1 m2 e11 x9.1))), .n 2, .keep [8, 9] [8]] rfl ⟨tt_, rfl⟩ ?_
  cases h
  exact AK.done (ex_ [_, _] (an_ (an_ (ex_ _ (ex_ _ (an_ rfl (an_ rfl (Or.inl (an_ (Qo.ag rfl) (an_ (Qo.sz rfl) rfl))))))) (an_ rfl tt_)) (gives tt_)))
def Qdx (e1 : Qf) (rec_expr_Depth : Qf → Option Int) (n3 : Int) (x4 : Int) : Option ((Int × Int) ⊕ Int) :=
 bif (decide (x4 < (e1.Kids.length : Int))) then
 (idx e1.Kids x4).bind fun e9 =>
 (rec_expr_Depth e9).bind fun x10 =>
 some (.inl ((max2 n3 x10), (w64 (x4 + 1))))
 else
 some (.inr n3)
def Qhw (n7 : Int) : Option Int :=
 some (w64 (n7 + 1))
def Qia (rec_expr_Depth : Qf → Option Int) (e1 : Qf) : Option Int :=
 (QE (fun st => Qdx e1 rec_expr_Depth st.1 st.2) (0, 0)).bind (fun q => Qhw q)
def Qc3 : Nat → Qf → Option Int
 | 0, _ => none
 | n + 1, e1 => Qia (Qc3 n) e1
def Qlk (e1 : Qf) : Option Int := Qc3 (SizeOf.sizeOf e1) e1
theorem QoM (rec_expr_Depth : Qf → Option Int) (hrec_expr_Depth : ∀ (e1 : Qf) {r : Int}, rec_expr_Depth e1 = some r → Qc Tryz.prog 178 [.agg (Ql e1)] [] (Gives (.i .i64 r) [])) (e1 : Qf) {r : Int} (h : Qia rec_expr_Depth e1 = some r) : Qc Tryz.prog 178 [.agg (Ql e1)] [] (Gives (.i .i64 r) []) := by
 refine Qc.walk 20 Tryz.func178 rfl Tryz.ntmps178 rfl fun C hC => ?_
 unfold Qia at h
 refine Qa hC [.n 16, .o (.ln e1.Kids.length), .n 4, .keep [3, 7, 8, 9] []] rfl ⟨tt_, Qh9 _⟩ ?_
 obtain ⟨n7, hl11, h⟩ := Qb h
 refine AK.loop (body := (fun st => Qdx e1 rec_expr_Depth st.1 st.2)) (fun st σ => σ = ⟨[(3, .i .i64 st.1), (7, .sl 3 (QaF e1.Kids)), (8, .i .i64 (e1.Kids.length : Int)), (9, .i .i64 st.2)], []⟩) (fun q e σ => e = .exit 0 ∧ σ = ⟨[(3, .i .i64 q)], []⟩) hl11 rfl ?_ ?_
 ·rintro ⟨n3, x4⟩ o σ rfl h
  replace h : Qdx e1 rec_expr_Depth n3 x4 = some o := h
  unfold Qdx at h
  refine Qa hC [.n 6] rfl tt_ ?_
  rcases bifE h with ⟨hc8, h⟩ | ⟨hc8, h⟩
  ·obtain ⟨e9, he9, h⟩ := Qb h
   obtain ⟨x10, hx10, h⟩ := Qb h
   refine Qa hC [.br true, .n 6, .o (.row (Ql e9)), .v .no [] (.agg (Ql e9)), .n 2, .sayO 5 (.var (Ql e9)), .n 4, .v .no [] (.agg (Ql e9)), .o (.c false [.d] (.i .i64 x10)), .n 9, .keep [3, 7, 8, 9] []] rfl ⟨⟨⟨⟨⟨⟨tt_, hc8⟩, (Qdc he9)⟩, rfl⟩, rfl⟩, rfl⟩, (hrec_expr_Depth _ hx10)⟩ ?_
   cases h
   exact rndN rfl rfl
  ·refine Qa hC [.br false, .n 2, .keep [3] []] rfl ⟨tt_, hc8⟩ ?_
   cases h
   exact rndX rfl (an_ rfl rfl)
 ·replace h : Qhw n7 = some r := h
  unfold Qhw at h
  rintro e σ ⟨rfl, rfl⟩
  refine Qa hC [.n 10, .keep [2] []] rfl tt_ ?_
  cases h
  exact AK.done (ex_ [_] (an_ (an_ rfl tt_) (gives tt_)))
theorem QkU : ∀ (fuel : Nat) (e1 : Qf) {r : Int}, Qc3 fuel e1 = some r → Qc Tryz.prog 178 [.agg (Ql e1)] [] (Gives (.i .i64 r) [])
 | 0, _, _, h => by cases h
 | n + 1, e1, _, h => QoM (Qc3 n) (fun _ _ h => QkU n _ h) e1 h
theorem Qp6 (e1 : Qf) {r : Int} (h : Qlk e1 = some r) : Qc Tryz.prog 178 [.agg (Ql e1)] [] (Gives (.i .i64 r) []) := QkU _ e1 h
def Qed (e1 : Qf) (rec_expr_Size : Qf → Option Int) (n3 : Int) (x4 : Int) : Option ((Int × Int) ⊕ Int) :=
 bif (decide (x4 < (e1.Kids.length : Int))) then
 (idx e1.Kids x4).bind fun e9 =>
 (rec_expr_Size e9).bind fun x10 =>
 some (.inl ((w64 (n3 + x10)), (w64 (x4 + 1))))
 else
 some (.inr n3)
def Qib (n7 : Int) : Option Int :=
 some n7
def QiN (rec_expr_Size : Qf → Option Int) (e1 : Qf) : Option Int :=
 (QE (fun st => Qed e1 rec_expr_Size st.1 st.2) (1, 0)).bind (fun q => Qib q)
def QdL : Nat → Qf → Option Int
 | 0, _ => none
 | n + 1, e1 => QiN (QdL n) e1
def Qmd (e1 : Qf) : Option Int := QdL (SizeOf.sizeOf e1) e1
theorem Qpp (rec_expr_Size : Qf → Option Int) (hrec_expr_Size : ∀ (e1 : Qf) {r : Int}, rec_expr_Size e1 = some r → Qc Tryz.prog 179 [.agg (Ql e1)] [] (Gives (.i .i64 r) [])) (e1 : Qf) {r : Int} (h : QiN rec_expr_Size e1 = some r) : Qc Tryz.prog 179 [.agg (Ql e1)] [] (Gives (.i .i64 r) []) := by
 refine Qc.walk 19 Tryz.func179 rfl Tryz.ntmps179 rfl fun C hC => ?_
 unfold QiN at h
 refine Qa hC [.n 16, .o (.ln e1.Kids.length), .n 4, .keep [3, 7, 8, 9] []] rfl ⟨tt_, Qh9 _⟩ ?_
 obtain ⟨n7, hl11, h⟩ := Qb h
 refine AK.loop (body := (fun st => Qed e1 rec_expr_Size st.1 st.2)) (fun st σ => σ = ⟨[(3, .i .i64 st.1), (7, .sl 3 (QaF e1.Kids)), (8, .i .i64 (e1.Kids.length : Int)), (9, .i .i64 st.2)], []⟩) (fun q e σ => e = .exit 0 ∧ σ = ⟨[(3, .i .i64 q)], []⟩) hl11 rfl ?_ ?_
 ·rintro ⟨n3, x4⟩ o σ rfl h
  replace h : Qed e1 rec_expr_Size n3 x4 = some o := h
  unfold Qed at h
  refine Qa hC [.n 6] rfl tt_ ?_
  rcases bifE h with ⟨hc8, h⟩ | ⟨hc8, h⟩
  ·obtain ⟨e9, he9, h⟩ := Qb h
   obtain ⟨x10, hx10, h⟩ := Qb h
   refine Qa hC [.br true, .n 6, .o (.row (Ql e9)), .v .no [] (.agg (Ql e9)), .n 2, .sayO 5 (.var (Ql e9)), .n 4, .v .no [] (.agg (Ql e9)), .o (.c false [.d] (.i .i64 x10)), .n 9, .keep [3, 7, 8, 9] []] rfl ⟨⟨⟨⟨⟨⟨tt_, hc8⟩, (Qdc he9)⟩, rfl⟩, rfl⟩, rfl⟩, (hrec_expr_Size _ hx10)⟩ ?_
   cases h
   exact rndN rfl rfl
  ·refine Qa hC [.br false, .n 2, .keep [3] []] rfl ⟨tt_, hc8⟩ ?_
   cases h
   exact rndX rfl (an_ rfl rfl)
 ·replace h : Qib n7 = some r := h
  unfold Qib at h
  rintro e σ ⟨rfl, rfl⟩
  refine Qa hC [.n 9, .keep [2] []] rfl tt_ ?_
  cases h
  exact AK.done (ex_ [_] (an_ (an_ rfl tt_) (gives tt_)))
theorem Qll : ∀ (fuel : Nat) (e1 : Qf) {r : Int}, QdL fuel e1 = some r → Qc Tryz.prog 179 [.agg (Ql e1)] [] (Gives (.i .i64 r) [])
 | 0, _, _, h => by cases h
 | n + 1, e1, _, h => Qpp (QdL n) (fun _ _ h => Qll n _ h) e1 h
theorem QqL (e1 : Qf) {r : Int} (h : Qmd e1 = some r) : Qc Tryz.prog 179 [.agg (Ql e1)] [] (Gives (.i .i64 r) []) := Qll _ e1 h
def Qee (kind1 : Int) (x6 : Bool) : Option Int :=
 bif x6 then
 some 1
 else
 bif (kind1 == 5) then
 some 2
 else
 bif (kind1 == 6) then
 some 3
 else
 some (-1)
def Qef (kind1 : Int) (x4 : Bool) : Option Int :=
 bif x4 then
 some 0
 else
 bif (kind1 == 3) then
 Qee kind1 (kind1 == 3)
 else
 Qee kind1 (kind1 == 4)
def QiA (kind1 : Int) : Option Int :=
 bif (kind1 == 1) then
 Qef kind1 (kind1 == 1)
 else
 Qef kind1 (kind1 == 2)
theorem QqM (kind1 : Int) {r : Int} (h : QiA kind1 = some r) : Qc Tryz.prog 208 [.i .i64 kind1] [] (Gives (.i .i64 r) []) := by
 refine Qc.walk 14 Tryz.func208 rfl Tryz.ntmps208 rfl fun C hC => ?_
 unfold QiA at h
 refine Qa hC [.n 12] rfl tt_ ?_
 refine AK.meet (fun σ => ∃ x4 : Bool, σ = ⟨[(3, .i .i64 kind1), (4, .b x4)], []⟩ ∧ Qef kind1 x4 = some r) ?_ ?_
 ·refine Qa hC [.n 6] rfl tt_ ?_
  rcases bifE h with ⟨hc11, h⟩ | ⟨hc11, h⟩
  ·refine Qa hC [.br true, .n 1, .keep [3, 4] []] rfl ⟨tt_, hc11⟩ ?_
   exact AK.met (ex_ _ (an_ rfl h))
  ·refine Qa hC [.br false, .n 4, .keep [3, 4] []] rfl ⟨tt_, hc11⟩ ?_
   exact AK.met (ex_ _ (an_ rfl h))
 ·rintro σ ⟨x4, rfl, h⟩
  unfold Qef at h
  rcases bifE h with ⟨hc5, h⟩ | ⟨hc5, h⟩
  ·refine Qa hC [.br true, .n 8, .keep [2] []] rfl ⟨tt_, hc5⟩ ?_
   cases h
   exact AK.done (ex_ [_] (an_ (an_ rfl tt_) (gives tt_)))
  ·refine Qa hC [.br false] rfl ⟨tt_, hc5⟩ ?_
   refine AK.meet (fun σ => ∃ x6 : Bool, σ = ⟨[(3, .i .i64 kind1), (7, .b x6)], []⟩ ∧ Qee kind1 x6 = some r) ?_ ?_
   ·refine Qa hC [.n 6] rfl tt_ ?_
    rcases bifE h with ⟨hc10, h⟩ | ⟨hc10, h⟩
    ·refine Qa hC [.br true, .n 1, .keep [3, 7] []] rfl ⟨tt_, hc10⟩ ?_
     exact AK.met (ex_ _ (an_ rfl h))
    ·refine Qa hC [.br false, .n 4, .keep [3, 7] []] rfl ⟨tt_, hc10⟩ ?_
     exact AK.met (ex_ _ (an_ rfl h))
   ·rintro σ ⟨x6, rfl, h⟩
    unfold Qee at h
    rcases bifE h with ⟨hc7, h⟩ | ⟨hc7, h⟩
    ·refine Qa hC [.br true, .n 8, .keep [2] []] rfl ⟨tt_, hc7⟩ ?_
     cases h
     exact AK.done (ex_ [_] (an_ (an_ rfl tt_) (gives tt_)))
    ·refine Qa hC [.br false, .n 6] rfl ⟨tt_, hc7⟩ ?_
     rcases bifE h with ⟨hc8, h⟩ | ⟨hc8, h⟩
     ·refine Qa hC [.br true, .n 8, .keep [2] []] rfl ⟨tt_, hc8⟩ ?_
      cases h
      exact AK.done (ex_ [_] (an_ (an_ rfl tt_) (gives tt_)))
     ·refine Qa hC [.br false, .n 6] rfl ⟨tt_, hc8⟩ ?_
      rcases bifE h with ⟨hc9, h⟩ | ⟨hc9, h⟩
      ·refine Qa hC [.br true, .n 8, .keep [2] []] rfl ⟨tt_, hc9⟩ ?_
       cases h
       exact AK.done (ex_ [_] (an_ (an_ rfl tt_) (gives tt_)))
      ·refine Qa hC [.br false, .n 9, .keep [2] []] rfl ⟨tt_, hc9⟩ ?_
       cases h
       exact AK.done (ex_ [_] (an_ (an_ rfl tt_) (gives tt_)))
def QhN (op1 : Int) : Option Bool :=
 some ((decide (1 ≤ op1)) && (decide (op1 ≤ 11)))
theorem Qp7 (op1 : Int) {r : Bool} (h : QhN op1 = some r) : Qc Tryz.prog 209 [.i .i64 op1] [] (Gives (.b r) []) := by
 refine Qc.walk 9 Tryz.func209 rfl Tryz.ntmps209 rfl fun C hC => ?_
 unfold QhN at h
 refine Qa hC [.n 6] rfl tt_ ?_
 refine AK.meetX (fun σ => σ = ⟨[(2, .b ((decide (1 ≤ op1)) && (decide (op1 ≤ 11))))], []⟩) ?_ ?_
 ·refine Qa hC [.n 4] rfl tt_ ?_
  rcases QJ (decide (1 ≤ op1)) with hc4 | hc4
  ·refine Qa hC [.say 5 (.b true), .n 5, .say 2 (.b ((decide (1 ≤ op1)) && (decide (op1 ≤ 11)))), .keep [2] []] rfl ⟨⟨tt_, (congrArg V.b hc4)⟩, (congrArg V.b (andT hc4 rfl))⟩ ?_
   exact AK.met rfl
  ·refine Qa hC [.say 5 (.b false), .n 5, .say 2 (.b ((decide (1 ≤ op1)) && (decide (op1 ≤ 11)))), .keep [2] []] rfl ⟨⟨tt_, (congrArg V.b hc4)⟩, (congrArg V.b (andF hc4 rfl))⟩ ?_
   exact AK.met rfl
 ·rintro σ rfl
  refine Qa hC [.n 2, .keep [2] []] rfl tt_ ?_
  cases h
  exact AK.done (ex_ [_] (an_ (an_ rfl tt_) (gives tt_)))
def Qic (rec_expr_parts : Qf → Int → Option Bool) (k1 : Qf) (v2 : Int) : Option Bool :=
 (rec_expr_parts k1 v2).bind fun x4 =>
 some (!x4)
theorem QoN (rec_expr_parts : Qf → Int → Option Bool) (hrec_expr_parts : ∀ (e1 : Qf) (vars2 : Int) {r : Bool}, rec_expr_parts e1 vars2 = some r → Qc Tryz.prog 180 [.agg (Ql e1), .i .i64 vars2] [] (Gives (.b r) [])) (k1 : Qf) (v2 : Int) {r : Bool} (h : Qic rec_expr_parts k1 v2 = some r) : Qc Tryz.prog 211 [.agg (Ql k1), .loc 200000 0 0] [(200000, .var (Qe v2))] (Gives (.b r) [(200000, .var (Qe v2))]) := by
 refine Qc.walk 8 Tryz.func211 rfl Tryz.ntmps211 rfl fun C hC => ?_
 unfold Qic at h
 obtain ⟨x4, hx4, h⟩ := Qb h
 refine Qa hC [.n 8, .v .no [] (.agg (Ql k1)), .n 1, .o (.c false [.d, .d] (.b x4)), .n 5, .keep [3] [200000]] rfl ⟨⟨tt_, rfl⟩, (hrec_expr_parts _ _ hx4)⟩ ?_
 cases h
 exact AK.done (ex_ [_] (an_ (an_ rfl tt_) (gives ⟨rfl, tt_⟩)))
def QQ (s1 : (List Qf)) (rec_expr_parts : Qf → Int → Option Bool) (v2 : Int) (x5 : Int) : Option (Int ⊕ (Int ⊕ Unit)) :=
 bif (decide (x5 < (s1.length : Int))) then
 (idx s1 x5).bind fun e9 =>
 (Qic rec_expr_parts e9 v2).bind fun x10 =>
 bif x10 then
 some (.inr (.inl x5))
 else
 some (.inl (w64 (x5 + 1)))
 else
 some (.inr (.inr ()))
def Qbf (x7 : Int) : Option Int :=
 some x7
def Qbg : Option Int :=
 some (-1)
def QaN (rec_expr_parts : Qf → Int → Option Bool) (s1 : (List Qf)) (v2 : Int) : Option Int :=
 (QE (fun st => QQ s1 rec_expr_parts v2 st) 0).bind (Sum.elim (fun q => Qbf q) (fun q => Qbg))
theorem QgX (rec_expr_parts : Qf → Int → Option Bool) (hrec_expr_parts : ∀ (e1 : Qf) (vars2 : Int) {r : Bool}, rec_expr_parts e1 vars2 = some r → Qc Tryz.prog 180 [.agg (Ql e1), .i .i64 vars2] [] (Gives (.b r) [])) (s1 : (List Qf)) (v2 : Int) {r : Int} (h : QaN rec_expr_parts s1 v2 = some r) : Qc Tryz.prog 239 [.sl 3 (QaF s1), .clo (.func 211) [] [.loc 200000 0 0]] [(200000, .var (Qe v2))] (Gives (.i .i64 r) [(200000, .var (Qe v2))]) := by
 refine Qc.walk 19 Tryz.func239 rfl Tryz.ntmps239 rfl fun C hC => ?_
 unfold QaN at h
 refine Qa hC [.n 9, .o (.ln s1.length), .n 4, .keep [0, 1, 7, 8] [200000]] rfl ⟨tt_, Qh9 _⟩ ?_
 obtain ⟨o12, hl12, h⟩ := Qb h
 refine AK.loop (body := (fun st => QQ s1 rec_expr_parts v2 st)) (fun st σ => σ = ⟨[(0, .sl 3 (QaF s1)), (1, .clo (.func 211) [] [.loc 200000 0 0]), (7, .i .i64 (s1.length : Int)), (8, .i .i64 st)], [(200000, .var (Qe v2))]⟩) (Sum.elim (fun q e σ => e = .ret ∧ σ = ⟨[(4, .i .i64 q)], [(200000, .var (Qe v2))]⟩) (fun q e σ => e = .exit 0 ∧ σ = ⟨[], [(200000, .var (Qe v2))]⟩)) hl12 rfl ?_ ?_
 ·rintro x5 o σ rfl h
  replace h : QQ s1 rec_expr_parts v2 x5 = some o := h
  unfold QQ at h
  refine Qa hC [.n 6] rfl tt_ ?_
  rcases bifE h with ⟨hc8, h⟩ | ⟨hc8, h⟩
  ·obtain ⟨e9, he9, h⟩ := Qb h
   obtain ⟨x10, hx10, h⟩ := Qb h
   refine Qa hC [.br true, .n 15, .o (.row (Ql e9)), .v .no [] (.agg (Ql e9)), .cm (.clo) [(200000, 200000)] [(200000, 200000)] [] [.d, .d] [(200000, .var (Qe v2))] (.b x10), .n 2] rfl ⟨⟨⟨⟨tt_, hc8⟩, (Qdc he9)⟩, rfl⟩, (QoN rec_expr_parts hrec_expr_parts _ _ hx10)⟩ ?_
   rcases bifE h with ⟨hc11, h⟩ | ⟨hc11, h⟩
   ·refine Qa hC [.br true, .n 9, .keep [4] [200000]] rfl ⟨tt_, hc11⟩ ?_
    cases h
    exact rndR rfl (an_ rfl rfl)
   ·refine Qa hC [.br false, .n 7, .keep [0, 1, 7, 8] [200000]] rfl ⟨tt_, hc11⟩ ?_
    cases h
    exact rndN rfl rfl
  ·refine Qa hC [.br false, .n 2, .keep [] [200000]] rfl ⟨tt_, hc8⟩ ?_
   cases h
   exact rndX rfl (an_ rfl rfl)
 ·rcases o12 with (x7 | _)
  ·replace h : Qbf x7 = some r := h
   unfold Qbf at h
   rintro e σ ⟨rfl, rfl⟩
   refine Qa hC [.n 2, .keep [4] [200000]] rfl tt_ ?_
   cases h
   exact AK.done (ex_ [_] (an_ (an_ rfl tt_) (gives ⟨rfl, tt_⟩)))
  ·replace h : Qbg = some r := h
   unfold Qbg at h
   rintro e σ ⟨rfl, rfl⟩
   refine Qa hC [.n 8, .keep [4] [200000]] rfl tt_ ?_
   cases h
   exact AK.done (ex_ [_] (an_ (an_ rfl tt_) (gives ⟨rfl, tt_⟩)))
def Q6 (rec_expr_parts : Qf → Int → Option Bool) (s1 : (List Qf)) (v2 : Int) : Option Bool :=
 (QaN rec_expr_parts s1 v2).bind fun x4 =>
 some (decide (0 ≤ x4))
theorem Qf9 (rec_expr_parts : Qf → Int → Option Bool) (hrec_expr_parts : ∀ (e1 : Qf) (vars2 : Int) {r : Bool}, rec_expr_parts e1 vars2 = some r → Qc Tryz.prog 180 [.agg (Ql e1), .i .i64 vars2] [] (Gives (.b r) [])) (s1 : (List Qf)) (v2 : Int) {r : Bool} (h : Q6 rec_expr_parts s1 v2 = some r) : Qc Tryz.prog 210 [.sl 3 (QaF s1), .clo (.func 211) [] [.loc 200000 0 0]] [(200000, .var (Qe v2))] (Gives (.b r) [(200000, .var (Qe v2))]) := by
 refine Qc.walk 9 Tryz.func210 rfl Tryz.ntmps210 rfl fun C hC => ?_
 unfold Q6 at h
 obtain ⟨x4, hx4, h⟩ := Qb h
 refine Qa hC [.n 9, .cm (.fn) [(200000, 200000)] [(200000, 200000)] [] [.d, .d] [(200000, .var (Qe v2))] (.i .i64 x4), .n 5, .keep [4] [200000]] rfl ⟨tt_, (QgX rec_expr_parts hrec_expr_parts _ _ hx4)⟩ ?_
 cases h
 exact AK.done (ex_ [_] (an_ (an_ rfl tt_) (gives ⟨rfl, tt_⟩)))
def Qjt (e1 : Qf) : Option Bool :=
 bif (e1.Kind == 5) then
 (QhN e1.Num).bind fun x14 =>
 some (!x14)
 else
 some false
def Qfi (rec_expr_parts : Qf → Int → Option Bool) (e1 : Qf) (vars2 : Int) (x11 : Bool) : Option Bool :=
 bif x11 then
 some false
 else
 (Q6 rec_expr_parts e1.Kids vars2).bind fun x16 =>
 some (!x16)
def Qid (rec_expr_parts : Qf → Int → Option Bool) (e1 : Qf) (vars2 : Int) : Option Bool :=
 (QiA e1.Kind).bind fun x5 =>
 bif ((e1.Kids.length : Int) != x5) then
 some false
 else
 bif ((e1.Kind == 2) && ((decide (e1.Num < 0)) || (decide (vars2 ≤ e1.Num)))) then
 some false
 else
 (Qjt e1).bind (fun x11 => Qfi rec_expr_parts e1 vars2 x11)
def Qc4 : Nat → Qf → Int → Option Bool
 | 0, _, _ => none
 | n + 1, e1, vars2 => Qid (Qc4 n) e1 vars2
def Qlm (e1 : Qf) (vars2 : Int) : Option Bool := Qc4 (SizeOf.sizeOf e1) e1 vars2
theorem QoO (rec_expr_parts : Qf → Int → Option Bool) (hrec_expr_parts : ∀ (e1 : Qf) (vars2 : Int) {r : Bool}, rec_expr_parts e1 vars2 = some r → Qc Tryz.prog 180 [.agg (Ql e1), .i .i64 vars2] [] (Gives (.b r) [])) (e1 : Qf) (vars2 : Int) {r : Bool} (h : Qid rec_expr_parts e1 vars2 = some r) : Qc Tryz.prog 180 [.agg (Ql e1), .i .i64 vars2] [] (Gives (.b r) []) := by
 refine Qc.walk 43 Tryz.func180 rfl Tryz.ntmps180 rfl fun C hC => ?_
 unfold Qid at h
 obtain ⟨x5, hx5, h⟩ := Qb h
 refine Qa hC [.n 10, .keep [2, 3] [2, 3]] rfl tt_ ?_
 refine AK.draw2 Qo hC mixed [.a .no none false, .a .no none false, .a (.ln e1.Kids.length) none false, .a .no none false, .a .no none false, .a (.c false [.d] (.i .i64 x5)) none false, .a .no none false, .a .no none false] [] [] [2, 3, 5] [2, 3] rfl rfl rfl ⟨⟨tt_, Qh9 _⟩, (QqM _ hx5)⟩ rfl (by kernel_rfl) rfl rfl rfl ?_
 refine Qa hC [.n 1] rfl tt_ ?_
 rcases bifE h with ⟨hc6, h⟩ | ⟨hc6, h⟩
 ·refine Qa hC [.br true, .n 8, .keep [4] []] rfl ⟨tt_, hc6⟩ ?_
  cases h
  exact AK.done (ex_ [_] (an_ (an_ rfl tt_) (gives tt_)))
 ·refine Qa hC [.br false, .n 1] rfl ⟨tt_, hc6⟩ ?_
  refine AK.meetX (fun σ => σ = ⟨[(2, .loc 2 0 0), (3, .loc 3 0 0), (13, .b ((e1.Kind == 2) && ((decide (e1.Num < 0)) || (decide (vars2 ≤ e1.Num)))))], [(2, .var (Ql e1)), (3, .var (Qe vars2))]⟩) ?_ ?_
  ·refine Qa hC [.n 5] rfl tt_ ?_
   rcases QJ (e1.Kind == 2) with hc8 | hc8
   ·refine Qa hC [.say 17 (.b true), .n 4] rfl ⟨tt_, (congrArg V.b hc8)⟩ ?_
    rcases QJ (decide (e1.Num < 0)) with hc9 | hc9
    ·refine Qa hC [.say 21 (.b true), .n 8, .say 13 (.b ((e1.Kind == 2) && ((decide (e1.Num < 0)) || (decide (vars2 ≤ e1.Num))))), .keep [2, 3, 13] [2, 3]] rfl ⟨⟨tt_, (congrArg V.b hc9)⟩, (congrArg V.b (andT hc8 (orT hc9 rfl)))⟩ ?_
     exact AK.met rfl
    ·refine Qa hC [.say 21 (.b false), .n 8, .say 13 (.b ((e1.Kind == 2) && ((decide (e1.Num < 0)) || (decide (vars2 ≤ e1.Num))))), .keep [2, 3, 13] [2, 3]] rfl ⟨⟨tt_, (congrArg V.b hc9)⟩, (congrArg V.b (andT hc8 (orF hc9 rfl)))⟩ ?_
     exact AK.met rfl
   ·refine Qa hC [.say 17 (.b false), .n 12, .say 13 (.b ((e1.Kind == 2) && ((decide (e1.Num < 0)) || (decide (vars2 ≤ e1.Num))))), .keep [2, 3, 13] [2, 3]] rfl ⟨⟨tt_, (congrArg V.b hc8)⟩, (congrArg V.b (andF hc8 rfl))⟩ ?_
    exact AK.met rfl
  ·rintro σ rfl
   refine Qa hC [.n 1] rfl tt_ ?_
   rcases bifE h with ⟨hc10, h⟩ | ⟨hc10, h⟩
   ·refine Qa hC [.br true, .n 8, .keep [4] []] rfl ⟨tt_, hc10⟩ ?_
    cases h
    exact AK.done (ex_ [_] (an_ (an_ rfl tt_) (gives tt_)))
   ·refine Qa hC [.br false, .n 1] rfl ⟨tt_, hc10⟩ ?_
    obtain ⟨x11, hv12, h⟩ := Qb h
    replace h : Qfi rec_expr_parts e1 vars2 x11 = some r := h
    refine AK.meetX (fun σ => σ = ⟨[(2, .loc 2 0 0), (3, .loc 3 0 0), (28, .b x11)], [(2, .var (Ql e1)), (3, .var (Qe vars2))]⟩) ?_ ?_
    ·replace h := hv12
     unfold Qjt at h
     refine Qa hC [.n 5] rfl tt_ ?_
     rcases bifE h with ⟨hc13, h⟩ | ⟨hc13, h⟩
     ·obtain ⟨x14, hx14, h⟩ := Qb h
      refine Qa hC [.say 32 (.b true), .n 2, .o (.c false [.d] (.b x14)), .n 4, .keep [2, 3, 28] [2, 3]] rfl ⟨⟨tt_, (congrArg V.b hc13)⟩, (Qp7 _ hx14)⟩ ?_
      cases h
      exact AK.met rfl
     ·refine Qa hC [.say 32 (.b false), .n 7, .keep [2, 3, 28] [2, 3]] rfl ⟨tt_, (congrArg V.b hc13)⟩ ?_
      cases h
      exact AK.met rfl
    ·rintro σ rfl
     replace h : Qfi rec_expr_parts e1 vars2 x11 = some r := h
     unfold Qfi at h
     refine Qa hC [.n 1] rfl tt_ ?_
     rcases bifE h with ⟨hc15, h⟩ | ⟨hc15, h⟩
     ·refine Qa hC [.br true, .n 8, .keep [4] []] rfl ⟨tt_, hc15⟩ ?_
      cases h
      exact AK.done (ex_ [_] (an_ (an_ rfl tt_) (gives tt_)))
     ·obtain ⟨x16, hx16, h⟩ := Qb h
      refine Qa hC [.br false, .n 8, .cm (.fn) [(200000, 3)] [(3, 200000)] [] [.d, .d] [(200000, .var (Qe vars2))] (.b x16), .n 5, .keep [4] []] rfl ⟨⟨tt_, hc15⟩, (Qf9 rec_expr_parts hrec_expr_parts _ _ hx16)⟩ ?_
      cases h
      exact AK.done (ex_ [_] (an_ (an_ rfl tt_) (gives tt_)))
theorem QkV : ∀ (fuel : Nat) (e1 : Qf) (vars2 : Int) {r : Bool}, Qc4 fuel e1 vars2 = some r → Qc Tryz.prog 180 [.agg (Ql e1), .i .i64 vars2] [] (Gives (.b r) [])
 | 0, _, _, _, h => by cases h
 | n + 1, e1, vars2, _, h => QoO (Qc4 n) (fun _ _ _ h => QkV n _ _ h) e1 vars2 h
theorem Qp8 (e1 : Qf) (vars2 : Int) {r : Bool} (h : Qlm e1 vars2 = some r) : Qc Tryz.prog 180 [.agg (Ql e1), .i .i64 vars2] [] (Gives (.b r) []) := QkV _ e1 vars2 h
def Qju (e1 : Qf) (vars2 : Int) : Option Bool :=
 (Qlk e1).bind fun x6 =>
 bif (decide (x6 ≤ 40)) then
 (Qmd e1).bind fun x8 =>
 bif (decide (x8 ≤ 400)) then
 (Qlm e1 vars2).bind fun x10 =>
 some x10
 else
 some false
 else
 some false
def Qhx (x4 : Bool) : Option Bool :=
 some x4
def Qey (e1 : Qf) (vars2 : Int) : Option Bool :=
 (Qju e1 vars2).bind (fun x4 => Qhx x4)
theorem Qjv (e1 : Qf) (vars2 : Int) {r : Bool} (h : Qey e1 vars2 = some r) : Qc Tryz.prog 128 [.agg (Ql e1), .i .i64 vars2] [] (Gives (.b r) []) := by
 refine Qc.walk 18 Tryz.func128 rfl Tryz.ntmps128 rfl fun C hC => ?_
 unfold Qey at h
 refine Qa hC [.n 7] rfl tt_ ?_
 obtain ⟨x4, hv5, h⟩ := Qb h
 replace h : Qhx x4 = some r := h
 refine AK.meetX (fun σ => σ = ⟨[(4, .b x4)], []⟩) ?_ ?_
 ·replace h := hv5
  unfold Qju at h
  obtain ⟨x6, hx6, h⟩ := Qb h
  refine Qa hC [.n 1, .v .no [] (.agg (Ql e1)), .o (.c false [.d] (.i .i64 x6)), .n 2] rfl ⟨⟨tt_, rfl⟩, (Qp6 _ hx6)⟩ ?_
  rcases bifE h with ⟨hc7, h⟩ | ⟨hc7, h⟩
  ·obtain ⟨x8, hx8, h⟩ := Qb h
   refine Qa hC [.say 8 (.b true), .v .no [] (.agg (Ql e1)), .o (.c false [.d] (.i .i64 x8)), .n 3] rfl ⟨⟨⟨tt_, (congrArg V.b hc7)⟩, rfl⟩, (QqL _ hx8)⟩ ?_
   rcases bifE h with ⟨hc9, h⟩ | ⟨hc9, h⟩
   ·obtain ⟨x10, hx10, h⟩ := Qb h
    refine Qa hC [.say 13 (.b true), .v .no [] (.agg (Ql e1)), .n 1, .o (.c false [.d, .d] (.b x10)), .n 3, .keep [4] []] rfl ⟨⟨⟨tt_, (congrArg V.b hc9)⟩, rfl⟩, (Qp8 _ _ hx10)⟩ ?_
    cases h
    exact AK.met rfl
   ·refine Qa hC [.say 13 (.b false), .n 6, .keep [4] []] rfl ⟨tt_, (congrArg V.b hc9)⟩ ?_
    cases h
    exact AK.met rfl
  ·refine Qa hC [.say 8 (.b false), .n 11, .keep [4] []] rfl ⟨tt_, (congrArg V.b hc7)⟩ ?_
   cases h
   exact AK.met rfl
 ·rintro σ rfl
  replace h : Qhx x4 = some r := h
  unfold Qhx at h
  refine Qa hC [.n 2, .keep [4] []] rfl tt_ ?_
  cases h
  exact AK.done (ex_ [_] (an_ (an_ rfl tt_) (gives tt_)))
def Qa9 (v1 : (List Int)) (kind2 : Int) (x10 : Bool) : Option ((List Int) ⊕ ((List Int) ⊕ ((List Int) ⊕ ((List Int) ⊕ (List Int))))) :=
 bif x10 then
 some (.inr (.inr (.inl v1)))
 else
 bif (kind2 == 5) then
 some (.inr (.inr (.inr (.inl v1))))
 else
 some (.inr (.inr (.inr (.inr v1))))
def Qbp (v1 : (List Int)) (kind2 : Int) : Option ((List Int) ⊕ ((List Int) ⊕ ((List Int) ⊕ ((List Int) ⊕ (List Int))))) :=
 bif (kind2 == 1) then
 some (.inl v1)
 else
 bif (kind2 == 2) then
 some (.inr (.inl v1))
 else
 bif (kind2 == 3) then
 Qa9 v1 kind2 (kind2 == 3)
 else
 Qa9 v1 kind2 (kind2 == 4)
theorem Qdk (v1 : (List Int)) (kind2 : Int) {r : ((List Int) ⊕ ((List Int) ⊕ ((List Int) ⊕ ((List Int) ⊕ (List Int)))))} (h : Qbp v1 kind2 = some r) : Qc Tryz.prog 202 [.sl 1 (v1.map Qe), .i .i64 kind2] [] ((Sum.elim (fun q => (Gives (.clo (.func 230) [.sl 1 (q.map Qe)] []) [])) (Sum.elim (fun q => (Gives (.clo (.func 231) [.sl 1 (q.map Qe)] []) [])) (Sum.elim (fun q => (Gives (.clo (.func 232) [.sl 1 (q.map Qe)] []) [])) (Sum.elim (fun q => (Gives (.clo (.func 233) [.sl 1 (q.map Qe)] []) [])) (fun q => (Gives (.clo (.func 234) [.sl 1 (q.map Qe)] []) [])))))) r) := by
 refine Qc.walk 25 Tryz.func202 rfl Tryz.ntmps202 rfl fun C hC => ?_
 unfold Qbp at h
 refine Qa hC [.n 18] rfl tt_ ?_
 rcases bifE h with ⟨hc8, h⟩ | ⟨hc8, h⟩
 ·refine Qa hC [.br true, .n 10, .keep [4] []] rfl ⟨tt_, hc8⟩ ?_
  cases h
  exact AK.done (ex_ [_] (an_ (an_ rfl tt_) (gives tt_)))
 ·refine Qa hC [.br false, .n 6] rfl ⟨tt_, hc8⟩ ?_
  rcases bifE h with ⟨hc9, h⟩ | ⟨hc9, h⟩
  ·refine Qa hC [.br true, .n 10, .keep [4] []] rfl ⟨tt_, hc9⟩ ?_
   cases h
   exact AK.done (ex_ [_] (an_ (an_ rfl tt_) (gives tt_)))
  ·refine Qa hC [.br false] rfl ⟨tt_, hc9⟩ ?_
   refine AK.meet (fun σ => ∃ x10 : Bool, σ = ⟨[(0, .sl 1 (v1.map Qe)), (5, .i .i64 kind2), (14, .b x10)], []⟩ ∧ Qa9 v1 kind2 x10 = some r) ?_ ?_
   ·refine Qa hC [.n 6] rfl tt_ ?_
    rcases bifE h with ⟨hc13, h⟩ | ⟨hc13, h⟩
    ·refine Qa hC [.br true, .n 1, .keep [0, 5, 14] []] rfl ⟨tt_, hc13⟩ ?_
     exact AK.met (ex_ _ (an_ rfl h))
    ·refine Qa hC [.br false, .n 4, .keep [0, 5, 14] []] rfl ⟨tt_, hc13⟩ ?_
     exact AK.met (ex_ _ (an_ rfl h))
   ·rintro σ ⟨x10, rfl, h⟩
    unfold Qa9 at h
    rcases bifE h with ⟨hc11, h⟩ | ⟨hc11, h⟩
    ·refine Qa hC [.br true, .n 10, .keep [4] []] rfl ⟨tt_, hc11⟩ ?_
     cases h
     exact AK.done (ex_ [_] (an_ (an_ rfl tt_) (gives tt_)))
    ·refine Qa hC [.br false, .n 6] rfl ⟨tt_, hc11⟩ ?_
     rcases bifE h with ⟨hc12, h⟩ | ⟨hc12, h⟩
     ·refine Qa hC [.br true, .n 10, .keep [4] []] rfl ⟨tt_, hc12⟩ ?_
      cases h
      exact AK.done (ex_ [_] (an_ (an_ rfl tt_) (gives tt_)))
     ·refine Qa hC [.br false, .n 11, .keep [4] []] rfl ⟨tt_, hc12⟩ ?_
      cases h
      exact AK.done (ex_ [_] (an_ (an_ rfl tt_) (gives tt_)))
def Qin (v1 : (List Int)) (e2 : Qf) : Option (Int × Int) :=
 some (e2.Num, 0)
theorem Qm7 (v1 : (List Int)) (e2 : Qf) {r : (Int × Int)} (h : Qin v1 e2 = some r) : Qc Tryz.prog 230 [.sl 1 (v1.map Qe), .agg (Ql e2)] [] (Gives (.tup [.i .i64 r.1, .i .i64 r.2]) []) := by
 refine Qc.walk 8 Tryz.func230 rfl Tryz.ntmps230 rfl fun C hC => ?_
 unfold Qin at h
 refine Qa hC [.n 16, .keep [4, 5] []] rfl tt_ ?_
 cases h
 exact AK.done (ex_ [_, _] (an_ (an_ rfl (an_ rfl tt_)) (gives tt_)))
def QeZ (v1 : (List Int)) (e2 : Qf) : Option (Int × Int) :=
 (idx v1 e2.Num).bind fun e5 =>
 some (e5, 0)
theorem Qme (v1 : (List Int)) (e2 : Qf) {r : (Int × Int)} (h : QeZ v1 e2 = some r) : Qc Tryz.prog 231 [.sl 1 (v1.map Qe), .agg (Ql e2)] [] (Gives (.tup [.i .i64 r.1, .i .i64 r.2]) []) := by
 refine Qc.walk 11 Tryz.func231 rfl Tryz.ntmps231 rfl fun C hC => ?_
 unfold QeZ at h
 obtain ⟨e5, he5, h⟩ := Qb h
 refine Qa hC [.n 12, .o (.row (Qe e5)), .n 6, .keep [4, 5] []] rfl ⟨tt_, (idxM he5)⟩ ?_
 cases h
 exact AK.done (ex_ [_, _] (an_ (an_ rfl (an_ rfl tt_)) (gives tt_)))
def Qjw (a1 : Int) (b2 : Int) : Option (Int × Int) :=
 bif (((decide (a1 < 0)) == (decide (b2 < 0))) && ((decide ((w64 (a1 + b2)) < 0)) != (decide (a1 < 0)))) then
 some (0, 6)
 else
 some ((w64 (a1 + b2)), 0)
theorem Qri (a1 : Int) (b2 : Int) {r : (Int × Int)} (h : Qjw a1 b2 = some r) : Qc Tryz.prog 253 [.i .i64 a1, .i .i64 b2] [] (Gives (.tup [.i .i64 r.1, .i .i64 r.2]) []) := by
 refine Qc.walk 23 Tryz.func253 rfl Tryz.ntmps253 rfl fun C hC => ?_
 unfold Qjw at h
 refine Qa hC [.n 16] rfl tt_ ?_
 refine AK.meetX (fun σ => σ = ⟨[(6, .i .i64 (w64 (a1 + b2))), (21, .b (((decide (a1 < 0)) == (decide (b2 < 0))) && ((decide ((w64 (a1 + b2)) < 0)) != (decide (a1 < 0)))))], []⟩) ?_ ?_
 ·refine Qa hC [.n 7] rfl tt_ ?_
  rcases QJ ((decide (a1 < 0)) == (decide (b2 < 0))) with hc8 | hc8
  ·refine Qa hC [.say 15 (.b true), .n 7, .say 21 (.b (((decide (a1 < 0)) == (decide (b2 < 0))) && ((decide ((w64 (a1 + b2)) < 0)) != (decide (a1 < 0))))), .keep [6, 21] []] rfl ⟨⟨tt_, (congrArg V.b hc8)⟩, (congrArg V.b (andT hc8 rfl))⟩ ?_
   exact AK.met rfl
  ·refine Qa hC [.say 15 (.b false), .n 7, .say 21 (.b (((decide (a1 < 0)) == (decide (b2 < 0))) && ((decide ((w64 (a1 + b2)) < 0)) != (decide (a1 < 0))))), .keep [6, 21] []] rfl ⟨⟨tt_, (congrArg V.b hc8)⟩, (congrArg V.b (andF hc8 rfl))⟩ ?_
   exact AK.met rfl
 ·rintro σ rfl
  refine Qa hC [.n 1] rfl tt_ ?_
  rcases bifE h with ⟨hc9, h⟩ | ⟨hc9, h⟩
  ·refine Qa hC [.br true, .n 8, .keep [4, 5] []] rfl ⟨tt_, hc9⟩ ?_
   cases h
   exact AK.done (ex_ [_, _] (an_ (an_ rfl (an_ rfl tt_)) (gives tt_)))
  ·refine Qa hC [.br false, .n 10, .keep [4, 5] []] rfl ⟨tt_, hc9⟩ ?_
   cases h
   exact AK.done (ex_ [_, _] (an_ (an_ rfl (an_ rfl tt_)) (gives tt_)))
def QdT (a1 : Int) (b2 : Int) : Option (Int × Int) :=
 bif (((decide (a1 < 0)) != (decide (b2 < 0))) && ((decide ((w64 (a1 - b2)) < 0)) != (decide (a1 < 0)))) then
 some (0, 6)
 else
 some ((w64 (a1 - b2)), 0)
theorem Qm8 (a1 : Int) (b2 : Int) {r : (Int × Int)} (h : QdT a1 b2 = some r) : Qc Tryz.prog 254 [.i .i64 a1, .i .i64 b2] [] (Gives (.tup [.i .i64 r.1, .i .i64 r.2]) []) := by
 refine Qc.walk 23 Tryz.func254 rfl Tryz.ntmps254 rfl fun C hC => ?_
 unfold QdT at h
 refine Qa hC [.n 16] rfl tt_ ?_
 refine AK.meetX (fun σ => σ = ⟨[(6, .i .i64 (w64 (a1 - b2))), (21, .b (((decide (a1 < 0)) != (decide (b2 < 0))) && ((decide ((w64 (a1 - b2)) < 0)) != (decide (a1 < 0)))))], []⟩) ?_ ?_
 ·refine Qa hC [.n 7] rfl tt_ ?_
  rcases QJ ((decide (a1 < 0)) != (decide (b2 < 0))) with hc8 | hc8
  ·refine Qa hC [.say 15 (.b true), .n 7, .say 21 (.b (((decide (a1 < 0)) != (decide (b2 < 0))) && ((decide ((w64 (a1 - b2)) < 0)) != (decide (a1 < 0))))), .keep [6, 21] []] rfl ⟨⟨tt_, (congrArg V.b hc8)⟩, (congrArg V.b (andT hc8 rfl))⟩ ?_
   exact AK.met rfl
  ·refine Qa hC [.say 15 (.b false), .n 7, .say 21 (.b (((decide (a1 < 0)) != (decide (b2 < 0))) && ((decide ((w64 (a1 - b2)) < 0)) != (decide (a1 < 0))))), .keep [6, 21] []] rfl ⟨⟨tt_, (congrArg V.b hc8)⟩, (congrArg V.b (andF hc8 rfl))⟩ ?_
   exact AK.met rfl
 ·rintro σ rfl
  refine Qa hC [.n 1] rfl tt_ ?_
  rcases bifE h with ⟨hc9, h⟩ | ⟨hc9, h⟩
  ·refine Qa hC [.br true, .n 8, .keep [4, 5] []] rfl ⟨tt_, hc9⟩ ?_
   cases h
   exact AK.done (ex_ [_, _] (an_ (an_ rfl (an_ rfl tt_)) (gives tt_)))
  ·refine Qa hC [.br false, .n 10, .keep [4, 5] []] rfl ⟨tt_, hc9⟩ ?_
   cases h
   exact AK.done (ex_ [_, _] (an_ (an_ rfl (an_ rfl tt_)) (gives tt_)))
def Qhb (a1 : Int) : Option Int :=
 bif (decide (a1 < 0)) then
 some (IntKind.u64.wrap (0 - (IntKind.u64.wrap a1)))
 else
 some (IntKind.u64.wrap a1)
theorem Qmw (a1 : Int) {r : Int} (h : Qhb a1 = some r) : Qc Tryz.prog 260 [.i .i64 a1] [] (Gives (.i .u64 r) []) := by
 refine Qc.walk 10 Tryz.func260 rfl Tryz.ntmps260 rfl fun C hC => ?_
 unfold Qhb at h
 refine Qa hC [.n 12] rfl tt_ ?_
 rcases bifE h with ⟨hc4, h⟩ | ⟨hc4, h⟩
 ·refine Qa hC [.br true, .n 3, .o (.any (.i .u64 (IntKind.u64.wrap a1)) none), .n 6, .keep [2] []] rfl ⟨⟨tt_, hc4⟩, (fun σ h1 h2 _ => Stp.convI rfl rfl (bleN hC.n rfl) (h1 _ _ rfl) it_3 Qn1)⟩ ?_
  cases h
  exact AK.done (ex_ [_] (an_ (an_ rfl tt_) (gives tt_)))
 ·refine Qa hC [.br false, .n 5, .o (.any (.i .u64 (IntKind.u64.wrap a1)) none), .n 4, .keep [2] []] rfl ⟨⟨tt_, hc4⟩, (fun σ h1 h2 _ => Stp.convI rfl rfl (bleN hC.n rfl) (h1 _ _ rfl) it_3 Qn1)⟩ ?_
  cases h
  exact AK.done (ex_ [_] (an_ (an_ rfl tt_) (gives tt_)))
def QdU (p1 : Int) (y2 : Int) : Option (Int × Int) :=
 some ((IntKind.u64.wrap ((IntKind.u64.wrap ((IntKind.u64.wrap ((shrI .u64 p1 32) * (shrI .u64 y2 32))) + (shrI .u64 (IntKind.u64.wrap ((IntKind.u64.wrap ((shrI .u64 p1 32) * (andI .u64 y2 4294967295))) + (shrI .u64 (IntKind.u64.wrap ((andI .u64 p1 4294967295) * (andI .u64 y2 4294967295))) 32))) 32))) + (shrI .u64 (IntKind.u64.wrap ((andI .u64 (IntKind.u64.wrap ((IntKind.u64.wrap ((shrI .u64 p1 32) * (andI .u64 y2 4294967295))) + (shrI .u64 (IntKind.u64.wrap ((andI .u64 p1 4294967295) * (andI .u64 y2 4294967295))) 32))) 4294967295) + (IntKind.u64.wrap ((andI .u64 p1 4294967295) * (shrI .u64 y2 32))))) 32))), (IntKind.u64.wrap (p1 * y2)))
theorem Qm9 (p1 : Int) (y2 : Int) {r : (Int × Int)} (h : QdU p1 y2 = some r) : Qc Tryz.prog 259 [.i .u64 p1, .i .u64 y2] [] (Gives (.tup [.i .u64 r.1, .i .u64 r.2]) []) := by
 refine Qc.walk 51 Tryz.func259 rfl Tryz.ntmps259 rfl fun C hC => ?_
 unfold QdU at h
 refine Qa hC [.n 9, .o (.any (.i .u64 (andI .u64 p1 4294967295)) none), .n 6, .o (.any (.i .u64 (shrI .u64 p1 32)) none), .n 6, .o (.any (.i .u64 (andI .u64 y2 4294967295)) none), .n 6, .o (.any (.i .u64 (shrI .u64 y2 32)) none), .n 17, .o (.any (.i .u64 (shrI .u64 (IntKind.u64.wrap ((andI .u64 p1 4294967295) * (andI .u64 y2 4294967295))) 32)) none), .n 7, .o (.any (.i .u64 (andI .u64 (IntKind.u64.wrap ((IntKind.u64.wrap ((shrI .u64 p1 32) * (andI .u64 y2 4294967295))) + (shrI .u64 (IntKind.u64.wrap ((andI .u64 p1 4294967295) * (andI .u64 y2 4294967295))) 32))) 4294967295)) none), .n 6, .o (.any (.i .u64 (shrI .u64 (IntKind.u64.wrap ((IntKind.u64.wrap ((shrI .u64 p1 32) * (andI .u64 y2 4294967295))) + (shrI .u64 (IntKind.u64.wrap ((andI .u64 p1 4294967295) * (andI .u64 y2 4294967295))) 32))) 32)) none), .n 21, .o (.any (.i .u64 (shrI .u64 (IntKind.u64.wrap ((andI .u64 (IntKind.u64.wrap ((IntKind.u64.wrap ((shrI .u64 p1 32) * (andI .u64 y2 4294967295))) + (shrI .u64 (IntKind.u64.wrap ((andI .u64 p1 4294967295) * (andI .u64 y2 4294967295))) 32))) 4294967295) + (IntKind.u64.wrap ((andI .u64 p1 4294967295) * (shrI .u64 y2 32))))) 32)) none), .n 13, .keep [4, 5] []] rfl ⟨⟨⟨⟨⟨⟨⟨⟨tt_, (fun σ h1 h2 _ => Stp.andB rfl rfl (bleN hC.n rfl) (h1 _ _ rfl) (h1 _ _ rfl))⟩, (fun σ h1 h2 _ => Stp.shr rfl rfl (bleN hC.n rfl) (h1 _ _ rfl) (h1 _ _ rfl) (by decide))⟩, (fun σ h1 h2 _ => Stp.andB rfl rfl (bleN hC.n rfl) (h1 _ _ rfl) (h1 _ _ rfl))⟩, (fun σ h1 h2 _ => Stp.shr rfl rfl (bleN hC.n rfl) (h1 _ _ rfl) (h1 _ _ rfl) (by decide))⟩, (fun σ h1 h2 _ => Stp.shr rfl rfl (bleN hC.n rfl) (h1 _ _ rfl) (h1 _ _ rfl) (by decide))⟩, (fun σ h1 h2 _ => Stp.andB rfl rfl (bleN hC.n rfl) (h1 _ _ rfl) (h1 _ _ rfl))⟩, (fun σ h1 h2 _ => Stp.shr rfl rfl (bleN hC.n rfl) (h1 _ _ rfl) (h1 _ _ rfl) (by decide))⟩, (fun σ h1 h2 _ => Stp.shr rfl rfl (bleN hC.n rfl) (h1 _ _ rfl) (h1 _ _ rfl) (by decide))⟩ ?_
 cases h
 exact AK.done (ex_ [_, _] (an_ (an_ rfl (an_ rfl tt_)) (gives tt_)))
def QcK (x9 : (Int × Int)) (a1 : Int) (b2 : Int) (most10 : Int) : Option (Int × Int) :=
 bif ((decide (0 < x9.1)) || (decide (most10 < x9.2))) then
 some (0, 6)
 else
 some ((w64 (a1 * b2)), 0)
def Qga (a1 : Int) (b2 : Int) : Option (Int × Int) :=
 (Qhb a1).bind fun x7 =>
 (Qhb b2).bind fun x8 =>
 (QdU x7 x8).bind fun x9 =>
 bif ((decide (a1 < 0)) != (decide (b2 < 0))) then
 QcK x9 a1 b2 (IntKind.u64.wrap (9223372036854775807 + 1))
 else
 QcK x9 a1 b2 9223372036854775807
theorem QoP (a1 : Int) (b2 : Int) {r : (Int × Int)} (h : Qga a1 b2 = some r) : Qc Tryz.prog 255 [.i .i64 a1, .i .i64 b2] [] (Gives (.tup [.i .i64 r.1, .i .i64 r.2]) []) := by
 refine Qc.walk 34 Tryz.func255 rfl Tryz.ntmps255 rfl fun C hC => ?_
 unfold Qga at h
 obtain ⟨x7, hx7, h⟩ := Qb h
 obtain ⟨x8, hx8, h⟩ := Qb h
 obtain ⟨x9, hx9, h⟩ := Qb h
 refine Qa hC [.n 9, .o (.c false [.d] (.i .u64 x7)), .n 1, .o (.c false [.d] (.i .u64 x8)), .o (.c false [.d, .d] (.tup [.i .u64 x9.1, .i .u64 x9.2])), .n 12] rfl ⟨⟨⟨tt_, (Qmw _ hx7)⟩, (Qmw _ hx8)⟩, (Qm9 _ _ hx9)⟩ ?_
 refine AK.meet (fun σ => ∃ most10 : Int, σ = ⟨[(0, .i .i64 a1), (1, .i .i64 b2), (6, .i .u64 x9.1), (7, .i .u64 x9.2), (8, .i .u64 most10)], []⟩ ∧ QcK x9 a1 b2 most10 = some r) ?_ ?_
 ·refine Qa hC [.n 9] rfl tt_ ?_
  rcases bifE h with ⟨hc14, h⟩ | ⟨hc14, h⟩
  ·refine Qa hC [.br true, .n 5, .keep [0, 1, 6, 7, 8] []] rfl ⟨tt_, hc14⟩ ?_
   exact AK.met (ex_ _ (an_ rfl h))
  ·refine Qa hC [.br false, .n 1, .keep [0, 1, 6, 7, 8] []] rfl ⟨tt_, hc14⟩ ?_
   exact AK.met (ex_ _ (an_ rfl h))
 ·rintro σ ⟨most10, rfl, h⟩
  unfold QcK at h
  refine Qa hC [.n 2] rfl tt_ ?_
  refine AK.meetX (fun σ => σ = ⟨[(0, .i .i64 a1), (1, .i .i64 b2), (30, .b ((decide (0 < x9.1)) || (decide (most10 < x9.2))))], []⟩) ?_ ?_
  ·refine Qa hC [.n 4] rfl tt_ ?_
   rcases QJ (decide (0 < x9.1)) with hc12 | hc12
   ·refine Qa hC [.say 26 (.b true), .n 5, .say 30 (.b ((decide (0 < x9.1)) || (decide (most10 < x9.2)))), .keep [0, 1, 30] []] rfl ⟨⟨tt_, (congrArg V.b hc12)⟩, (congrArg V.b (orT hc12 rfl))⟩ ?_
    exact AK.met rfl
   ·refine Qa hC [.say 26 (.b false), .n 5, .say 30 (.b ((decide (0 < x9.1)) || (decide (most10 < x9.2)))), .keep [0, 1, 30] []] rfl ⟨⟨tt_, (congrArg V.b hc12)⟩, (congrArg V.b (orF hc12 rfl))⟩ ?_
    exact AK.met rfl
  ·rintro σ rfl
   refine Qa hC [.n 1] rfl tt_ ?_
   rcases bifE h with ⟨hc13, h⟩ | ⟨hc13, h⟩
   ·refine Qa hC [.br true, .n 8, .keep [4, 5] []] rfl ⟨tt_, hc13⟩ ?_
    cases h
    exact AK.done (ex_ [_, _] (an_ (an_ rfl (an_ rfl tt_)) (gives tt_)))
   ·refine Qa hC [.br false, .n 12, .keep [4, 5] []] rfl ⟨tt_, hc13⟩ ?_
    cases h
    exact AK.done (ex_ [_, _] (an_ (an_ rfl (an_ rfl tt_)) (gives tt_)))
def Qdy (a1 : Int) (b2 : Int) : Option (Int × Int × Int) :=
 bif (b2 == 0) then
 some (0, 0, 7)
 else
 bif ((a1 == (-9223372036854775808)) && (b2 == (-1))) then
 some (0, 0, 6)
 else
 (chk (b2 != 0)).bind fun _ =>
 (chk (b2 != 0)).bind fun _ =>
 some ((w64 (Int.tdiv a1 b2)), (Int.tmod a1 b2), 0)
theorem Qkx (a1 : Int) (b2 : Int) {r : (Int × Int × Int)} (h : Qdy a1 b2 = some r) : Qc Tryz.prog 256 [.i .i64 a1, .i .i64 b2] [] (Gives (.tup [.i .i64 r.1, .i .i64 r.2.1, .i .i64 r.2.2]) []) := by
 refine Qc.walk 23 Tryz.func256 rfl Tryz.ntmps256 rfl fun C hC => ?_
 unfold Qdy at h
 refine Qa hC [.n 16] rfl tt_ ?_
 rcases bifE h with ⟨hc9, h⟩ | ⟨hc9, h⟩
 ·refine Qa hC [.br true, .n 10, .keep [4, 5, 6] []] rfl ⟨tt_, hc9⟩ ?_
  cases h
  exact AK.done (ex_ [_, _, _] (an_ (an_ rfl (an_ rfl (an_ rfl tt_))) (gives tt_)))
 ·refine Qa hC [.br false, .n 1] rfl ⟨tt_, hc9⟩ ?_
  refine AK.meetX (fun σ => σ = ⟨[(0, .i .i64 a1), (1, .i .i64 b2), (10, .b ((a1 == (-9223372036854775808)) && (b2 == (-1))))], []⟩) ?_ ?_
  ·refine Qa hC [.n 4] rfl tt_ ?_
   rcases QJ (a1 == (-9223372036854775808)) with hc11 | hc11
   ·refine Qa hC [.say 13 (.b true), .n 5, .say 10 (.b ((a1 == (-9223372036854775808)) && (b2 == (-1)))), .keep [0, 1, 10] []] rfl ⟨⟨tt_, (congrArg V.b hc11)⟩, (congrArg V.b (andT hc11 rfl))⟩ ?_
    exact AK.met rfl
   ·refine Qa hC [.say 13 (.b false), .n 5, .say 10 (.b ((a1 == (-9223372036854775808)) && (b2 == (-1)))), .keep [0, 1, 10] []] rfl ⟨⟨tt_, (congrArg V.b hc11)⟩, (congrArg V.b (andF hc11 rfl))⟩ ?_
    exact AK.met rfl
  ·rintro σ rfl
   refine Qa hC [.n 1] rfl tt_ ?_
   rcases bifE h with ⟨hc12, h⟩ | ⟨hc12, h⟩
   ·refine Qa hC [.br true, .n 10, .keep [4, 5, 6] []] rfl ⟨tt_, hc12⟩ ?_
    cases h
    exact AK.done (ex_ [_, _, _] (an_ (an_ rfl (an_ rfl (an_ rfl tt_))) (gives tt_)))
   ·obtain ⟨_, hk13, h⟩ := Qb h
    replace hk13 := chkE hk13
    obtain ⟨_, hk14, h⟩ := Qb h
    replace hk14 := chkE hk14
    refine Qa hC [.br false, .n 4, .keep [0, 1] []] rfl ⟨tt_, hc12⟩ ?_
    refine AK.draw2 Qo hC mixed [.a .no none false, .a .no none false, .a .no none false, .a .no none false, .a .no none false, .a .no none false, .a .no none false, .a .no none false, .a .no none false] [] [] [4, 5, 6] [] rfl rfl rfl ⟨⟨tt_, (neZ hk13)⟩, (neZ hk14)⟩ rfl (by kernel_rfl) rfl rfl rfl ?_
    refine Qa hC [.n 2, .keep [4, 5, 6] []] rfl tt_ ?_
    cases h
    exact AK.done (ex_ [_, _, _] (an_ (an_ rfl (an_ rfl (an_ rfl tt_))) (gives tt_)))
def Qca (is1 : Bool) : Option (Int × Int) :=
 bif is1 then
 some (1, 0)
 else
 some (0, 0)
theorem QcN (is1 : Bool) {r : (Int × Int)} (h : Qca is1 = some r) : Qc Tryz.prog 257 [.b is1] [] (Gives (.tup [.i .i64 r.1, .i .i64 r.2]) []) := by
 refine Qc.walk 5 Tryz.func257 rfl Tryz.ntmps257 rfl fun C hC => ?_
 unfold Qca at h
 refine Qa hC [.n 12] rfl tt_ ?_
 rcases bifE h with ⟨hc5, h⟩ | ⟨hc5, h⟩
 ·refine Qa hC [.br true, .n 8, .keep [2, 3] []] rfl ⟨tt_, hc5⟩ ?_
  cases h
  exact AK.done (ex_ [_, _] (an_ (an_ rfl (an_ rfl tt_)) (gives tt_)))
 ·refine Qa hC [.br false, .n 9, .keep [2, 3] []] rfl ⟨tt_, hc5⟩ ?_
  cases h
  exact AK.done (ex_ [_, _] (an_ (an_ rfl (an_ rfl tt_)) (gives tt_)))
def Qln (a2 : Int) (b3 : Int) : Option (Int × Int) :=
 bif (a2 != 0) then
 (Qca (b3 != 0)).bind fun x31 =>
 some (x31.1, x31.2)
 else
 (Qca false).bind fun x32 =>
 some (x32.1, x32.2)
def QhO (x27 : Int) (x28 : Int) : Option (Int × Int) :=
 some (x27, x28)
def Qlo (a2 : Int) (b3 : Int) : Option (Int × Int) :=
 bif (a2 != 0) then
 (Qca true).bind fun x38 =>
 some (x38.1, x38.2)
 else
 (Qca (b3 != 0)).bind fun x39 =>
 some (x39.1, x39.2)
def QhP (x34 : Int) (x35 : Int) : Option (Int × Int) :=
 some (x34, x35)
def QgB (op1 : Int) (a2 : Int) (b3 : Int) : Option (Int × Int) :=
 bif (op1 == 1) then
 (Qjw a2 b3).bind fun x9 =>
 some (x9.1, x9.2)
 else
 bif (op1 == 2) then
 (QdT a2 b3).bind fun x11 =>
 some (x11.1, x11.2)
 else
 bif (op1 == 3) then
 (Qga a2 b3).bind fun x13 =>
 some (x13.1, x13.2)
 else
 bif (op1 == 4) then
 (Qdy a2 b3).bind fun x15 =>
 some (x15.1, x15.2.2)
 else
 bif (op1 == 5) then
 (Qdy a2 b3).bind fun x17 =>
 some (x17.2.1, x17.2.2)
 else
 bif (op1 == 6) then
 (Qca (a2 == b3)).bind fun x19 =>
 some (x19.1, x19.2)
 else
 bif (op1 == 7) then
 (Qca (a2 != b3)).bind fun x21 =>
 some (x21.1, x21.2)
 else
 bif (op1 == 8) then
 (Qca (decide (a2 < b3))).bind fun x23 =>
 some (x23.1, x23.2)
 else
 bif (op1 == 9) then
 (Qca (decide (a2 ≤ b3))).bind fun x25 =>
 some (x25.1, x25.2)
 else
 bif (op1 == 10) then
 (Qln a2 b3).bind (fun v => QhO v.1 v.2)
 else
 bif (op1 == 11) then
 (Qlo a2 b3).bind (fun v => QhP v.1 v.2)
 else
 some (0, 1)
theorem Qjx (op1 : Int) (a2 : Int) (b3 : Int) {r : (Int × Int)} (h : QgB op1 a2 b3 = some r) : Qc Tryz.prog 249 [.i .i64 op1, .i .i64 a2, .i .i64 b3] [] (Gives (.tup [.i .i64 r.1, .i .i64 r.2]) []) := by
 refine Qc.walk 112 Tryz.func249 rfl Tryz.ntmps249 rfl fun C hC => ?_
 unfold QgB at h
 refine Qa hC [.n 19] rfl tt_ ?_
 rcases bifE h with ⟨hc8, h⟩ | ⟨hc8, h⟩
 ·obtain ⟨x9, hx9, h⟩ := Qb h
  refine Qa hC [.br true, .n 4, .o (.c false [.d, .d] (.tup [.i .i64 x9.1, .i .i64 x9.2])), .n 9, .keep [6, 7] []] rfl ⟨⟨tt_, hc8⟩, (Qri _ _ hx9)⟩ ?_
  cases h
  exact AK.done (ex_ [_, _] (an_ (an_ rfl (an_ rfl tt_)) (gives tt_)))
 ·refine Qa hC [.br false, .n 6] rfl ⟨tt_, hc8⟩ ?_
  rcases bifE h with ⟨hc10, h⟩ | ⟨hc10, h⟩
  ·obtain ⟨x11, hx11, h⟩ := Qb h
   refine Qa hC [.br true, .n 4, .o (.c false [.d, .d] (.tup [.i .i64 x11.1, .i .i64 x11.2])), .n 9, .keep [6, 7] []] rfl ⟨⟨tt_, hc10⟩, (Qm8 _ _ hx11)⟩ ?_
   cases h
   exact AK.done (ex_ [_, _] (an_ (an_ rfl (an_ rfl tt_)) (gives tt_)))
  ·refine Qa hC [.br false, .n 6] rfl ⟨tt_, hc10⟩ ?_
   rcases bifE h with ⟨hc12, h⟩ | ⟨hc12, h⟩
   ·obtain ⟨x13, hx13, h⟩ := Qb h
    refine Qa hC [.br true, .n 4, .o (.c false [.d, .d] (.tup [.i .i64 x13.1, .i .i64 x13.2])), .n 9, .keep [6, 7] []] rfl ⟨⟨tt_, hc12⟩, (QoP _ _ hx13)⟩ ?_
    cases h
    exact AK.done (ex_ [_, _] (an_ (an_ rfl (an_ rfl tt_)) (gives tt_)))
   ·refine Qa hC [.br false, .n 6] rfl ⟨tt_, hc12⟩ ?_
    rcases bifE h with ⟨hc14, h⟩ | ⟨hc14, h⟩
    ·obtain ⟨x15, hx15, h⟩ := Qb h
     refine Qa hC [.br true, .n 4, .o (.c false [.d, .d] (.tup [.i .i64 x15.1, .i .i64 x15.2.1, .i .i64 x15.2.2])), .n 20, .keep [6, 7] []] rfl ⟨⟨tt_, hc14⟩, (Qkx _ _ hx15)⟩ ?_
     cases h
     exact AK.done (ex_ [_, _] (an_ (an_ rfl (an_ rfl tt_)) (gives tt_)))
    ·refine Qa hC [.br false, .n 6] rfl ⟨tt_, hc14⟩ ?_
     rcases bifE h with ⟨hc16, h⟩ | ⟨hc16, h⟩
     ·obtain ⟨x17, hx17, h⟩ := Qb h
      refine Qa hC [.br true, .n 4, .o (.c false [.d, .d] (.tup [.i .i64 x17.1, .i .i64 x17.2.1, .i .i64 x17.2.2])), .n 20, .keep [6, 7] []] rfl ⟨⟨tt_, hc16⟩, (Qkx _ _ hx17)⟩ ?_
      cases h
      exact AK.done (ex_ [_, _] (an_ (an_ rfl (an_ rfl tt_)) (gives tt_)))
     ·refine Qa hC [.br false, .n 6] rfl ⟨tt_, hc16⟩ ?_
      rcases bifE h with ⟨hc18, h⟩ | ⟨hc18, h⟩
      ·obtain ⟨x19, hx19, h⟩ := Qb h
       refine Qa hC [.br true, .n 5, .o (.c false [.d] (.tup [.i .i64 x19.1, .i .i64 x19.2])), .n 9, .keep [6, 7] []] rfl ⟨⟨tt_, hc18⟩, (QcN _ hx19)⟩ ?_
       cases h
       exact AK.done (ex_ [_, _] (an_ (an_ rfl (an_ rfl tt_)) (gives tt_)))
      ·refine Qa hC [.br false, .n 6] rfl ⟨tt_, hc18⟩ ?_
       rcases bifE h with ⟨hc20, h⟩ | ⟨hc20, h⟩
       ·obtain ⟨x21, hx21, h⟩ := Qb h
        refine Qa hC [.br true, .n 5, .o (.c false [.d] (.tup [.i .i64 x21.1, .i .i64 x21.2])), .n 9, .keep [6, 7] []] rfl ⟨⟨tt_, hc20⟩, (QcN _ hx21)⟩ ?_
        cases h
        exact AK.done (ex_ [_, _] (an_ (an_ rfl (an_ rfl tt_)) (gives tt_)))
       ·refine Qa hC [.br false, .n 6] rfl ⟨tt_, hc20⟩ ?_
        rcases bifE h with ⟨hc22, h⟩ | ⟨hc22, h⟩
        ·obtain ⟨x23, hx23, h⟩ := Qb h
         refine Qa hC [.br true, .n 5, .o (.c false [.d] (.tup [.i .i64 x23.1, .i .i64 x23.2])), .n 9, .keep [6, 7] []] rfl ⟨⟨tt_, hc22⟩, (QcN _ hx23)⟩ ?_
         cases h
         exact AK.done (ex_ [_, _] (an_ (an_ rfl (an_ rfl tt_)) (gives tt_)))
        ·refine Qa hC [.br false, .n 6] rfl ⟨tt_, hc22⟩ ?_
         rcases bifE h with ⟨hc24, h⟩ | ⟨hc24, h⟩
         ·obtain ⟨x25, hx25, h⟩ := Qb h
          refine Qa hC [.br true, .n 5, .o (.c false [.d] (.tup [.i .i64 x25.1, .i .i64 x25.2])), .n 9, .keep [6, 7] []] rfl ⟨⟨tt_, hc24⟩, (QcN _ hx25)⟩ ?_
          cases h
          exact AK.done (ex_ [_, _] (an_ (an_ rfl (an_ rfl tt_)) (gives tt_)))
         ·refine Qa hC [.br false, .n 6] rfl ⟨tt_, hc24⟩ ?_
          rcases bifE h with ⟨hc26, h⟩ | ⟨hc26, h⟩
          ·refine Qa hC [.br true, .n 1] rfl ⟨tt_, hc26⟩ ?_
           obtain ⟨v, hv29, h⟩ := Qb h
           replace h : QhO v.1 v.2 = some r := h
           refine AK.meetX (fun σ => σ = ⟨[(6, .i .i64 v.1), (7, .i .i64 v.2)], []⟩) ?_ ?_
           ·replace h := hv29
            unfold Qln at h
            refine Qa hC [.n 4] rfl tt_ ?_
            rcases bifE h with ⟨hc30, h⟩ | ⟨hc30, h⟩
            ·obtain ⟨x31, hx31, h⟩ := Qb h
             refine Qa hC [.say 94 (.b true), .n 3, .o (.c false [.d] (.tup [.i .i64 x31.1, .i .i64 x31.2])), .n 5, .keep [6, 7] []] rfl ⟨⟨tt_, (congrArg V.b hc30)⟩, (QcN _ hx31)⟩ ?_
             cases h
             exact AK.met rfl
            ·obtain ⟨x32, hx32, h⟩ := Qb h
             refine Qa hC [.say 94 (.b false), .n 3, .o (.c false [.d] (.tup [.i .i64 x32.1, .i .i64 x32.2])), .n 5, .keep [6, 7] []] rfl ⟨⟨tt_, (congrArg V.b hc30)⟩, (QcN _ hx32)⟩ ?_
             cases h
             exact AK.met rfl
           ·rintro σ rfl
            obtain ⟨x27, x28⟩ := v
            replace h : QhO x27 x28 = some r := h
            unfold QhO at h
            refine Qa hC [.n 4, .keep [6, 7] []] rfl tt_ ?_
            cases h
            exact AK.done (ex_ [_, _] (an_ (an_ rfl (an_ rfl tt_)) (gives tt_)))
          ·refine Qa hC [.br false, .n 6] rfl ⟨tt_, hc26⟩ ?_
           rcases bifE h with ⟨hc33, h⟩ | ⟨hc33, h⟩
           ·refine Qa hC [.br true, .n 1] rfl ⟨tt_, hc33⟩ ?_
            obtain ⟨v, hv36, h⟩ := Qb h
            replace h : QhP v.1 v.2 = some r := h
            refine AK.meetX (fun σ => σ = ⟨[(6, .i .i64 v.1), (7, .i .i64 v.2)], []⟩) ?_ ?_
            ·replace h := hv36
             unfold Qlo at h
             refine Qa hC [.n 4] rfl tt_ ?_
             rcases bifE h with ⟨hc37, h⟩ | ⟨hc37, h⟩
             ·obtain ⟨x38, hx38, h⟩ := Qb h
              refine Qa hC [.say 105 (.b true), .n 3, .o (.c false [.d] (.tup [.i .i64 x38.1, .i .i64 x38.2])), .n 5, .keep [6, 7] []] rfl ⟨⟨tt_, (congrArg V.b hc37)⟩, (QcN _ hx38)⟩ ?_
              cases h
              exact AK.met rfl
             ·obtain ⟨x39, hx39, h⟩ := Qb h
              refine Qa hC [.say 105 (.b false), .n 3, .o (.c false [.d] (.tup [.i .i64 x39.1, .i .i64 x39.2])), .n 5, .keep [6, 7] []] rfl ⟨⟨tt_, (congrArg V.b hc37)⟩, (QcN _ hx39)⟩ ?_
              cases h
              exact AK.met rfl
            ·rintro σ rfl
             obtain ⟨x34, x35⟩ := v
             replace h : QhP x34 x35 = some r := h
             unfold QhP at h
             refine Qa hC [.n 4, .keep [6, 7] []] rfl tt_ ?_
             cases h
             exact AK.done (ex_ [_, _] (an_ (an_ rfl (an_ rfl tt_)) (gives tt_)))
           ·refine Qa hC [.br false, .n 10, .keep [6, 7] []] rfl ⟨tt_, hc33⟩ ?_
            cases h
            exact AK.done (ex_ [_, _] (an_ (an_ rfl (an_ rfl tt_)) (gives tt_)))
def Qjy (a1 : Int) : Option (Int × Int) :=
 (QgB 2 0 a1).bind fun x4 =>
 some (x4.1, x4.2)
theorem Qrj (a1 : Int) {r : (Int × Int)} (h : Qjy a1 = some r) : Qc Tryz.prog 248 [.i .i64 a1] [] (Gives (.tup [.i .i64 r.1, .i .i64 r.2]) []) := by
 refine Qc.walk 8 Tryz.func248 rfl Tryz.ntmps248 rfl fun C hC => ?_
 unfold Qjy at h
 obtain ⟨x4, hx4, h⟩ := Qb h
 refine Qa hC [.n 9, .o (.c false [.d, .d, .d] (.tup [.i .i64 x4.1, .i .i64 x4.2])), .n 7, .keep [2, 3] []] rfl ⟨tt_, (Qjx _ _ _ hx4)⟩ ?_
 cases h
 exact AK.done (ex_ [_, _] (an_ (an_ rfl (an_ rfl tt_)) (gives tt_)))
def QdV (rec_expr_env_eval : (List Int) → Qf → Option (Int × Int)) (v1 : (List Int)) (e2 : Qf) : Option (Int × Int) :=
 (idx e2.Kids 0).bind fun e7 =>
 (rec_expr_env_eval v1 e7).bind fun x8 =>
 bif (x8.2 != 0) then
 some (0, x8.2)
 else
 bif (e2.Kind == 3) then
 (Qjy x8.1).bind fun x11 =>
 some (x11.1, x11.2)
 else
 (QgB 6 x8.1 0).bind fun x12 =>
 some (x12.1, x12.2)
theorem Qna (rec_expr_env_eval : (List Int) → Qf → Option (Int × Int)) (hrec_expr_env_eval : ∀ (v1 : (List Int)) (e2 : Qf) {r : (Int × Int)}, rec_expr_env_eval v1 e2 = some r → Qc Tryz.prog 162 [.sl 1 (v1.map Qe), .agg (Ql e2)] [] (Gives (.tup [.i .i64 r.1, .i .i64 r.2]) [])) (v1 : (List Int)) (e2 : Qf) {r : (Int × Int)} (h : QdV rec_expr_env_eval v1 e2 = some r) : Qc Tryz.prog 232 [.sl 1 (v1.map Qe), .agg (Ql e2)] [] (Gives (.tup [.i .i64 r.1, .i .i64 r.2]) []) := by
 refine Qc.walk 33 Tryz.func232 rfl Tryz.ntmps232 rfl fun C hC => ?_
 unfold QdV at h
 obtain ⟨e7, he7, h⟩ := Qb h
 obtain ⟨x8, hx8, h⟩ := Qb h
 refine Qa hC [.n 12, .o (.row (Ql e7)), .v .no [] (.agg (Ql e7)), .o (.c false [.d, .d] (.tup [.i .i64 x8.1, .i .i64 x8.2])), .n 16] rfl ⟨⟨⟨tt_, (Qdc he7)⟩, rfl⟩, (hrec_expr_env_eval _ _ hx8)⟩ ?_
 rcases bifE h with ⟨hc9, h⟩ | ⟨hc9, h⟩
 ·refine Qa hC [.br true, .n 10, .keep [4, 5] []] rfl ⟨tt_, hc9⟩ ?_
  cases h
  exact AK.done (ex_ [_, _] (an_ (an_ rfl (an_ rfl tt_)) (gives tt_)))
 ·refine Qa hC [.br false, .n 8] rfl ⟨tt_, hc9⟩ ?_
  rcases bifE h with ⟨hc10, h⟩ | ⟨hc10, h⟩
  ·obtain ⟨x11, hx11, h⟩ := Qb h
   refine Qa hC [.br true, .n 3, .o (.c false [.d] (.tup [.i .i64 x11.1, .i .i64 x11.2])), .n 9, .keep [4, 5] []] rfl ⟨⟨tt_, hc10⟩, (Qrj _ hx11)⟩ ?_
   cases h
   exact AK.done (ex_ [_, _] (an_ (an_ rfl (an_ rfl tt_)) (gives tt_)))
  ·obtain ⟨x12, hx12, h⟩ := Qb h
   refine Qa hC [.br false, .n 6, .o (.c false [.d, .d, .d] (.tup [.i .i64 x12.1, .i .i64 x12.2])), .n 7, .keep [4, 5] []] rfl ⟨⟨tt_, hc10⟩, (Qjx _ _ _ hx12)⟩ ?_
   cases h
   exact AK.done (ex_ [_, _] (an_ (an_ rfl (an_ rfl tt_)) (gives tt_)))
def QbQ (x8 : (Int × Int)) (e2 : Qf) (rec_expr_env_eval : (List Int) → Qf → Option (Int × Int)) (v1 : (List Int)) (x10 : Bool) : Option (Int × Int) :=
 bif x10 then
 (QgB 7 x8.1 0).bind fun x12 =>
 some (x12.1, x12.2)
 else
 (idx e2.Kids 1).bind fun e13 =>
 (rec_expr_env_eval v1 e13).bind fun x14 =>
 bif (x14.2 != 0) then
 some (0, x14.2)
 else
 (QgB e2.Num x8.1 x14.1).bind fun x16 =>
 some (x16.1, x16.2)
def Qie (rec_expr_env_eval : (List Int) → Qf → Option (Int × Int)) (v1 : (List Int)) (e2 : Qf) : Option (Int × Int) :=
 (idx e2.Kids 0).bind fun e7 =>
 (rec_expr_env_eval v1 e7).bind fun x8 =>
 bif (x8.2 != 0) then
 some (0, x8.2)
 else
 bif ((e2.Num == 10) && (x8.1 == 0)) then
 QbQ x8 e2 rec_expr_env_eval v1 ((e2.Num == 10) && (x8.1 == 0))
 else
 bif (e2.Num == 11) then
 QbQ x8 e2 rec_expr_env_eval v1 (x8.1 != 0)
 else
 QbQ x8 e2 rec_expr_env_eval v1 false
theorem QoQ (rec_expr_env_eval : (List Int) → Qf → Option (Int × Int)) (hrec_expr_env_eval : ∀ (v1 : (List Int)) (e2 : Qf) {r : (Int × Int)}, rec_expr_env_eval v1 e2 = some r → Qc Tryz.prog 162 [.sl 1 (v1.map Qe), .agg (Ql e2)] [] (Gives (.tup [.i .i64 r.1, .i .i64 r.2]) [])) (v1 : (List Int)) (e2 : Qf) {r : (Int × Int)} (h : Qie rec_expr_env_eval v1 e2 = some r) : Qc Tryz.prog 233 [.sl 1 (v1.map Qe), .agg (Ql e2)] [] (Gives (.tup [.i .i64 r.1, .i .i64 r.2]) []) := by
 refine Qc.walk 60 Tryz.func233 rfl Tryz.ntmps233 rfl fun C hC => ?_
 unfold Qie at h
 obtain ⟨e7, he7, h⟩ := Qb h
 obtain ⟨x8, hx8, h⟩ := Qb h
 refine Qa hC [.n 12, .o (.row (Ql e7)), .v .no [] (.agg (Ql e7)), .o (.c false [.d, .d] (.tup [.i .i64 x8.1, .i .i64 x8.2])), .n 16] rfl ⟨⟨⟨tt_, (Qdc he7)⟩, rfl⟩, (hrec_expr_env_eval _ _ hx8)⟩ ?_
 rcases bifE h with ⟨hc9, h⟩ | ⟨hc9, h⟩
 ·refine Qa hC [.br true, .n 10, .keep [4, 5] []] rfl ⟨tt_, hc9⟩ ?_
  cases h
  exact AK.done (ex_ [_, _] (an_ (an_ rfl (an_ rfl tt_)) (gives tt_)))
 ·refine Qa hC [.br false] rfl ⟨tt_, hc9⟩ ?_
  refine AK.meet (fun σ => ∃ x10 : Bool, σ = ⟨[(0, .sl 1 (v1.map Qe)), (3, .loc 3 0 0), (6, .i .i64 x8.1), (22, .b x10)], [(3, .var (Ql e2))]⟩ ∧ QbQ x8 e2 rec_expr_env_eval v1 x10 = some r) ?_ ?_
  ·refine Qa hC [.n 1] rfl tt_ ?_
   refine AK.meetX (fun σ => σ = ⟨[(0, .sl 1 (v1.map Qe)), (3, .loc 3 0 0), (6, .i .i64 x8.1), (22, .b ((e2.Num == 10) && (x8.1 == 0)))], [(3, .var (Ql e2))]⟩) ?_ ?_
   ·refine Qa hC [.n 5] rfl tt_ ?_
    rcases QJ (e2.Num == 10) with hc18 | hc18
    ·refine Qa hC [.say 26 (.b true), .n 5, .say 22 (.b ((e2.Num == 10) && (x8.1 == 0))), .keep [0, 3, 6, 22] [3]] rfl ⟨⟨tt_, (congrArg V.b hc18)⟩, (congrArg V.b (andT hc18 rfl))⟩ ?_
     exact AK.met rfl
    ·refine Qa hC [.say 26 (.b false), .n 5, .say 22 (.b ((e2.Num == 10) && (x8.1 == 0))), .keep [0, 3, 6, 22] [3]] rfl ⟨⟨tt_, (congrArg V.b hc18)⟩, (congrArg V.b (andF hc18 rfl))⟩ ?_
     exact AK.met rfl
   ·rintro σ rfl
    refine Qa hC [.n 1] rfl tt_ ?_
    rcases bifE h with ⟨hc19, h⟩ | ⟨hc19, h⟩
    ·refine Qa hC [.br true, .n 1, .keep [0, 3, 6, 22] [3]] rfl ⟨tt_, hc19⟩ ?_
     exact AK.met (ex_ _ (an_ rfl h))
    ·refine Qa hC [.br false, .n 5] rfl ⟨tt_, hc19⟩ ?_
     rcases bifE h with ⟨hc20, h⟩ | ⟨hc20, h⟩
     ·refine Qa hC [.say 33 (.b true), .n 5, .keep [0, 3, 6, 22] [3]] rfl ⟨tt_, (congrArg V.b hc20)⟩ ?_
      exact AK.met (ex_ _ (an_ rfl h))
     ·refine Qa hC [.say 33 (.b false), .n 5, .keep [0, 3, 6, 22] [3]] rfl ⟨tt_, (congrArg V.b hc20)⟩ ?_
      exact AK.met (ex_ _ (an_ rfl h))
  ·rintro σ ⟨x10, rfl, h⟩
   unfold QbQ at h
   rcases bifE h with ⟨hc11, h⟩ | ⟨hc11, h⟩
   ·obtain ⟨x12, hx12, h⟩ := Qb h
    refine Qa hC [.br true, .n 3, .o (.c false [.d, .d, .d] (.tup [.i .i64 x12.1, .i .i64 x12.2])), .n 9, .keep [4, 5] []] rfl ⟨⟨tt_, hc11⟩, (Qjx _ _ _ hx12)⟩ ?_
    cases h
    exact AK.done (ex_ [_, _] (an_ (an_ rfl (an_ rfl tt_)) (gives tt_)))
   ·obtain ⟨e13, he13, h⟩ := Qb h
    obtain ⟨x14, hx14, h⟩ := Qb h
    refine Qa hC [.br false, .n 8, .o (.row (Ql e13)), .v .no [] (.agg (Ql e13)), .o (.c false [.d, .d] (.tup [.i .i64 x14.1, .i .i64 x14.2])), .n 14] rfl ⟨⟨⟨⟨tt_, hc11⟩, (Qdc he13)⟩, rfl⟩, (hrec_expr_env_eval _ _ hx14)⟩ ?_
    rcases bifE h with ⟨hc15, h⟩ | ⟨hc15, h⟩
    ·refine Qa hC [.br true, .n 9, .keep [4, 5] []] rfl ⟨tt_, hc15⟩ ?_
     cases h
     exact AK.done (ex_ [_, _] (an_ (an_ rfl (an_ rfl tt_)) (gives tt_)))
    ·obtain ⟨x16, hx16, h⟩ := Qb h
     refine Qa hC [.br false, .n 8, .o (.c false [.d, .d, .d] (.tup [.i .i64 x16.1, .i .i64 x16.2])), .n 7, .keep [4, 5] []] rfl ⟨⟨tt_, hc15⟩, (Qjx _ _ _ hx16)⟩ ?_
     cases h
     exact AK.done (ex_ [_, _] (an_ (an_ rfl (an_ rfl tt_)) (gives tt_)))
def QfX (rec_expr_env_eval : (List Int) → Qf → Option (Int × Int)) (v1 : (List Int)) (e2 : Qf) : Option (Int × Int) :=
 (idx e2.Kids 0).bind fun e7 =>
 (rec_expr_env_eval v1 e7).bind fun x8 =>
 bif (x8.2 != 0) then
 some (0, x8.2)
 else
 bif (x8.1 != 0) then
 (idx e2.Kids 1).bind fun e11 =>
 (rec_expr_env_eval v1 e11).bind fun x12 =>
 some (x12.1, x12.2)
 else
 (idx e2.Kids 2).bind fun e13 =>
 (rec_expr_env_eval v1 e13).bind fun x14 =>
 some (x14.1, x14.2)
theorem Qnb (rec_expr_env_eval : (List Int) → Qf → Option (Int × Int)) (hrec_expr_env_eval : ∀ (v1 : (List Int)) (e2 : Qf) {r : (Int × Int)}, rec_expr_env_eval v1 e2 = some r → Qc Tryz.prog 162 [.sl 1 (v1.map Qe), .agg (Ql e2)] [] (Gives (.tup [.i .i64 r.1, .i .i64 r.2]) [])) (v1 : (List Int)) (e2 : Qf) {r : (Int × Int)} (h : QfX rec_expr_env_eval v1 e2 = some r) : Qc Tryz.prog 234 [.sl 1 (v1.map Qe), .agg (Ql e2)] [] (Gives (.tup [.i .i64 r.1, .i .i64 r.2]) []) := by
 refine Qc.walk 40 Tryz.func234 rfl Tryz.ntmps234 rfl fun C hC => ?_
 unfold QfX at h
 obtain ⟨e7, he7, h⟩ := Qb h
 obtain ⟨x8, hx8, h⟩ := Qb h
 refine Qa hC [.n 12, .o (.row (Ql e7)), .v .no [] (.agg (Ql e7)), .o (.c false [.d, .d] (.tup [.i .i64 x8.1, .i .i64 x8.2])), .n 16] rfl ⟨⟨⟨tt_, (Qdc he7)⟩, rfl⟩, (hrec_expr_env_eval _ _ hx8)⟩ ?_
 rcases bifE h with ⟨hc9, h⟩ | ⟨hc9, h⟩
 ·refine Qa hC [.br true, .n 10, .keep [4, 5] []] rfl ⟨tt_, hc9⟩ ?_
  cases h
  exact AK.done (ex_ [_, _] (an_ (an_ rfl (an_ rfl tt_)) (gives tt_)))
 ·refine Qa hC [.br false, .n 7] rfl ⟨tt_, hc9⟩ ?_
  rcases bifE h with ⟨hc10, h⟩ | ⟨hc10, h⟩
  ·obtain ⟨e11, he11, h⟩ := Qb h
   obtain ⟨x12, hx12, h⟩ := Qb h
   refine Qa hC [.br true, .n 5, .o (.row (Ql e11)), .v .no [] (.agg (Ql e11)), .o (.c false [.d, .d] (.tup [.i .i64 x12.1, .i .i64 x12.2])), .n 9, .keep [4, 5] []] rfl ⟨⟨⟨⟨tt_, hc10⟩, (Qdc he11)⟩, rfl⟩, (hrec_expr_env_eval _ _ hx12)⟩ ?_
   cases h
   exact AK.done (ex_ [_, _] (an_ (an_ rfl (an_ rfl tt_)) (gives tt_)))
  ·obtain ⟨e13, he13, h⟩ := Qb h
   obtain ⟨x14, hx14, h⟩ := Qb h
   refine Qa hC [.br false, .n 8, .o (.row (Ql e13)), .v .no [] (.agg (Ql e13)), .o (.c false [.d, .d] (.tup [.i .i64 x14.1, .i .i64 x14.2])), .n 7, .keep [4, 5] []] rfl ⟨⟨⟨⟨tt_, hc10⟩, (Qdc he13)⟩, rfl⟩, (hrec_expr_env_eval _ _ hx14)⟩ ?_
   cases h
   exact AK.done (ex_ [_, _] (an_ (an_ rfl (an_ rfl tt_)) (gives tt_)))
def QhQ (e2 : Qf) (a8 : (List Int)) : Option (Int × Int) :=
 (Qin a8 e2).bind fun x13 =>
 some (x13.1, x13.2)
def Qdl (e2 : Qf) (a9 : (List Int)) : Option (Int × Int) :=
 (QeZ a9 e2).bind fun x14 =>
 some (x14.1, x14.2)
def QbB (rec_expr_env_eval : (List Int) → Qf → Option (Int × Int)) (e2 : Qf) (a10 : (List Int)) : Option (Int × Int) :=
 (QdV rec_expr_env_eval a10 e2).bind fun x15 =>
 some (x15.1, x15.2)
def Qdm (rec_expr_env_eval : (List Int) → Qf → Option (Int × Int)) (e2 : Qf) (a11 : (List Int)) : Option (Int × Int) :=
 (Qie rec_expr_env_eval a11 e2).bind fun x16 =>
 some (x16.1, x16.2)
def Qdn (rec_expr_env_eval : (List Int) → Qf → Option (Int × Int)) (e2 : Qf) (a12 : (List Int)) : Option (Int × Int) :=
 (QfX rec_expr_env_eval a12 e2).bind fun x17 =>
 some (x17.1, x17.2)
def QfY (rec_expr_env_eval : (List Int) → Qf → Option (Int × Int)) (v1 : (List Int)) (e2 : Qf) : Option (Int × Int) :=
 (Qbp v1 e2.Kind).bind fun x7 =>
 (Sum.elim (fun q => QhQ e2 q) (Sum.elim (fun q => Qdl e2 q) (Sum.elim (fun q => QbB rec_expr_env_eval e2 q) (Sum.elim (fun q => Qdm rec_expr_env_eval e2 q) (fun q => Qdn rec_expr_env_eval e2 q))))) x7
def Qai : Nat → (List Int) → Qf → Option (Int × Int)
 | 0, _, _ => none
 | n + 1, v1, e2 => QfY (Qai n) v1 e2
def Qjz (v1 : (List Int)) (e2 : Qf) : Option (Int × Int) := Qai (SizeOf.sizeOf e2) v1 e2
theorem Qnc (rec_expr_env_eval : (List Int) → Qf → Option (Int × Int)) (hrec_expr_env_eval : ∀ (v1 : (List Int)) (e2 : Qf) {r : (Int × Int)}, rec_expr_env_eval v1 e2 = some r → Qc Tryz.prog 162 [.sl 1 (v1.map Qe), .agg (Ql e2)] [] (Gives (.tup [.i .i64 r.1, .i .i64 r.2]) [])) (v1 : (List Int)) (e2 : Qf) {r : (Int × Int)} (h : QfY rec_expr_env_eval v1 e2 = some r) : Qc Tryz.prog 162 [.sl 1 (v1.map Qe), .agg (Ql e2)] [] (Gives (.tup [.i .i64 r.1, .i .i64 r.2]) []) := by
 refine Qc.walk 14 Tryz.func162 rfl Tryz.ntmps162 rfl fun C hC => ?_
 unfold QfY at h
 refine Qa hC [.n 8] rfl tt_ ?_
 obtain ⟨x7, hx7, h⟩ := Qb h
 rcases x7 with (a8 | (a9 | (a10 | (a11 | a12))))
 ·replace h : QhQ e2 a8 = some r := h
  unfold QhQ at h
  obtain ⟨x13, hx13, h⟩ := Qb h
  refine Qa hC [.keep [0, 3, 4, 5] [3]] rfl tt_ ?_
  refine AK.draw2 Qo hC mixed [.a .no none false, .a .no none false, .a .no none false, .a (.any (.clo (.func 230) [.sl 1 (a8.map Qe)] []) none) none false, .a .no (some ([], .agg (Ql e2))) false, .a (.c false [.d, .d] (.tup [.i .i64 x13.1, .i .i64 x13.2])) none false, .a .no none false, .a .no none false, .m .s, .m .s] [] [] [4, 5] [] rfl rfl rfl ⟨⟨⟨tt_, (fun σ h1 h2 _ => Stp.callSame (md := .cm (.fn) [] [] [] [.d, .d] [] (.clo (.func 230) [.sl 1 (a8.map Qe)] []) []) Qo hC h1 h2 rfl ⟨tt_, (Qdk _ _ hx7)⟩)⟩, rfl⟩, (Qm7 _ _ hx13)⟩ rfl (by kernel_rfl) rfl rfl rfl ?_
  refine Qa hC [.n 2, .keep [4, 5] []] rfl tt_ ?_
  cases h
  exact AK.done (ex_ [_, _] (an_ (an_ rfl (an_ rfl tt_)) (gives tt_)))
 ·replace h : Qdl e2 a9 = some r := h
  unfold Qdl at h
  obtain ⟨x14, hx14, h⟩ := Qb h
  refine Qa hC [.keep [0, 3, 4, 5] [3]] rfl tt_ ?_
  refine AK.draw2 Qo hC mixed [.a .no none false, .a .no none false, .a .no none false, .a (.any (.clo (.func 231) [.sl 1 (a9.map Qe)] []) none) none false, .a .no (some ([], .agg (Ql e2))) false, .a (.c false [.d, .d] (.tup [.i .i64 x14.1, .i .i64 x14.2])) none false, .a .no none false, .a .no none false, .m .s, .m .s] [] [] [4, 5] [] rfl rfl rfl ⟨⟨⟨tt_, (fun σ h1 h2 _ => Stp.callSame (md := .cm (.fn) [] [] [] [.d, .d] [] (.clo (.func 231) [.sl 1 (a9.map Qe)] []) []) Qo hC h1 h2 rfl ⟨tt_, (Qdk _ _ hx7)⟩)⟩, rfl⟩, (Qme _ _ hx14)⟩ rfl (by kernel_rfl) rfl rfl rfl ?_
  refine Qa hC [.n 2, .keep [4, 5] []] rfl tt_ ?_
  cases h
  exact AK.done (ex_ [_, _] (an_ (an_ rfl (an_ rfl tt_)) (gives tt_)))
 ·replace h : QbB rec_expr_env_eval e2 a10 = some r := h
  unfold QbB at h
  obtain ⟨x15, hx15, h⟩ := Qb h
  refine Qa hC [.keep [0, 3, 4, 5] [3]] rfl tt_ ?_
  refine AK.draw2 Qo hC mixed [.a .no none false, .a .no none false, .a .no none false, .a (.any (.clo (.func 232) [.sl 1 (a10.map Qe)] []) none) none false, .a .no (some ([], .agg (Ql e2))) false, .a (.c false [.d, .d] (.tup [.i .i64 x15.1, .i .i64 x15.2])) none false, .a .no none false, .a .no none false, .m .s, .m .s] [] [] [4, 5] [] rfl rfl rfl ⟨⟨⟨tt_, (fun σ h1 h2 _ => Stp.callSame (md := .cm (.fn) [] [] [] [.d, .d] [] (.clo (.func 232) [.sl 1 (a10.map Qe)] []) []) Qo hC h1 h2 rfl ⟨tt_, (Qdk _ _ hx7)⟩)⟩, rfl⟩, (Qna rec_expr_env_eval hrec_expr_env_eval _ _ hx15)⟩ rfl (by kernel_rfl) rfl rfl rfl ?_
  refine Qa hC [.n 2, .keep [4, 5] []] rfl tt_ ?_
  cases h
  exact AK.done (ex_ [_, _] (an_ (an_ rfl (an_ rfl tt_)) (gives tt_)))
 ·replace h : Qdm rec_expr_env_eval e2 a11 = some r := h
  unfold Qdm at h
  obtain ⟨x16, hx16, h⟩ := Qb h
  refine Qa hC [.keep [0, 3, 4, 5] [3]] rfl tt_ ?_
  refine AK.draw2 Qo hC mixed [.a .no none false, .a .no none false, .a .no none false, .a (.any (.clo (.func 233) [.sl 1 (a11.map Qe)] []) none) none false, .a .no (some ([], .agg (Ql e2))) false, .a (.c false [.d, .d] (.tup [.i .i64 x16.1, .i .i64 x16.2])) none false, .a .no none false, .a .no none false, .m .s, .m .s] [] [] [4, 5] [] rfl rfl rfl ⟨⟨⟨tt_, (fun σ h1 h2 _ => Stp.callSame (md := .cm (.fn) [] [] [] [.d, .d] [] (.clo (.func 233) [.sl 1 (a11.map Qe)] []) []) Qo hC h1 h2 rfl ⟨tt_, (Qdk _ _ hx7)⟩)⟩, rfl⟩, (QoQ rec_expr_env_eval hrec_expr_env_eval _ _ hx16)⟩ rfl (by kernel_rfl) rfl rfl rfl ?_
  refine Qa hC [.n 2, .keep [4, 5] []] rfl tt_ ?_
  cases h
  exact AK.done (ex_ [_, _] (an_ (an_ rfl (an_ rfl tt_)) (gives tt_)))
 ·replace h : Qdn rec_expr_env_eval e2 a12 = some r := h
  unfold Qdn at h
  obtain ⟨x17, hx17, h⟩ := Qb h
  refine Qa hC [.keep [0, 3, 4, 5] [3]] rfl tt_ ?_
  refine AK.draw2 Qo hC mixed [.a .no none false, .a .no none false, .a .no none false, .a (.any (.clo (.func 234) [.sl 1 (a12.map Qe)] []) none) none false, .a .no (some ([], .agg (Ql e2))) false, .a (.c false [.d, .d] (.tup [.i .i64 x17.1, .i .i64 x17.2])) none false, .a .no none false, .a .no none false, .m .s, .m .s] [] [] [4, 5] [] rfl rfl rfl ⟨⟨⟨tt_, (fun σ h1 h2 _ => Stp.callSame (md := .cm (.fn) [] [] [] [.d, .d] [] (.clo (.func 234) [.sl 1 (a12.map Qe)] []) []) Qo hC h1 h2 rfl ⟨tt_, (Qdk _ _ hx7)⟩)⟩, rfl⟩, (Qnb rec_expr_env_eval hrec_expr_env_eval _ _ hx17)⟩ rfl (by kernel_rfl) rfl rfl rfl ?_
  refine Qa hC [.n 2, .keep [4, 5] []] rfl tt_ ?_
  cases h
  exact AK.done (ex_ [_, _] (an_ (an_ rfl (an_ rfl tt_)) (gives tt_)))
theorem QjA : ∀ (fuel : Nat) (v1 : (List Int)) (e2 : Qf) {r : (Int × Int)}, Qai fuel v1 e2 = some r → Qc Tryz.prog 162 [.sl 1 (v1.map Qe), .agg (Ql e2)] [] (Gives (.tup [.i .i64 r.1, .i .i64 r.2]) [])
 | 0, _, _, _, h => by cases h
 | n + 1, v1, e2, _, h => Qnc (Qai n) (fun _ _ _ h => QjA n _ _ h) v1 e2 h
theorem Qn3 (v1 : (List Int)) (e2 : Qf) {r : (Int × Int)} (h : Qjz v1 e2 = some r) : Qc Tryz.prog 162 [.sl 1 (v1.map Qe), .agg (Ql e2)] [] (Gives (.tup [.i .i64 r.1, .i .i64 r.2]) []) := QjA _ v1 e2 h
def Qhc (e1 : Qf) (vars2 : (List Int)) : Option (Int × Int) :=
 (Qey e1 (vars2.length : Int)).bind fun x7 =>
 bif (!x7) then
 some (0, 1)
 else
 (Qjz vars2 e1).bind fun x9 =>
 some (x9.1, x9.2)
theorem Qmx (e1 : Qf) (vars2 : (List Int)) {r : (Int × Int)} (h : Qhc e1 vars2 = some r) : Qc Tryz.prog 95 [.agg (Ql e1), .sl 1 (vars2.map Qe)] [] (Gives (.tup [.i .i64 r.1, .i .i64 r.2]) []) := by
 refine Qc.walk 16 Tryz.func95 rfl Tryz.ntmps95 rfl fun C hC => ?_
 unfold Qhc at h
 obtain ⟨x7, hx7, h⟩ := Qb h
 refine Qa hC [.n 10, .v .no [] (.agg (Ql e1)), .n 1, .o (.ln vars2.length), .o (.c false [.d, .d] (.b x7)), .n 3] rfl ⟨⟨⟨tt_, rfl⟩, Qg⟩, (Qjv _ _ hx7)⟩ ?_
 rcases bifE h with ⟨hc8, h⟩ | ⟨hc8, h⟩
 ·refine Qa hC [.br true, .n 8, .keep [4, 5] []] rfl ⟨tt_, hc8⟩ ?_
  cases h
  exact AK.done (ex_ [_, _] (an_ (an_ rfl (an_ rfl tt_)) (gives tt_)))
 ·obtain ⟨x9, hx9, h⟩ := Qb h
  refine Qa hC [.br false, .n 5, .v .no [] (.agg (Ql e1)), .o (.c false [.d, .d] (.tup [.i .i64 x9.1, .i .i64 x9.2])), .n 7, .keep [4, 5] []] rfl ⟨⟨⟨tt_, hc8⟩, rfl⟩, (Qn3 _ _ hx9)⟩ ?_
  cases h
  exact AK.done (ex_ [_, _] (an_ (an_ rfl (an_ rfl tt_)) (gives tt_)))
def Qby (b1 : QA) : Option Int :=
 (Qhc b1.task.Guard b1.env).bind fun x4 =>
 bif (x4.2 != 0) then
 some x4.2
 else
 bif (x4.1 == 0) then
 some 9
 else
 some 0
theorem QhR (b1 : QA) {r : Int} (h : Qby b1 = some r) : Qc Tryz.prog 71 [.agg (Qp b1)] [] (Gives (.i .i64 r) []) := by
 refine Qc.walk 21 Tryz.func71 rfl Tryz.ntmps71 rfl fun C hC => ?_
 unfold Qby at h
 obtain ⟨x4, hx4, h⟩ := Qb h
 refine Qa hC [.n 10, .v .no [] (.agg (Ql b1.task.Guard)), .n 2, .o (.c false [.d, .d] (.tup [.i .i64 x4.1, .i .i64 x4.2])), .n 16] rfl ⟨⟨tt_, rfl⟩, (Qmx _ _ hx4)⟩ ?_
 rcases bifE h with ⟨hc5, h⟩ | ⟨hc5, h⟩
 ·refine Qa hC [.br true, .n 9, .keep [2] []] rfl ⟨tt_, hc5⟩ ?_
  cases h
  exact AK.done (ex_ [_] (an_ (an_ rfl tt_) (gives tt_)))
 ·refine Qa hC [.br false, .n 7] rfl ⟨tt_, hc5⟩ ?_
  rcases bifE h with ⟨hc6, h⟩ | ⟨hc6, h⟩
  ·refine Qa hC [.br true, .n 8, .keep [2] []] rfl ⟨tt_, hc6⟩ ?_
   cases h
   exact AK.done (ex_ [_] (an_ (an_ rfl tt_) (gives tt_)))
  ·refine Qa hC [.br false, .n 9, .keep [2] []] rfl ⟨tt_, hc6⟩ ?_
   cases h
   exact AK.done (ex_ [_] (an_ (an_ rfl tt_) (gives tt_)))
def QcL (l10 : (List (List Int))) : Option (List (List Int)) :=
 some l10
def QfZ (arcs2 : Int) (x13 : Int) (l14 : (List Int)) : Option ((Int × (List Int)) ⊕ (List Int)) :=
 bif (decide (x13 < arcs2)) then
 (chk (decide (l14.length + ([x13] : List Int).length ≤ 4294967296))).bind fun _ =>
 some (.inl ((w64 (x13 + 1)), (l14 ++ ([x13] : List Int))))
 else
 some (.inr l14)
def Qio (l17 : (List Int)) : Option (List (List Int)) :=
 some ([l17] : List (List Int))
def Qf0 (arcs2 : Int) (x23 : Int) (l24 : (List (List Int))) : Option ((Int × (List (List Int))) ⊕ (List (List Int))) :=
 bif (decide (x23 < arcs2)) then
 (chk (decide (l24.length + ([([x23] : List Int)] : List (List Int)).length ≤ 4294967296))).bind fun _ =>
 some (.inl ((w64 (x23 + 1)), (l24 ++ ([([x23] : List Int)] : List (List Int)))))
 else
 some (.inr l24)
def Qip (l27 : (List (List Int))) : Option (List (List Int)) :=
 QcL l27
def Qf1 (x41 : Int) (l47 : (List Int)) : Option ((Int × (List Int)) ⊕ (List Int)) :=
 some (.inl ((w64 (x41 + 1)), l47))
def Qf2 (arcs2 : Int) (set_33 : Int) (x41 : Int) (l42 : (List Int)) : Option ((Int × (List Int)) ⊕ (List Int)) :=
 bif (decide (x41 < arcs2)) then
 (chk (decide (0 ≤ x41))).bind fun _ =>
 bif ((andI .i64 (shrI .i64 set_33 x41) 1) == 1) then
 (chk (decide (l42.length + ([x41] : List Int).length ≤ 4294967296))).bind fun _ =>
 Qf1 x41 (l42 ++ ([x41] : List Int))
 else
 Qf1 x41 l42
 else
 some (.inr l42)
def Qiq (l34 : (List (List Int))) (set_33 : Int) (l45 : (List Int)) : Option ((Int × (List (List Int))) ⊕ (List (List Int))) :=
 (chk (decide (l34.length + ([l45] : List (List Int)).length ≤ 4294967296))).bind fun _ =>
 some (.inl ((w64 (set_33 + 1)), (l34 ++ ([l45] : List (List Int)))))
def Qf3 (arcs2 : Int) (set_33 : Int) (l34 : (List (List Int))) : Option ((Int × (List (List Int))) ⊕ (List (List Int))) :=
 (chk (decide (0 ≤ arcs2))).bind fun _ =>
 bif (decide (set_33 < (shlI .i64 1 arcs2))) then
 (QE (fun st => Qf2 arcs2 set_33 st.1 st.2) (0, ([] : List Int))).bind (fun q => Qiq l34 set_33 q)
 else
 some (.inr l34)
def QhS (l37 : (List (List Int))) : Option (List (List Int)) :=
 QcL l37
def Qcj (kind1 : Int) (arcs2 : Int) : Option (List (List Int)) :=
 bif ((decide (arcs2 < 0)) || ((decide (16 < arcs2)) || ((kind1 == 3) && (decide (4 < arcs2))))) then
 some ([] : List (List Int))
 else
 bif (kind1 == 1) then
 (QE (fun st => QfZ arcs2 st.1 st.2) (0, ([] : List Int))).bind (fun q => Qio q)
 else
 bif (kind1 == 2) then
 (QE (fun st => Qf0 arcs2 st.1 st.2) (0, ([] : List (List Int)))).bind (fun q => Qip q)
 else
 bif (kind1 == 3) then
 (QE (fun st => Qf3 arcs2 st.1 st.2) (1, ([] : List (List Int)))).bind (fun q => QhS q)
 else
 QcL ([] : List (List Int))
theorem Qir (kind1 : Int) (arcs2 : Int) {r : (List (List Int))} (h : Qcj kind1 arcs2 = some r) : Qc Tryz.prog 137 [.i .i64 kind1, .i .i64 arcs2] [] (Gives (.own 30000 r.length) [(30000, .arr 1 (r.map Qv))]) := by
 refine Qc.walk 79 Tryz.func137 rfl Tryz.ntmps137 rfl fun C hC => ?_
 unfold Qcj at h
 refine Qa hC [.n 7] rfl tt_ ?_
 refine AK.meetX (fun σ => σ = ⟨[(0, .i .i64 kind1), (1, .i .i64 arcs2), (25, .b ((decide (arcs2 < 0)) || ((decide (16 < arcs2)) || ((kind1 == 3) && (decide (4 < arcs2))))))], []⟩) ?_ ?_
 ·refine Qa hC [.n 4] rfl tt_ ?_
  rcases QJ (decide (arcs2 < 0)) with hc6 | hc6
  ·refine Qa hC [.say 14 (.b true), .n 12, .say 25 (.b ((decide (arcs2 < 0)) || ((decide (16 < arcs2)) || ((kind1 == 3) && (decide (4 < arcs2)))))), .keep [0, 1, 25] []] rfl ⟨⟨tt_, (congrArg V.b hc6)⟩, (congrArg V.b (orT hc6 rfl))⟩ ?_
   exact AK.met rfl
  ·refine Qa hC [.say 14 (.b false), .n 4] rfl ⟨tt_, (congrArg V.b hc6)⟩ ?_
   rcases QJ (decide (16 < arcs2)) with hc7 | hc7
   ·refine Qa hC [.say 18 (.b true), .n 8, .say 25 (.b ((decide (arcs2 < 0)) || ((decide (16 < arcs2)) || ((kind1 == 3) && (decide (4 < arcs2)))))), .keep [0, 1, 25] []] rfl ⟨⟨tt_, (congrArg V.b hc7)⟩, (congrArg V.b (orF hc6 (orT hc7 rfl)))⟩ ?_
    exact AK.met rfl
   ·refine Qa hC [.say 18 (.b false), .n 3] rfl ⟨tt_, (congrArg V.b hc7)⟩ ?_
    rcases QJ (kind1 == 3) with hc8 | hc8
    ·refine Qa hC [.say 21 (.b true), .n 5, .say 25 (.b ((decide (arcs2 < 0)) || ((decide (16 < arcs2)) || ((kind1 == 3) && (decide (4 < arcs2)))))), .keep [0, 1, 25] []] rfl ⟨⟨tt_, (congrArg V.b hc8)⟩, (congrArg V.b (orF hc6 (orF hc7 (andT hc8 rfl))))⟩ ?_
     exact AK.met rfl
    ·refine Qa hC [.say 21 (.b false), .n 5, .say 25 (.b ((decide (arcs2 < 0)) || ((decide (16 < arcs2)) || ((kind1 == 3) && (decide (4 < arcs2)))))), .keep [0, 1, 25] []] rfl ⟨⟨tt_, (congrArg V.b hc8)⟩, (congrArg V.b (orF hc6 (orF hc7 (andF hc8 rfl))))⟩ ?_
     exact AK.met rfl
 ·rintro σ rfl
  refine Qa hC [.n 1] rfl tt_ ?_
  rcases bifE h with ⟨hc9, h⟩ | ⟨hc9, h⟩
  ·refine Qa hC [.br true, .n 7, .adopt 4 30000 1, .sayO 30000 (.arr 1 (([] : List (List Int)).map Qv)), .say 4 (.own 30000 ([] : List (List Int)).length), .keep [4] [30000]] rfl ⟨⟨⟨tt_, hc9⟩, rfl⟩, rfl⟩ ?_
   cases h
   exact AK.done (ex_ [_] (an_ (an_ rfl tt_) (gives ⟨rfl, tt_⟩)))
  ·refine Qa hC [.br false, .n 7] rfl ⟨tt_, hc9⟩ ?_
   refine AK.meet (fun σ => ∃ l10 : (List (List Int)), σ = ⟨[(5, .own 40005 l10.length)], [(40005, .arr 1 (l10.map Qv))]⟩ ∧ QcL l10 = some r) ?_ ?_
   ·refine Qa hC [.n 12] rfl tt_ ?_
    rcases bifE h with ⟨hc11, h⟩ | ⟨hc11, h⟩
    ·refine Qa hC [.br true, .n 13, .adopt 6 33 1, .sayO 33 (.arr 1 (([] : List Int).map Qe)), .say 6 (.own 33 ([] : List Int).length), .keep [6, 29, 30] [33]] rfl ⟨⟨⟨tt_, hc11⟩, rfl⟩, (congrArg (fun n => V.own 33 n) (by simp))⟩ ?_
     obtain ⟨l17, hl20, h⟩ := Qb h
     refine AK.loop (body := (fun st => QfZ arcs2 st.1 st.2)) (fun st σ => σ = ⟨[(6, .own 33 st.2.length), (29, .i .i64 arcs2), (30, .i .i64 st.1)], [(33, .arr 1 (st.2.map Qe))]⟩) (fun q e σ => e = .exit 1 ∧ σ = ⟨[(6, .own 33 q.length)], [(33, .arr 1 (q.map Qe))]⟩) hl20 rfl ?_ ?_
     ·rintro ⟨x13, l14⟩ o σ rfl h
      replace h : QfZ arcs2 x13 l14 = some o := h
      unfold QfZ at h
      refine Qa hC [.n 6] rfl tt_ ?_
      rcases bifE h with ⟨hc18, h⟩ | ⟨hc18, h⟩
      ·obtain ⟨_, hk19, h⟩ := Qb h
       replace hk19 := chkE hk19
       refine Qa hC [.br true, .n 13, .v (.bd []) [] (.sl 1 (([x13] : List Int).map Qe)), .app ((l14 ++ ([x13] : List Int)).map Qe) (l14 ++ ([x13] : List Int)).length, .n 8, .keep [6, 29, 30] [33]] rfl ⟨⟨⟨tt_, hc18⟩, rfl⟩, ⟨Qg, Qes hk19 Qg, Qc0, QgG Qg⟩⟩ ?_
       cases h
       exact rndN rfl rfl
      ·refine Qa hC [.br false, .n 2, .keep [6] [33]] rfl ⟨tt_, hc18⟩ ?_
       cases h
       exact rndX rfl (an_ rfl rfl)
     ·replace h : Qio l17 = some r := h
      unfold Qio at h
      rintro e σ ⟨rfl, rfl⟩
      refine Qa hC [.n 5, .frz 33 (l17.map Qe) [6, 38] [], .n 1, .sayO 39 (.arr 1 (([l17] : List (List Int)).map Qv)), .say 39 (.own 39 ([l17] : List (List Int)).length), .n 6, .keep [4] [39], .ren 39 30000, .keep [4] [30000]] rfl ⟨⟨⟨tt_, ⟨⟨tt_, (frzL Qg)⟩, (frzL Qg)⟩⟩, rfl⟩, rfl⟩ ?_
      cases h
      exact AK.done (ex_ [_] (an_ (an_ rfl tt_) (gives ⟨rfl, tt_⟩)))
    ·refine Qa hC [.br false, .n 6] rfl ⟨tt_, hc11⟩ ?_
     rcases bifE h with ⟨hc21, h⟩ | ⟨hc21, h⟩
     ·refine Qa hC [.br true, .n 7, .adopt 5 46 1, .sayO 46 (.arr 1 (([] : List (List Int)).map Qv)), .say 5 (.own 46 ([] : List (List Int)).length), .keep [5, 42, 43] [46]] rfl ⟨⟨⟨tt_, hc21⟩, rfl⟩, (congrArg (fun n => V.own 46 n) (by simp))⟩ ?_
      obtain ⟨l27, hl30, h⟩ := Qb h
      refine AK.loop (body := (fun st => Qf0 arcs2 st.1 st.2)) (fun st σ => σ = ⟨[(5, .own 46 st.2.length), (42, .i .i64 arcs2), (43, .i .i64 st.1)], [(46, .arr 1 (st.2.map Qv))]⟩) (fun q e σ => e = .exit 3 ∧ σ = ⟨[(5, .own 46 q.length)], [(46, .arr 1 (q.map Qv))]⟩) hl30 rfl ?_ ?_
      ·rintro ⟨x23, l24⟩ o σ rfl h
       replace h : Qf0 arcs2 x23 l24 = some o := h
       unfold Qf0 at h
       refine Qa hC [.n 6] rfl tt_ ?_
       rcases bifE h with ⟨hc28, h⟩ | ⟨hc28, h⟩
       ·obtain ⟨_, hk29, h⟩ := Qb h
        replace hk29 := chkE hk29
        refine Qa hC [.br true, .n 13, .v (.bd []) [] (.sl 1 (([x23] : List Int).map Qe)), .v (.bd []) [] (.sl 1 (([([x23] : List Int)] : List (List Int)).map Qv)), .app ((l24 ++ ([([x23] : List Int)] : List (List Int))).map Qv) (l24 ++ ([([x23] : List Int)] : List (List Int))).length, .n 8, .keep [5, 42, 43] [46]] rfl ⟨⟨⟨⟨tt_, hc28⟩, rfl⟩, rfl⟩, ⟨Qg, Qes hk29 Qg, Qc0, QgG Qg⟩⟩ ?_
        cases h
        exact rndN rfl rfl
       ·refine Qa hC [.br false, .n 2, .keep [5] [46]] rfl ⟨tt_, hc28⟩ ?_
        cases h
        exact rndX rfl (an_ rfl rfl)
      ·replace h : Qip l27 = some r := h
       unfold Qip at h
       rintro e σ ⟨rfl, rfl⟩
       refine Qa hC [.n 2, .ren 46 40005, .keep [5] [40005]] rfl tt_ ?_
       exact AK.met (ex_ _ (an_ rfl h))
     ·refine Qa hC [.br false, .n 6] rfl ⟨tt_, hc21⟩ ?_
      rcases bifE h with ⟨hc31, h⟩ | ⟨hc31, h⟩
      ·refine Qa hC [.br true, .n 6, .adopt 5 74 1, .sayO 74 (.arr 1 (([] : List (List Int)).map Qv)), .say 5 (.own 74 ([] : List (List Int)).length), .keep [1, 5, 9] [74]] rfl ⟨⟨⟨tt_, hc31⟩, rfl⟩, (congrArg (fun n => V.own 74 n) (by simp))⟩ ?_
       obtain ⟨l37, hl53, h⟩ := Qb h
       refine AK.loop (body := (fun st => Qf3 arcs2 st.1 st.2)) (fun st σ => σ = ⟨[(1, .i .i64 arcs2), (5, .own 74 st.2.length), (9, .i .i64 st.1)], [(74, .arr 1 (st.2.map Qv))]⟩) (fun q e σ => e = .exit 5 ∧ σ = ⟨[(5, .own 74 q.length)], [(74, .arr 1 (q.map Qv))]⟩) hl53 rfl ?_ ?_
       ·rintro ⟨set_33, l34⟩ o σ rfl h
        replace h : Qf3 arcs2 set_33 l34 = some o := h
        unfold Qf3 at h
        obtain ⟨_, hk38, h⟩ := Qb h
        replace hk38 := chkE hk38
        refine Qa hC [.n 5, .o (.any (.i .i64 (shlI .i64 1 arcs2)) none), .n 3] rfl ⟨tt_, (fun σ h1 h2 _ => Stp.shl rfl rfl (bleN hC.n rfl) (h1 _ _ rfl) (h1 _ _ rfl) (of_decide_eq_true hk38))⟩ ?_
        rcases bifE h with ⟨hc39, h⟩ | ⟨hc39, h⟩
        ·refine Qa hC [.br true, .n 17, .adopt 10 69 1, .sayO 69 (.arr 1 (([] : List Int).map Qe)), .say 10 (.own 69 ([] : List Int).length), .keep [1, 5, 9, 10, 60, 61] [69, 74]] rfl ⟨⟨⟨tt_, hc39⟩, rfl⟩, (congrArg (fun n => V.own 69 n) (by simp))⟩ ?_
         obtain ⟨l45, hl51, h⟩ := Qb h
         refine AK.loop (body := (fun st => Qf2 arcs2 set_33 st.1 st.2)) (fun st σ => σ = ⟨[(1, .i .i64 arcs2), (5, .own 74 l34.length), (9, .i .i64 set_33), (10, .own 69 st.2.length), (60, .i .i64 arcs2), (61, .i .i64 st.1)], [(69, .arr 1 (st.2.map Qe)), (74, .arr 1 (l34.map Qv))]⟩) (fun q e σ => e = .exit 7 ∧ σ = ⟨[(1, .i .i64 arcs2), (5, .own 74 l34.length), (9, .i .i64 set_33), (10, .own 69 q.length)], [(69, .arr 1 (q.map Qe)), (74, .arr 1 (l34.map Qv))]⟩) hl51 rfl ?_ ?_
         ·rintro ⟨x41, l42⟩ o σ rfl h
          replace h : Qf2 arcs2 set_33 x41 l42 = some o := h
          unfold Qf2 at h
          refine Qa hC [.n 6] rfl tt_ ?_
          rcases bifE h with ⟨hc46, h⟩ | ⟨hc46, h⟩
          ·refine Qa hC [.br true, .n 2] rfl ⟨tt_, hc46⟩ ?_
           refine AK.meet (fun σ => ∃ l47 : (List Int), σ = ⟨[(1, .i .i64 arcs2), (5, .own 74 l34.length), (9, .i .i64 set_33), (10, .own 69 l47.length), (60, .i .i64 arcs2), (61, .i .i64 x41)], [(69, .arr 1 (l47.map Qe)), (74, .arr 1 (l34.map Qv))]⟩ ∧ Qf1 x41 l47 = some o) ?_ ?_
           ·obtain ⟨_, hk48, h⟩ := Qb h
            replace hk48 := chkE hk48
            refine Qa hC [.n 11, .o (.any (.i .i64 (shrI .i64 set_33 x41)) none), .o (.any (.i .i64 (andI .i64 (shrI .i64 set_33 x41) 1)) none), .n 3] rfl ⟨⟨tt_, (fun σ h1 h2 _ => Stp.shr rfl rfl (bleN hC.n rfl) (h1 _ _ rfl) (h1 _ _ rfl) (of_decide_eq_true hk48))⟩, (fun σ h1 h2 _ => Stp.andB rfl rfl (bleN hC.n rfl) (h1 _ _ rfl) (h1 _ _ rfl))⟩ ?_
            rcases bifE h with ⟨hc49, h⟩ | ⟨hc49, h⟩
            ·obtain ⟨_, hk50, h⟩ := Qb h
             replace hk50 := chkE hk50
             refine Qa hC [.br true, .n 3, .v (.bd []) [] (.sl 1 (([x41] : List Int).map Qe)), .app ((l42 ++ ([x41] : List Int)).map Qe) (l42 ++ ([x41] : List Int)).length, .n 3, .keep [1, 5, 9, 10, 60, 61] [69, 74]] rfl ⟨⟨⟨tt_, hc49⟩, rfl⟩, ⟨Qg, Qes hk50 Qg, Qc0, QgG Qg⟩⟩ ?_
             exact AK.met (ex_ _ (an_ rfl h))
            ·refine Qa hC [.br false, .n 2, .keep [1, 5, 9, 10, 60, 61] [69, 74]] rfl ⟨tt_, hc49⟩ ?_
             exact AK.met (ex_ _ (an_ rfl h))
           ·rintro σ ⟨l47, rfl, h⟩
            unfold Qf1 at h
            refine Qa hC [.n 4, .keep [1, 5, 9, 10, 60, 61] [69, 74]] rfl tt_ ?_
            cases h
            exact rndN rfl rfl
          ·refine Qa hC [.br false, .n 2, .keep [1, 5, 9, 10] [69, 74]] rfl ⟨tt_, hc46⟩ ?_
           cases h
           exact rndX rfl (an_ rfl rfl)
         ·replace h : Qiq l34 set_33 l45 = some o := h
          unfold Qiq at h
          rintro e σ ⟨rfl, rfl⟩
          obtain ⟨_, hk52, h⟩ := Qb h
          replace hk52 := chkE hk52
          refine Qa hC [.n 5, .frz 69 (l45.map Qe) [10, 75] [], .v (.bd []) [] (.sl 1 (([l45] : List (List Int)).map Qv)), .app ((l34 ++ ([l45] : List (List Int))).map Qv) (l34 ++ ([l45] : List (List Int))).length, .n 9, .keep [1, 5, 9] [74]] rfl ⟨⟨⟨tt_, ⟨⟨tt_, (frzL Qg)⟩, (frzL Qg)⟩⟩, rfl⟩, ⟨Qg, Qes hk52 Qg, Qc0, QgG Qg⟩⟩ ?_
          cases h
          exact rndN rfl rfl
        ·refine Qa hC [.br false, .n 2, .keep [5] [74]] rfl ⟨tt_, hc39⟩ ?_
         cases h
         exact rndX rfl (an_ rfl rfl)
       ·replace h : QhS l37 = some r := h
        unfold QhS at h
        rintro e σ ⟨rfl, rfl⟩
        refine Qa hC [.n 2, .ren 74 40005, .keep [5] [40005]] rfl tt_ ?_
        exact AK.met (ex_ _ (an_ rfl h))
      ·refine Qa hC [.br false, .n 2, .adopt 5 40005 1, .sayO 40005 (.arr 1 (([] : List (List Int)).map Qv)), .say 5 (.own 40005 ([] : List (List Int)).length), .keep [5] [40005]] rfl ⟨⟨⟨tt_, hc31⟩, rfl⟩, (congrArg (fun n => V.own 40005 n) (by simp))⟩ ?_
       exact AK.met (ex_ _ (an_ rfl h))
   ·rintro σ ⟨l10, rfl, h⟩
    unfold QcL at h
    refine Qa hC [.n 7, .keep [4] [40005], .ren 40005 30000, .keep [4] [30000]] rfl tt_ ?_
    cases h
    exact AK.done (ex_ [_] (an_ (an_ rfl tt_) (gives ⟨rfl, tt_⟩)))
def QaP (s1 : (List Int)) (s2 : (List Int)) (x6 : Int) : Option (Int ⊕ (Unit ⊕ Unit)) :=
 bif (decide (x6 < (s1.length : Int))) then
 (idx s1 x6).bind fun e9 =>
 (idx s2 x6).bind fun e10 =>
 bif (e9 != e10) then
 some (.inr (.inl ()))
 else
 some (.inl (w64 (x6 + 1)))
 else
 some (.inr (.inr ()))
def Qd5 : Option Bool :=
 some false
def Qd6 : Option Bool :=
 some true
def Qb1 (s1 : (List Int)) (s2 : (List Int)) : Option Bool :=
 bif ((s1.length : Int) != (s2.length : Int)) then
 some false
 else
 (QE (fun st => QaP s1 s2 st) 0).bind (Sum.elim (fun q => Qd5) (fun q => Qd6))
theorem Qk4 (s1 : (List Int)) (s2 : (List Int)) {r : Bool} (h : Qb1 s1 s2 = some r) : Qc Tryz.prog 139 [.sl 1 (s1.map Qe), .sl 1 (s2.map Qe)] [] (Gives (.b r) []) := by
 refine Qc.walk 26 Tryz.func139 rfl Tryz.ntmps139 rfl fun C hC => ?_
 unfold Qb1 at h
 refine Qa hC [.n 9, .o (.ln s1.length), .n 1, .o (.ln s2.length), .n 3] rfl ⟨⟨tt_, Qg⟩, Qg⟩ ?_
 rcases bifE h with ⟨hc5, h⟩ | ⟨hc5, h⟩
 ·refine Qa hC [.br true, .n 7, .keep [4] []] rfl ⟨tt_, hc5⟩ ?_
  cases h
  exact AK.done (ex_ [_] (an_ (an_ rfl tt_) (gives tt_)))
 ·refine Qa hC [.br false, .n 6, .o (.ln s1.length), .n 4, .keep [0, 1, 12, 13] []] rfl ⟨⟨tt_, hc5⟩, Qg⟩ ?_
  obtain ⟨o12, hl12, h⟩ := Qb h
  refine AK.loop (body := (fun st => QaP s1 s2 st)) (fun st σ => σ = ⟨[(0, .sl 1 (s1.map Qe)), (1, .sl 1 (s2.map Qe)), (12, .i .i64 (s1.length : Int)), (13, .i .i64 st)], []⟩) (Sum.elim (fun q e σ => e = .ret ∧ σ = ⟨[(4, .b false)], []⟩) (fun q e σ => e = .exit 0 ∧ σ = ⟨[], []⟩)) hl12 rfl ?_ ?_
  ·rintro x6 o σ rfl h
   replace h : QaP s1 s2 x6 = some o := h
   unfold QaP at h
   refine Qa hC [.n 6] rfl tt_ ?_
   rcases bifE h with ⟨hc8, h⟩ | ⟨hc8, h⟩
   ·obtain ⟨e9, he9, h⟩ := Qb h
    obtain ⟨e10, he10, h⟩ := Qb h
    refine Qa hC [.br true, .n 11, .keep [0, 1, 5, 12, 13] []] rfl ⟨tt_, hc8⟩ ?_
    refine AK.draw2 Qo hC mixed [.a .no none false, .a .no none false, .a (.row (Qe e9)) none false, .a .no none false, .a .no none false, .a .no none false, .a (.row (Qe e10)) none false, .a .no none false, .a .no none false] [] [] [0, 1, 12, 13, 24] [] rfl rfl rfl ⟨⟨tt_, (idxM he9)⟩, (idxM he10)⟩ rfl (by kernel_rfl) rfl rfl rfl ?_
    refine Qa hC [.n 1] rfl tt_ ?_
    rcases bifE h with ⟨hc11, h⟩ | ⟨hc11, h⟩
    ·refine Qa hC [.br true, .n 8, .keep [4] []] rfl ⟨tt_, hc11⟩ ?_
     cases h
     exact rndR rfl (an_ rfl rfl)
    ·refine Qa hC [.br false, .n 7, .keep [0, 1, 12, 13] []] rfl ⟨tt_, hc11⟩ ?_
     cases h
     exact rndN rfl rfl
   ·refine Qa hC [.br false, .n 2, .keep [] []] rfl ⟨tt_, hc8⟩ ?_
    cases h
    exact rndX rfl (an_ rfl rfl)
  ·rcases o12 with (_ | _)
   ·replace h : Qd5 = some r := h
    unfold Qd5 at h
    rintro e σ ⟨rfl, rfl⟩
    refine Qa hC [.n 2, .keep [4] []] rfl tt_ ?_
    cases h
    exact AK.done (ex_ [_] (an_ (an_ rfl tt_) (gives tt_)))
   ·replace h : Qd6 = some r := h
    unfold Qd6 at h
    rintro e σ ⟨rfl, rfl⟩
    refine Qa hC [.n 8, .keep [4] []] rfl tt_ ?_
    cases h
    exact AK.done (ex_ [_] (an_ (an_ rfl tt_) (gives tt_)))
def Qhy (p1 : (List Int)) (v2 : (List Int)) : Option Bool :=
 (Qb1 p1 v2).bind fun x4 =>
 some x4
theorem Qn4 (p1 : (List Int)) (v2 : (List Int)) {r : Bool} (h : Qhy p1 v2 = some r) : Qc Tryz.prog 138 [.sl 1 (p1.map Qe), .loc 200000 0 0] [(200000, .var (Qv v2))] (Gives (.b r) [(200000, .var (Qv v2))]) := by
 refine Qc.walk 7 Tryz.func138 rfl Tryz.ntmps138 rfl fun C hC => ?_
 unfold Qhy at h
 obtain ⟨x4, hx4, h⟩ := Qb h
 refine Qa hC [.n 9, .o (.c false [.d, .d] (.b x4)), .n 4, .keep [3] [200000]] rfl ⟨tt_, (Qk4 _ _ hx4)⟩ ?_
 cases h
 exact AK.done (ex_ [_] (an_ (an_ rfl tt_) (gives ⟨rfl, tt_⟩)))
def Qaz (s1 : (List (List Int))) (v2 : (List Int)) (x5 : Int) : Option (Int ⊕ (Int ⊕ Unit)) :=
 bif (decide (x5 < (s1.length : Int))) then
 (idx s1 x5).bind fun e9 =>
 (Qhy e9 v2).bind fun x10 =>
 bif x10 then
 some (.inr (.inl x5))
 else
 some (.inl (w64 (x5 + 1)))
 else
 some (.inr (.inr ()))
def QcP (x7 : Int) : Option Int :=
 some x7
def QcQ : Option Int :=
 some (-1)
def Qcb (s1 : (List (List Int))) (v2 : (List Int)) : Option Int :=
 (QE (fun st => Qaz s1 v2 st) 0).bind (Sum.elim (fun q => QcP q) (fun q => QcQ))
theorem Qj2 (s1 : (List (List Int))) (v2 : (List Int)) {r : Int} (h : Qcb s1 v2 = some r) : Qc Tryz.prog 190 [.sl 1 (s1.map Qv), .clo (.func 138) [] [.loc 200000 0 0]] [(200000, .var (Qv v2))] (Gives (.i .i64 r) [(200000, .var (Qv v2))]) := by
 refine Qc.walk 19 Tryz.func190 rfl Tryz.ntmps190 rfl fun C hC => ?_
 unfold Qcb at h
 refine Qa hC [.n 9, .o (.ln s1.length), .n 4, .keep [0, 1, 7, 8] [200000]] rfl ⟨tt_, Qg⟩ ?_
 obtain ⟨o12, hl12, h⟩ := Qb h
 refine AK.loop (body := (fun st => Qaz s1 v2 st)) (fun st σ => σ = ⟨[(0, .sl 1 (s1.map Qv)), (1, .clo (.func 138) [] [.loc 200000 0 0]), (7, .i .i64 (s1.length : Int)), (8, .i .i64 st)], [(200000, .var (Qv v2))]⟩) (Sum.elim (fun q e σ => e = .ret ∧ σ = ⟨[(4, .i .i64 q)], [(200000, .var (Qv v2))]⟩) (fun q e σ => e = .exit 0 ∧ σ = ⟨[], [(200000, .var (Qv v2))]⟩)) hl12 rfl ?_ ?_
 ·rintro x5 o σ rfl h
  replace h : Qaz s1 v2 x5 = some o := h
  unfold Qaz at h
  refine Qa hC [.n 6] rfl tt_ ?_
  rcases bifE h with ⟨hc8, h⟩ | ⟨hc8, h⟩
  ·obtain ⟨e9, he9, h⟩ := Qb h
   obtain ⟨x10, hx10, h⟩ := Qb h
   refine Qa hC [.br true, .n 15, .o (.row (Qv e9)), .n 1, .cm (.clo) [(200000, 200000)] [(200000, 200000)] [] [.d, .d] [(200000, .var (Qv v2))] (.b x10), .n 2] rfl ⟨⟨⟨tt_, hc8⟩, (idxM he9)⟩, (Qn4 _ _ hx10)⟩ ?_
   rcases bifE h with ⟨hc11, h⟩ | ⟨hc11, h⟩
   ·refine Qa hC [.br true, .n 9, .keep [4] [200000]] rfl ⟨tt_, hc11⟩ ?_
    cases h
    exact rndR rfl (an_ rfl rfl)
   ·refine Qa hC [.br false, .n 7, .keep [0, 1, 7, 8] [200000]] rfl ⟨tt_, hc11⟩ ?_
    cases h
    exact rndN rfl rfl
  ·refine Qa hC [.br false, .n 2, .keep [] [200000]] rfl ⟨tt_, hc8⟩ ?_
   cases h
   exact rndX rfl (an_ rfl rfl)
 ·rcases o12 with (x7 | _)
  ·replace h : QcP x7 = some r := h
   unfold QcP at h
   rintro e σ ⟨rfl, rfl⟩
   refine Qa hC [.n 2, .keep [4] [200000]] rfl tt_ ?_
   cases h
   exact AK.done (ex_ [_] (an_ (an_ rfl tt_) (gives ⟨rfl, tt_⟩)))
  ·replace h : QcQ = some r := h
   unfold QcQ at h
   rintro e σ ⟨rfl, rfl⟩
   refine Qa hC [.n 8, .keep [4] [200000]] rfl tt_ ?_
   cases h
   exact AK.done (ex_ [_] (an_ (an_ rfl tt_) (gives ⟨rfl, tt_⟩)))
def Qbz (s1 : (List (List Int))) (v2 : (List Int)) : Option Bool :=
 (Qcb s1 v2).bind fun x4 =>
 some (decide (0 ≤ x4))
theorem Qi2 (s1 : (List (List Int))) (v2 : (List Int)) {r : Bool} (h : Qbz s1 v2 = some r) : Qc Tryz.prog 136 [.sl 1 (s1.map Qv), .clo (.func 138) [] [.loc 200000 0 0]] [(200000, .var (Qv v2))] (Gives (.b r) [(200000, .var (Qv v2))]) := by
 refine Qc.walk 9 Tryz.func136 rfl Tryz.ntmps136 rfl fun C hC => ?_
 unfold Qbz at h
 obtain ⟨x4, hx4, h⟩ := Qb h
 refine Qa hC [.n 9, .cm (.fn) [(200000, 200000)] [(200000, 200000)] [] [.d, .d] [(200000, .var (Qv v2))] (.i .i64 x4), .n 5, .keep [4] [200000]] rfl ⟨tt_, (Qj2 _ _ hx4)⟩ ?_
 cases h
 exact AK.done (ex_ [_] (an_ (an_ rfl tt_) (gives ⟨rfl, tt_⟩)))
def Qfa (kind1 : Int) (arcs2 : Int) (row3 : (List Int)) : Option Bool :=
 (Qcj kind1 arcs2).bind fun x5 =>
 (Qbz x5 row3).bind fun x6 =>
 some x6
theorem Qlp (kind1 : Int) (arcs2 : Int) (row3 : (List Int)) {r : Bool} (h : Qfa kind1 arcs2 row3 = some r) : Qc Tryz.prog 72 [.i .i64 kind1, .i .i64 arcs2, .sl 1 (row3.map Qe)] [] (Gives (.b r) []) := by
 refine Qc.walk 12 Tryz.func72 rfl Tryz.ntmps72 rfl fun C hC => ?_
 unfold Qfa at h
 obtain ⟨x5, hx5, h⟩ := Qb h
 obtain ⟨x6, hx6, h⟩ := Qb h
 refine Qa hC [.n 10, .o (.co false [.d, .d] 1 (x5.map Qv) x5.length), .n 1, .frz 9 (x5.map Qv) [9] [], .cm (.fn) [(200000, 5)] [(5, 200000)] [] [.d, .d] [(200000, .var (Qv row3))] (.b x6), .n 4, .keep [6] []] rfl ⟨⟨⟨tt_, ⟨(Qir _ _ hx5), Qg, .inl rfl⟩⟩, ⟨tt_, (frzL Qg)⟩⟩, (Qi2 _ _ hx6)⟩ ?_
 cases h
 exact AK.done (ex_ [_] (an_ (an_ rfl tt_) (gives tt_)))
def Qck (x8 : (Bool × Qaa)) (n10 : Int) : Option (Int × Bool) :=
 (Qc2 x8.2 n10).bind fun x11 =>
 bif (!x11) then
 some (0, false)
 else
 some (n10, true)
def Qfj (l1 : (List Qy)) (k2 : Int) (n3 : Int) : Option (Int × Bool) :=
 (QfH l1 k2).bind fun x8 =>
 bif (!x8.1) then
 some (0, false)
 else
 (Qbo x8.2).bind fun x13 =>
 bif (x13.Kind == 1) then
 bif ((decide (n3 < x13.Lo)) || (decide (x13.Hi < n3))) then
 some (0, false)
 else
 Qck x8 (w64 (n3 - x13.Lo))
 else
 Qck x8 n3
theorem Qn5 (l1 : (List Qy)) (k2 : Int) (n3 : Int) {r : (Int × Bool)} (h : Qfj l1 k2 n3 = some r) : Qc Tryz.prog 96 [.sl 7 (l1.map Qu), .i .i64 k2, .i .i64 n3] [] (Gives (.tup [.i .i64 r.1, .b r.2]) []) := by
 refine Qc.walk 43 Tryz.func96 rfl Tryz.ntmps96 rfl fun C hC => ?_
 unfold Qfj at h
 obtain ⟨x8, hx8, h⟩ := Qb h
 refine Qa hC [.n 10, .o (.c false [.d, .d] (.tup [.agg (QI x8.2), .b x8.1])), .n 5, .sayO 8 (.var (QI x8.2)), .n 10] rfl ⟨⟨tt_, (Qj7 _ _ hx8)⟩, rfl⟩ ?_
 rcases bifE h with ⟨hc9, h⟩ | ⟨hc9, h⟩
 ·refine Qa hC [.br true, .n 8, .keep [6, 7] []] rfl ⟨tt_, hc9⟩ ?_
  cases h
  exact AK.done (ex_ [_, _] (an_ (an_ rfl (an_ rfl tt_)) (gives tt_)))
 ·refine Qa hC [.br false, .n 2] rfl ⟨tt_, hc9⟩ ?_
  refine AK.meet (fun σ => ∃ n10 : Int, σ = ⟨[(2, .i .i64 n10), (8, .loc 8 0 0)], [(8, .var (QI x8.2))]⟩ ∧ Qck x8 n10 = some r) ?_ ?_
  ·obtain ⟨x13, hx13, h⟩ := Qb h
   refine Qa hC [.n 2, .v .no [] (.agg (QI x8.2)), .o (.c false [.d] (.agg (Qu x13))), .n 2, .sayO 10 (.var (Qu x13)), .n 9] rfl ⟨⟨⟨tt_, rfl⟩, (QfI _ hx13)⟩, rfl⟩ ?_
   rcases bifE h with ⟨hc14, h⟩ | ⟨hc14, h⟩
   ·refine Qa hC [.br true, .n 2] rfl ⟨tt_, hc14⟩ ?_
    refine AK.meetX (fun σ => σ = ⟨[(2, .i .i64 n3), (8, .loc 8 0 0), (10, .loc 10 0 0), (33, .b ((decide (n3 < x13.Lo)) || (decide (x13.Hi < n3))))], [(8, .var (QI x8.2)), (10, .var (Qu x13))]⟩) ?_ ?_
    ·refine Qa hC [.n 6] rfl tt_ ?_
     rcases QJ (decide (n3 < x13.Lo)) with hc16 | hc16
     ·refine Qa hC [.say 28 (.b true), .n 6, .say 33 (.b ((decide (n3 < x13.Lo)) || (decide (x13.Hi < n3)))), .keep [2, 8, 10, 33] [8, 10]] rfl ⟨⟨tt_, (congrArg V.b hc16)⟩, (congrArg V.b (orT hc16 rfl))⟩ ?_
      exact AK.met rfl
     ·refine Qa hC [.say 28 (.b false), .n 6, .say 33 (.b ((decide (n3 < x13.Lo)) || (decide (x13.Hi < n3)))), .keep [2, 8, 10, 33] [8, 10]] rfl ⟨⟨tt_, (congrArg V.b hc16)⟩, (congrArg V.b (orF hc16 rfl))⟩ ?_
      exact AK.met rfl
    ·rintro σ rfl
     refine Qa hC [.n 1] rfl tt_ ?_
     rcases bifE h with ⟨hc17, h⟩ | ⟨hc17, h⟩
     ·refine Qa hC [.br true, .n 9, .keep [6, 7] []] rfl ⟨tt_, hc17⟩ ?_
      cases h
      exact AK.done (ex_ [_, _] (an_ (an_ rfl (an_ rfl tt_)) (gives tt_)))
     ·refine Qa hC [.br false, .n 9, .keep [2, 8] [8]] rfl ⟨tt_, hc17⟩ ?_
      exact AK.met (ex_ _ (an_ rfl h))
   ·refine Qa hC [.br false, .n 1, .keep [2, 8] [8]] rfl ⟨tt_, hc14⟩ ?_
    exact AK.met (ex_ _ (an_ rfl h))
  ·rintro σ ⟨n10, rfl, h⟩
   unfold Qck at h
   obtain ⟨x11, hx11, h⟩ := Qb h
   refine Qa hC [.n 3, .v .no [] (.agg (QI x8.2)), .n 1, .o (.c false [.d, .d] (.b x11)), .n 3] rfl ⟨⟨tt_, rfl⟩, (Qj4 _ _ hx11)⟩ ?_
   rcases bifE h with ⟨hc12, h⟩ | ⟨hc12, h⟩
   ·refine Qa hC [.br true, .n 8, .keep [6, 7] []] rfl ⟨tt_, hc12⟩ ?_
    cases h
    exact AK.done (ex_ [_, _] (an_ (an_ rfl (an_ rfl tt_)) (gives tt_)))
   ·refine Qa hC [.br false, .n 10, .keep [6, 7] []] rfl ⟨tt_, hc12⟩ ?_
    cases h
    exact AK.done (ex_ [_, _] (an_ (an_ rfl (an_ rfl tt_)) (gives tt_)))
def Qbq (m1 : (List (Int × Int))) : Option Unit :=
 some ()
theorem QiB (m1 : (List (Int × Int))) {r : Unit} (h : Qbq m1 = some r) : Qc Tryz.prog 92 [.map 200000] [(200000, .map (mapV (V.i .i64) (V.i .i64) m1))] (Gives (.clo (.func 159) [] [.loc 1 0 0]) [(1, .var [.map 200000]), (200000, .map (mapV (V.i .i64) (V.i .i64) m1))]) := by
 refine Qc.walk 4 Tryz.func92 rfl Tryz.ntmps92 rfl fun C hC => ?_
 unfold Qbq at h
 refine Qa hC [.n 13, .keep [2] [1, 200000]] rfl tt_ ?_
 cases h
 exact AK.done (ex_ [_] (an_ (an_ rfl tt_) (gives ⟨rfl, rfl, tt_⟩)))
def QaQ (l1 : (List Int)) (p2 : Int) : Option (List Int) :=
 (chk (decide (l1.length + ([p2] : List Int).length ≤ 4294967296))).bind fun _ =>
 some (l1 ++ ([p2] : List Int))
theorem Qhi (lpl lpf : Nat) (l1 : (List Int)) (p2 : Int) {r : (List Int)} (h : QaQ l1 p2 = some r) : Qku Tryz.prog lpl (Qet lpf) [.J, .J, .loc 200001 0 0, .J, .J, .J, .J, .i .i64 p2, .J, .J, .J, .J, .J] [(200000, .lp lpl (Qet lpf) [.J, .J, .loc 200001 0 0, .J, .J, .J, .J, .J, .J, .J, .J, .J, .J] 0), (200001, .var [.own 100000 l1.length]), (100000, .arr 1 (l1.map Qe))] (Gives (.b true) [(100000, .arr 1 (r.map Qe)), (200000, .lp lpl (Qet lpf) [.J, .J, .loc 200001 0 0, .J, .J, .J, .J, .J, .J, .J, .J, .J, .J] 0), (200001, .var [.own 100000 r.length])]) := by
 refine Qku.walk (b := 200000) 13 rfl rfl fun C hC => ?_
 unfold QaQ at h
 refine Qa hC [.n 3] rfl tt_ ?_
 refine AK.done (an_ rfl (ex_ _ (an_ rfl ?_)))
 obtain ⟨_, hk4, h⟩ := Qb h
 replace hk4 := chkE hk4
 refine Qa hC [.n 4, .v (.bd []) [] (.sl 1 (([p2] : List Int).map Qe)), .app ((l1 ++ ([p2] : List Int)).map Qe) (l1 ++ ([p2] : List Int)).length, .n 1, .sayO 200001 (.var [.own 100000 (l1 ++ ([p2] : List Int)).length]), .n 2, .keep [] [100000, 200000, 200001]] rfl ⟨⟨⟨tt_, rfl⟩, ⟨Qg, Qes hk4 Qg, Qc0, QgG Qg⟩⟩, rfl⟩ ?_
 cases h
 refine AK.done ?_
 exact ex_ _ (an_ rfl (gives ⟨rfl, rfl, rfl, tt_⟩))
theorem Qif (lpl lpf : Nat) (l1 : (List Int)) (m2 : (List (Int × Int))) (hlen : l1.length + m2.length ≤ 4294967296) : Qc Tryz.prog 159 [.clo (.yield lpl) [] [], .loc 200002 0 0] [(200000, .lp lpl (Qet lpf) [.J, .J, .loc 200001 0 0, .J, .J, .J, .J, .J, .J, .J, .J, .J, .J] 0), (200001, .var [.own 100000 l1.length]), (100000, .arr 1 (l1.map Qe)), (200002, .var [.map 200003]), (200003, .map (mapV (V.i .i64) (V.i .i64) m2))] (fun v hs => ∃ r : List Int, r.Perm (l1 ++ m2.map Prod.fst) ∧ Gives (.tup []) [(100000, .arr 1 (r.map Qe)), (200000, .lp lpl (Qet lpf) [.J, .J, .loc 200001 0 0, .J, .J, .J, .J, .J, .J, .J, .J, .J, .J] 0), (200001, .var [.own 100000 r.length]), (200002, .var [.map 200003]), (200003, .map (mapV (V.i .i64) (V.i .i64) m2))] v hs) := by
 refine Qc.walk 14 Tryz.func159 rfl Tryz.ntmps159 rfl fun C hC => ?_
 refine Qa hC [.n 3] rfl tt_ ?_
 refine AK.openMap (b := 200003) ky_3 rfl fun bm4 cl4 L4 hbn4 hpm4 => ?_
 refine Qa hC [.x (fun σ => (σ.set 5 (.itr bm4 cl4 #[] none)).put 5 (.loc 5 0 0)), .n 3, .keep [0, 5] [5, 100000, 200000, 200001, 200002, 200003]] rfl ⟨tt_, (Stp.range (b := 200003) rfl rfl (bleN hC.n rfl) rfl rfl QgH rfl)⟩ ?_
 have hL0 : QaM L4 #[] = L4 := by simp [QaM]
 have hp0 : (l1 ++ (QaM L4 #[]).map (fun q => q.2.1)).Perm (l1 ++ m2.map Prod.fst) := by
  rw [hL0]
  refine List.Perm.append_left l1 ?_
  have := hpm4.map Prod.fst
  rwa [List.map_map] at this
 refine AK.range (body := cntM) (fun (_ : Nat) seen σ => ∃ (cur : Option MapEntry) (st : List Int), (st ++ (QaM L4 seen).map (fun q => q.2.1)).Perm (l1 ++ m2.map Prod.fst) ∧ σ = ⟨[(0, .clo (.yield lpl) [] []), (5, .loc 5 0 0)], [(5, .itr bm4 cl4 seen cur), (100000, .arr 1 (st.map Qe)), (200000, .lp lpl (Qet lpf) [.J, .J, .loc 200001 0 0, .J, .J, .J, .J, .J, .J, .J, .J, .J, .J] 0), (200001, .var [.own 100000 st.length]), (200002, .var [.map 200003]), (200003, .mapX bm4 cl4 (typV (V.i .i64) (V.i .i64) L4) (mapV (V.i .i64) (V.i .i64) m2))]⟩) (fun (q : Empty) _ _ => False) (fun _ e σ => ∃ st : List Int, st.Perm (l1 ++ m2.map Prod.fst) ∧ e = .exit 0 ∧ σ = ⟨[], [(100000, .arr 1 (st.map Qe)), (200000, .lp lpl (Qet lpf) [.J, .J, .loc 200001 0 0, .J, .J, .J, .J, .J, .J, .J, .J, .J, .J] 0), (200001, .var [.own 100000 st.length]), (200002, .var [.map 200003]), (200003, .mapX bm4 cl4 (typV (V.i .i64) (V.i .i64) L4) (mapV (V.i .i64) (V.i .i64) m2))]⟩) hbn4 hpm4 (Qts m2 0) (ex_ _ (ex_ l1 (an_ hp0 rfl))) ?_ ?_
 ·rintro n0 seen σ ⟨cur, l6, hpp, rfl⟩ hex
  refine Qa hC [.n 2] rfl tt_ ?_
  refine AK.nextT (b := 5) (m := 200003) rfl rfl rfl (bleN hC.n rfl) rfl rfl rfl rfl ?_ ?_
  ·intro hleft
   refine Qa hC [.n 7, .keep [] [100000, 200000, 200001, 200002, 200003]] rfl tt_ ?_
   exact AK.done (Or.inl (an_ hleft (an_ (fun h => (by cases h)) (ex_ l6 (an_ (by simpa [hleft] using hpp) (an_ rfl rfl))))))
  ·intro xk8 k8 v9 hq5
   have hpk := (QmZ hbn4 hq5).map (fun q => q.2.1)
   have hp2 : ((l6 ++ [k8]) ++ (QaM L4 (seen.push xk8.born)).map (fun q => q.2.1)).Perm (l1 ++ m2.map Prod.fst) := List.Perm.trans (by simpa using (List.Perm.append_left l6 hpk).symm) hpp
   have hl2 : l6.length + ([k8] : List Int).length ≤ 4294967296 := by
    have := hp2.length_eq
    simp at this ⊢
    omega
   have hx10 : QaQ l6 k8 = some (l6 ++ [k8]) := by
    unfold QaQ
    rw [decide_eq_true hl2]; rfl
   obtain ⟨x10, hxe⟩ : ∃ x, x = l6 ++ [k8] := ⟨_, rfl⟩
   rw [← hxe] at hx10 hp2
   refine Qa hC [.n 10, .x (fun σ => σ.put 8 (.tup [.i .i64 k8, .i .i64 v9])), .n 8, .x (fun σ => (σ.after [100000] [(100000, .arr 1 (x10.map Qe)), (200000, .lp lpl (Qet lpf) [.J, .J, .loc 200001 0 0, .J, .J, .J, .J, .J, .J, .J, .J, .J, .J] 0), (200001, .var [.own 100000 x10.length])]).put 12 (.b true)), .n 6, .keep [0, 5] [5, 100000, 200000, 200001, 200002, 200003]] rfl ⟨⟨tt_, (Stp.entryT (b := 5) (m := 200003) rfl rfl (bleN hC.n rfl) rfl hq5 rfl rfl)⟩, (Stp.yieldV (b := 200000) (M := [(200000, 200000), (200001, 200001), (100000, 100000)]) (N := [(100000, 100000), (200000, 200000), (200001, 200001)]) (dead := [100000]) (ms := [.d, .d, .d, .d, .d, .d, .d, .d, .d, .d, .d, .d, .d]) (outs := [(100000, .arr 1 (x10.map Qe)), (200000, .lp lpl (Qet lpf) [.J, .J, .loc 200001 0 0, .J, .J, .J, .J, .J, .J, .J, .J, .J, .J] 0), (200001, .var [.own 100000 x10.length])]) (r := .b true) rfl rfl rfl rfl rfl rfl rfl (bleN hC.n rfl) hC.g rfl rfl (Qhi _ _ _ _ hx10))⟩ ?_
   exact AK.done (Or.inr (ex_ _ (an_ hq5 (Or.inl (ex_ (n0 + 1) (an_ rfl (an_ rfl (ex_ _ (ex_ x10 (an_ hp2 rfl))))))))))
 ·rintro e σ ⟨l6, hpp, rfl, rfl⟩
  refine Qa hC [.n 1] rfl tt_ ?_
  refine AK.closeMap (b := 200003) rfl ?_
  refine Qa hC [.keep [] [100000, 200000, 200001, 200002, 200003]] rfl tt_ ?_
  refine AK.done ?_
  exact ex_ [] (an_ tt_ (ex_ l6 (an_ hpp (gives ⟨rfl, rfl, rfl, rfl, rfl, tt_⟩))))
theorem Qj3 (m1 : (List (Int × Int))) (hlen : m1.length ≤ 4294967296) : Qc Tryz.prog 201 [.lit (.slice none 0 0), .clo (.func 159) [] [.loc 200000 0 0]] [(200000, .var [.map 200001]), (200001, .map (mapV (V.i .i64) (V.i .i64) m1))] (fun v hs => ∃ r : List Int, r.Perm (m1.map Prod.fst) ∧ Gives (.own 30000 r.length) [(30000, .arr 1 (r.map Qe)), (200000, .var [.map 200001]), (200001, .map (mapV (V.i .i64) (V.i .i64) m1))] v hs) := by
 refine Qc.walkR 13 Tryz.func201 rfl Tryz.ntmps201 rfl fun C hC hR => ?_
 refine Qa hC [.n 13, .keep [2, 4, 6] [2, 200000, 200001]] rfl tt_ ?_
 refine Qa hC [.adoptO 2 0 45040 1, .sayO 45040 (.arr 1 (([] : List Int).map Qe)), .sayO 2 (.var [.own 45040 ([] : List Int).length])] rfl ⟨⟨tt_, rfl⟩, rfl⟩ ?_
 refine AK.rangeFE (ι := List Int) (Φ := fun x => x.Perm (m1.map Prod.fst)) 60000 [2] [(200000, 60000), (200001, 2), (100000, 45040), (200002, 200000), (200003, 200001)] [(45040, 100000), (60000, 200000), (2, 200001), (200000, 200002), (200001, 200003)] [45040] [.d, .d] Qet hC hR (fun _ => rfl) rfl rfl rfl rfl fun lpl lpf => ?_
 refine ex_ (fun x3 : List Int => [(100000, .arr 1 (x3.map Qe)), (200000, .lp lpl (Qet lpf) [.J, .J, .loc 200001 0 0, .J, .J, .J, .J, .J, .J, .J, .J, .J, .J] 0), (200001, .var [.own 100000 x3.length]), (200002, .var [.map 200003]), (200003, .map (mapV (V.i .i64) (V.i .i64) m1))]) (ex_ (fun _ => .tup []) (ex_ (fun x3 => _) (ex_ _ (ex_ _ (an_ rfl (an_ rfl (an_ (Qif _ _ ([] : List Int) m1 (by simpa using hlen)) fun x3 => ex_ _ (ex_ [.J, .J, .loc 2 0 0, .J, .J, .J, .J, .J, .J, .J, .J, .J, .J] (ex_ 0 (an_ rfl (an_ rfl (an_ (bne_iff_ne.1 (show (0 != 1) = true from rfl)) fun hpp => ?_))))))))))))
 refine atJ0 rfl ?_
 refine Qa hC [.n 9, .keep [4] [45040, 200000, 200001], .ren 45040 30000, .keep [4] [30000, 200000, 200001]] rfl tt_ ?_
 exact AK.done (ex_ [_] (an_ (an_ rfl tt_) (ex_ x3 (an_ hpp (gives ⟨rfl, rfl, rfl, tt_⟩)))))
theorem QlP (m1 : (List (Int × Int))) (hlen : m1.length ≤ 4294967296) : Qc Tryz.prog 158 [.clo (.func 159) [] [.loc 200000 0 0]] [(200000, .var [.map 200001]), (200001, .map (mapV (V.i .i64) (V.i .i64) m1))] (fun v hs => ∃ r : List Int, r.Perm (m1.map Prod.fst) ∧ Gives (.own 30000 r.length) [(30000, .arr 1 (r.map Qe)), (200000, .var [.map 200001]), (200001, .map (mapV (V.i .i64) (V.i .i64) m1))] v hs) := by
 refine Qc.walk 5 Tryz.func158 rfl Tryz.ntmps158 rfl fun C hC => ?_
 refine Qa hC [.n 8] rfl tt_ ?_
 refine AK.callE (ι := List Int) (Φ := fun x => x.Perm (m1.map Prod.fst)) [(200000, 200000), (200001, 200001)] [(4, 30000), (200000, 200000), (200001, 200001)] [] [.d, .d] (fun x3 => [(30000, .arr 1 (x3.map Qe)), (200000, .var [.map 200001]), (200001, .map (mapV (V.i .i64) (V.i .i64) m1))]) (fun x3 => (.own 30000 x3.length)) (fun x3 => _) rfl hC (QaX.fn rfl rfl rfl) rfl (bleN hC.n rfl) rfl rfl (Qj3 m1 hlen) (fun x3 => ex_ _ rfl) fun x3 hpp => ?_
 refine Qa hC [.n 4, .keep [2] [4, 200000, 200001], .ren 4 30000, .keep [2] [30000, 200000, 200001]] rfl tt_ ?_
 exact AK.done (ex_ [_] (an_ (an_ rfl tt_) (ex_ x3 (an_ hpp (gives ⟨rfl, rfl, rfl, tt_⟩)))))
def QaZ (l : List Int) : Option (List Int) := (chk (decide (l.length < 4611686018427387904))).bind fun _ => some (QbS l)
theorem QhT (l : List Int) {r : List Int} (h : QaZ l = some r) : Qc Tryz.prog 143 [.own 200000 l.length] [(200000, .arr 1 (l.map Qe))] (Gives (.tup []) [(200000, .arr 1 (r.map Qe))]) := by
 unfold QaZ at h
 obtain ⟨_, h1, h⟩ := Qb h
 cases h
 exact Qsj Qtw l (of_decide_eq_true (chkE h1))
def Qe0 (m1 : (List (Int × Int))) : Option (List Int) :=
 (chk (decide (m1.length ≤ 4294967296))).bind fun _ =>
 some (QbS (m1.map Prod.fst))
theorem Qmf (m1 : (List (Int × Int))) {r : (List Int)} (h : Qe0 m1 = some r) : Qc Tryz.prog 91 [.clo (.func 159) [] [.loc 200000 0 0]] [(200000, .var [.map 200001]), (200001, .map (mapV (V.i .i64) (V.i .i64) m1))] (Gives (.own 30000 r.length) [(30000, .arr 1 (r.map Qe)), (200000, .var [.map 200001]), (200001, .map (mapV (V.i .i64) (V.i .i64) m1))]) := by
 refine Qc.walk 9 Tryz.func91 rfl Tryz.ntmps91 rfl fun C hC => ?_
 unfold Qe0 at h
 obtain ⟨_, hlen, h⟩ := Qb h
 replace hlen := of_decide_eq_true (chkE hlen)
 cases h
 refine Qa hC [.n 8] rfl tt_ ?_
 refine AK.callE (ι := List Int) (Φ := fun x => x.Perm (m1.map Prod.fst)) [(200000, 200000), (200001, 200001)] [(5, 30000), (200000, 200000), (200001, 200001)] [] [.d] (fun x3 => [(30000, .arr 1 (x3.map Qe)), (200000, .var [.map 200001]), (200001, .map (mapV (V.i .i64) (V.i .i64) m1))]) (fun x3 => (.own 30000 x3.length)) (fun x3 => _) rfl hC (QaX.fn rfl rfl rfl) rfl (bleN hC.n rfl) rfl rfl (QlP m1 hlen) (fun x3 => ex_ _ rfl) fun x3 hpp => ?_
 have hx4 : QaZ x3 = some (QbS (m1.map Prod.fst)) := by
  unfold QaZ
  rw [decide_eq_true (by have := hpp.length_eq; simp at this; omega), QsW hpp]; rfl
 have hk5 : (QbS (m1.map Prod.fst)).length = x3.length := by rw [Qjg, hpp.length_eq]
 refine Qa hC [.n 6, .cm (.fn) [(200000, 5)] [(5, 200000)] [] [.d] [(200000, .arr 1 (((QbS (m1.map Prod.fst))).map Qe))] (.tup []), .say 3 (.own 5 (QbS (m1.map Prod.fst)).length), .say 5 (.own 5 (QbS (m1.map Prod.fst)).length), .say 6 (.own 5 (QbS (m1.map Prod.fst)).length), .n 9, .keep [2] [5, 200000, 200001], .ren 5 30000, .keep [2] [30000, 200000, 200001]] rfl ⟨⟨⟨⟨tt_, (QhT _ hx4)⟩, (by simp [hk5])⟩, (by simp [hk5])⟩, (by simp [hk5])⟩ ?_
 exact AK.done (ex_ [_] (an_ (an_ rfl tt_) (gives ⟨rfl, rfl, rfl, tt_⟩)))
def QbU (x6 : Int) (l12 : (List (Int × Int))) : Option ((Int × (List (Int × Int))) ⊕ (List (Int × Int))) :=
 some (.inl ((w64 (x6 + 1)), l12))
def QaG (x4 : (List Int)) (m1 : (List (Int × Int))) (x6 : Int) (l7 : (List (Int × Int))) : Option ((Int × (List (Int × Int))) ⊕ (List (Int × Int))) :=
 bif (decide (x6 < (x4.length : Int))) then
 (idx x4 x6).bind fun e13 =>
 bif (decide (0 < ((mget m1 e13).getD 0))) then
 (chk (decide (l7.length + ([(e13, ((mget m1 e13).getD 0))] : List (Int × Int)).length ≤ 4294967296))).bind fun _ =>
 QbU x6 (l7 ++ ([(e13, ((mget m1 e13).getD 0))] : List (Int × Int)))
 else
 QbU x6 l7
 else
 some (.inr l7)
def Qhj (l10 : (List (Int × Int))) : Option (List (Int × Int)) :=
 some l10
def Qce (m1 : (List (Int × Int))) : Option (List (Int × Int)) :=
 (Qbq m1).bind fun x3 =>
 (Qe0 m1).bind fun x4 =>
 (QE (fun st => QaG x4 m1 st.1 st.2) (0, ([] : List (Int × Int)))).bind (fun q => Qhj q)
theorem Qhk (m1 : (List (Int × Int))) {r : (List (Int × Int))} (h : Qce m1 = some r) : Qc Tryz.prog 48 [.map 200000] [(200000, .map (mapV (V.i .i64) (V.i .i64) m1))] (Gives (.own 30000 r.length) [(30000, .arr 2 (r.map Qt)), (200000, .map (mapV (V.i .i64) (V.i .i64) m1))]) := by
 refine Qc.walk 28 Tryz.func48 rfl Tryz.ntmps48 rfl fun C hC => ?_
 unfold Qce at h
 obtain ⟨x3, hx3, h⟩ := Qb h
 obtain ⟨x4, hx4, h⟩ := Qb h
 refine Qa hC [.n 14, .cm (.fn) [(200000, 200000)] [(7, 1), (200000, 200000)] [] [.d] [(1, .var [.map 200000]), (200000, .map (mapV (V.i .i64) (V.i .i64) m1))] (.clo (.func 159) [] [.loc 1 0 0]), .cm (.fn) [(200000, 7), (200001, 200000)] [(8, 30000), (7, 200000), (200000, 200001)] [] [.d] [(30000, .arr 1 (x4.map Qe)), (200000, .var [.map 200001]), (200001, .map (mapV (V.i .i64) (V.i .i64) m1))] (.own 30000 x4.length), .n 5, .adopt 3 18 2, .sayO 18 (.arr 2 (([] : List (Int × Int)).map Qt)), .say 3 (.own 18 ([] : List (Int × Int)).length), .keep [0, 3, 8, 9, 10] [8, 18, 200000]] rfl ⟨⟨⟨⟨tt_, (QiB _ hx3)⟩, (Qmf _ hx4)⟩, rfl⟩, (congrArg (fun n => V.own 18 n) (by simp))⟩ ?_
 obtain ⟨l10, hl16, h⟩ := Qb h
 refine AK.loop (body := (fun st => QaG x4 m1 st.1 st.2)) (fun st σ => σ = ⟨[(0, .map 200000), (3, .own 18 st.2.length), (8, .own 8 x4.length), (9, .i .i64 (x4.length : Int)), (10, .i .i64 st.1)], [(8, .arr 1 (x4.map Qe)), (18, .arr 2 (st.2.map Qt)), (200000, .map (mapV (V.i .i64) (V.i .i64) m1))]⟩) (fun q e σ => e = .exit 0 ∧ σ = ⟨[(3, .own 18 q.length)], [(18, .arr 2 (q.map Qt)), (200000, .map (mapV (V.i .i64) (V.i .i64) m1))]⟩) hl16 rfl ?_ ?_
 ·rintro ⟨x6, l7⟩ o σ rfl h
  replace h : QaG x4 m1 x6 l7 = some o := h
  unfold QaG at h
  refine Qa hC [.n 6] rfl tt_ ?_
  rcases bifE h with ⟨hc11, h⟩ | ⟨hc11, h⟩
  ·refine Qa hC [.br true, .n 2] rfl ⟨tt_, hc11⟩ ?_
   refine AK.meet (fun σ => ∃ l12 : (List (Int × Int)), σ = ⟨[(0, .map 200000), (3, .own 18 l12.length), (8, .own 8 x4.length), (9, .i .i64 (x4.length : Int)), (10, .i .i64 x6)], [(8, .arr 1 (x4.map Qe)), (18, .arr 2 (l12.map Qt)), (200000, .map (mapV (V.i .i64) (V.i .i64) m1))]⟩ ∧ QbU x6 l12 = some o) ?_ ?_
   ·obtain ⟨e13, he13, h⟩ := Qb h
    refine Qa hC [.n 4, .o (.row (Qe e13)), .n 7, .o (.any (.i .i64 ((mget m1 e13).getD 0)) none), .n 3] rfl ⟨⟨⟨tt_, (QeX he13 rfl)⟩, (Qcz (idxE he13).2)⟩, (fun σ h1 h2 _ => Stp.lookup (e := (V.i .i64)) (f := (V.i .i64)) (l := m1) (k := e13) (z := 0) rfl rfl (bleN hC.n rfl) (h1 _ _ rfl) (h2 _ _ rfl) (h1 _ _ rfl) QgH ky_3 zi_3 rfl)⟩ ?_
    rcases bifE h with ⟨hc14, h⟩ | ⟨hc14, h⟩
    ·obtain ⟨_, hk15, h⟩ := Qb h
     replace hk15 := chkE hk15
     refine Qa hC [.br true, .n 5, .o (.any (.i .i64 ((mget m1 e13).getD 0)) none), .v .no [] (.agg (Qt (e13, ((mget m1 e13).getD 0)))), .v (.bd []) [] (.sl 2 (([(e13, ((mget m1 e13).getD 0))] : List (Int × Int)).map Qt)), .app ((l7 ++ ([(e13, ((mget m1 e13).getD 0))] : List (Int × Int))).map Qt) (l7 ++ ([(e13, ((mget m1 e13).getD 0))] : List (Int × Int))).length, .n 3, .keep [0, 3, 8, 9, 10] [8, 18, 200000]] rfl ⟨⟨⟨⟨⟨tt_, hc14⟩, (fun σ h1 h2 _ => Stp.lookup (e := (V.i .i64)) (f := (V.i .i64)) (l := m1) (k := e13) (z := 0) rfl rfl (bleN hC.n rfl) (h1 _ _ rfl) (h2 _ _ rfl) (h1 _ _ rfl) QgH ky_3 zi_3 rfl)⟩, rfl⟩, rfl⟩, ⟨Qg, Qes hk15 Qg, Qc0, QgG Qg⟩⟩ ?_
     exact AK.met (ex_ _ (an_ rfl h))
    ·refine Qa hC [.br false, .n 2, .keep [0, 3, 8, 9, 10] [8, 18, 200000]] rfl ⟨tt_, hc14⟩ ?_
     exact AK.met (ex_ _ (an_ rfl h))
   ·rintro σ ⟨l12, rfl, h⟩
    unfold QbU at h
    refine Qa hC [.n 4, .keep [0, 3, 8, 9, 10] [8, 18, 200000]] rfl tt_ ?_
    cases h
    exact rndN rfl rfl
  ·refine Qa hC [.br false, .n 2, .keep [3] [18, 200000]] rfl ⟨tt_, hc11⟩ ?_
   cases h
   exact rndX rfl (an_ rfl rfl)
 ·replace h : Qhj l10 = some r := h
  unfold Qhj at h
  rintro e σ ⟨rfl, rfl⟩
  refine Qa hC [.n 9, .keep [2] [18, 200000], .ren 18 30000, .keep [2] [30000, 200000]] rfl tt_ ?_
  cases h
  exact AK.done (ex_ [_] (an_ (an_ rfl tt_) (gives ⟨rfl, rfl, tt_⟩)))
def QiC (x4 : Int) (m10 : (List (Int × Int))) : Option ((Int × (List (Int × Int))) ⊕ (List (Int × Int))) :=
 some (.inl ((w64 (x4 + 1)), m10))
def Qcy (l1 : (List Int)) (x4 : Int) (m5 : (List (Int × Int))) : Option ((Int × (List (Int × Int))) ⊕ (List (Int × Int))) :=
 bif (decide (x4 < (l1.length : Int))) then
 (idx l1 x4).bind fun e11 =>
 bif (decide (0 ≤ e11)) then
 QiC x4 (mset ltI m5 e11 (min2 (w64 (((mget m5 e11).getD 0) + 1)) 1048576))
 else
 QiC x4 m5
 else
 some (.inr m5)
def QiD (m8 : (List (Int × Int))) : Option (List (Int × Int)) :=
 (Qce m8).bind fun x14 =>
 some x14
def Qlq (l1 : (List Int)) : Option (List (Int × Int)) :=
 (QE (fun st => Qcy l1 st.1 st.2) (0, ([] : (List (Int × Int))))).bind (fun q => QiD q)
theorem Qsm (l1 : (List Int)) {r : (List (Int × Int))} (h : Qlq l1 = some r) : Qc Tryz.prog 97 [.sl 1 (l1.map Qe)] [] (Gives (.own 30000 r.length) [(30000, .arr 2 (r.map Qt))]) := by
 refine Qc.walk 25 Tryz.func97 rfl Tryz.ntmps97 rfl fun C hC => ?_
 unfold Qlq at h
 refine Qa hC [.n 8, .sayO 6 (.map (mapV (V.i .i64) (V.i .i64) ([] : (List (Int × Int))))), .n 7, .o (.ln l1.length), .n 4, .keep [3, 7, 8, 9] [6]] rfl ⟨⟨tt_, rfl⟩, Qg⟩ ?_
 obtain ⟨m8, hl13, h⟩ := Qb h
 refine AK.loop (body := (fun st => Qcy l1 st.1 st.2)) (fun st σ => σ = ⟨[(3, .map 6), (7, .sl 1 (l1.map Qe)), (8, .i .i64 (l1.length : Int)), (9, .i .i64 st.1)], [(6, .map (mapV (V.i .i64) (V.i .i64) st.2))]⟩) (fun q e σ => e = .exit 0 ∧ σ = ⟨[(3, .map 6)], [(6, .map (mapV (V.i .i64) (V.i .i64) q))]⟩) hl13 rfl ?_ ?_
 ·rintro ⟨x4, m5⟩ o σ rfl h
  replace h : Qcy l1 x4 m5 = some o := h
  unfold Qcy at h
  refine Qa hC [.n 6] rfl tt_ ?_
  rcases bifE h with ⟨hc9, h⟩ | ⟨hc9, h⟩
  ·refine Qa hC [.br true, .n 2] rfl ⟨tt_, hc9⟩ ?_
   refine AK.meet (fun σ => ∃ m10 : (List (Int × Int)), σ = ⟨[(3, .map 6), (7, .sl 1 (l1.map Qe)), (8, .i .i64 (l1.length : Int)), (9, .i .i64 x4)], [(6, .map (mapV (V.i .i64) (V.i .i64) m10))]⟩ ∧ QiC x4 m10 = some o) ?_ ?_
   ·obtain ⟨e11, he11, h⟩ := Qb h
    refine Qa hC [.n 3, .o (.row (Qe e11)), .n 10] rfl ⟨tt_, (idxM he11)⟩ ?_
    rcases bifE h with ⟨hc12, h⟩ | ⟨hc12, h⟩
    ·refine Qa hC [.br true, .n 5, .o (.any (.i .i64 ((mget m5 e11).getD 0)) none), .n 2, .x (fun σ => σ.set 6 (.map (mapV (V.i .i64) (V.i .i64) (mset ltI m5 e11 (min2 (w64 (((mget m5 e11).getD 0) + 1)) 1048576))))), .n 2, .keep [3, 7, 8, 9] [6]] rfl ⟨⟨⟨tt_, hc12⟩, (fun σ h1 h2 _ => Stp.lookup (e := (V.i .i64)) (f := (V.i .i64)) (l := m5) (k := e11) (z := 0) rfl rfl (bleN hC.n rfl) (h1 _ _ rfl) (h2 _ _ rfl) (h1 _ _ rfl) QgH ky_3 zi_3 rfl)⟩, (Stp.mapUpdate (e := (V.i .i64)) (f := (V.i .i64)) (l := m5) (k := e11) (v := (min2 (w64 (((mget m5 e11).getD 0) + 1)) 1048576)) ltI rfl rfl rfl rfl rfl rfl QgH ky_3 rfl)⟩ ?_
     exact AK.met (ex_ _ (an_ rfl h))
    ·refine Qa hC [.br false, .n 2, .keep [3, 7, 8, 9] [6]] rfl ⟨tt_, hc12⟩ ?_
     exact AK.met (ex_ _ (an_ rfl h))
   ·rintro σ ⟨m10, rfl, h⟩
    unfold QiC at h
    refine Qa hC [.n 4, .keep [3, 7, 8, 9] [6]] rfl tt_ ?_
    cases h
    exact rndN rfl rfl
  ·refine Qa hC [.br false, .n 2, .keep [3] [6]] rfl ⟨tt_, hc9⟩ ?_
   cases h
   exact rndX rfl (an_ rfl rfl)
 ·replace h : QiD m8 = some r := h
  unfold QiD at h
  rintro e σ ⟨rfl, rfl⟩
  obtain ⟨x14, hx14, h⟩ := Qb h
  refine Qa hC [.n 5, .cm (.fn) [(200000, 6)] [(24, 30000), (6, 200000)] [] [.d] [(30000, .arr 2 (x14.map Qt)), (200000, .map (mapV (V.i .i64) (V.i .i64) m8))] (.own 30000 x14.length), .n 4, .keep [2] [24], .ren 24 30000, .keep [2] [30000]] rfl ⟨tt_, (Qhk _ hx14)⟩ ?_
  cases h
  exact AK.done (ex_ [_] (an_ (an_ rfl tt_) (gives ⟨rfl, tt_⟩)))
def Qa0 (b1 : (List (Int × Int))) (last4 : Int) (x5 : Int) : Option ((Int × Int) ⊕ (Unit ⊕ Unit)) :=
 bif (decide (x5 < (b1.length : Int))) then
 (idx b1 x5).bind fun e9 =>
 bif ((decide (e9.1 ≤ last4)) || ((decide (e9.2 < 1)) || (decide (1048576 < e9.2)))) then
 some (.inr (.inl ()))
 else
 some (.inl (e9.1, (w64 (x5 + 1))))
 else
 some (.inr (.inr ()))
def Qgb : Option Bool :=
 some false
def Qgc : Option Bool :=
 some true
def Qb2 (b1 : (List (Int × Int))) : Option Bool :=
 (QE (fun st => Qa0 b1 st.1 st.2) ((-1), 0)).bind (Sum.elim (fun q => Qgb) (fun q => Qgc))
theorem Qgd (b1 : (List (Int × Int))) {r : Bool} (h : Qb2 b1 = some r) : Qc Tryz.prog 54 [.sl 2 (b1.map Qt)] [] (Gives (.b r) []) := by
 refine Qc.walk 29 Tryz.func54 rfl Tryz.ntmps54 rfl fun C hC => ?_
 unfold Qb2 at h
 refine Qa hC [.n 14, .o (.ln b1.length), .n 4, .keep [3, 6, 7, 8] []] rfl ⟨tt_, Qg⟩ ?_
 obtain ⟨o14, hl14, h⟩ := Qb h
 refine AK.loop (body := (fun st => Qa0 b1 st.1 st.2)) (fun st σ => σ = ⟨[(3, .i .i64 st.1), (6, .sl 2 (b1.map Qt)), (7, .i .i64 (b1.length : Int)), (8, .i .i64 st.2)], []⟩) (Sum.elim (fun q e σ => e = .ret ∧ σ = ⟨[(2, .b false)], []⟩) (fun q e σ => e = .exit 0 ∧ σ = ⟨[], []⟩)) hl14 rfl ?_ ?_
 ·rintro ⟨last4, x5⟩ o σ rfl h
  replace h : Qa0 b1 last4 x5 = some o := h
  unfold Qa0 at h
  refine Qa hC [.n 6] rfl tt_ ?_
  rcases bifE h with ⟨hc8, h⟩ | ⟨hc8, h⟩
  ·obtain ⟨e9, he9, h⟩ := Qb h
   refine Qa hC [.br true, .n 6, .o (.row (Qt e9)), .v .no [] (.agg (Qt e9)), .n 2, .sayO 5 (.var (Qt e9)), .n 4] rfl ⟨⟨⟨⟨tt_, hc8⟩, (idxM he9)⟩, rfl⟩, rfl⟩ ?_
   refine AK.meetX (fun σ => σ = ⟨[(5, .loc 5 0 0), (6, .sl 2 (b1.map Qt)), (7, .i .i64 (b1.length : Int)), (8, .i .i64 x5), (25, .b ((decide (e9.1 ≤ last4)) || ((decide (e9.2 < 1)) || (decide (1048576 < e9.2)))))], [(5, .var (Qt e9))]⟩) ?_ ?_
   ·refine Qa hC [.n 6] rfl tt_ ?_
    rcases QJ (decide (e9.1 ≤ last4)) with hc11 | hc11
    ·refine Qa hC [.say 16 (.b true), .n 10, .say 25 (.b ((decide (e9.1 ≤ last4)) || ((decide (e9.2 < 1)) || (decide (1048576 < e9.2))))), .keep [5, 6, 7, 8, 25] [5]] rfl ⟨⟨tt_, (congrArg V.b hc11)⟩, (congrArg V.b (orT hc11 rfl))⟩ ?_
     exact AK.met rfl
    ·refine Qa hC [.say 16 (.b false), .n 5] rfl ⟨tt_, (congrArg V.b hc11)⟩ ?_
     rcases QJ (decide (e9.2 < 1)) with hc12 | hc12
     ·refine Qa hC [.say 21 (.b true), .n 5, .say 25 (.b ((decide (e9.1 ≤ last4)) || ((decide (e9.2 < 1)) || (decide (1048576 < e9.2))))), .keep [5, 6, 7, 8, 25] [5]] rfl ⟨⟨tt_, (congrArg V.b hc12)⟩, (congrArg V.b (orF hc11 (orT hc12 rfl)))⟩ ?_
      exact AK.met rfl
     ·refine Qa hC [.say 21 (.b false), .n 5, .say 25 (.b ((decide (e9.1 ≤ last4)) || ((decide (e9.2 < 1)) || (decide (1048576 < e9.2))))), .keep [5, 6, 7, 8, 25] [5]] rfl ⟨⟨tt_, (congrArg V.b hc12)⟩, (congrArg V.b (orF hc11 (orF hc12 rfl)))⟩ ?_
      exact AK.met rfl
   ·rintro σ rfl
    refine Qa hC [.n 1] rfl tt_ ?_
    rcases bifE h with ⟨hc13, h⟩ | ⟨hc13, h⟩
    ·refine Qa hC [.br true, .n 9, .keep [2] []] rfl ⟨tt_, hc13⟩ ?_
     cases h
     exact rndR rfl (an_ rfl rfl)
    ·refine Qa hC [.br false, .n 13, .keep [3, 6, 7, 8] []] rfl ⟨tt_, hc13⟩ ?_
     cases h
     exact rndN rfl rfl
  ·refine Qa hC [.br false, .n 2, .keep [] []] rfl ⟨tt_, hc8⟩ ?_
   cases h
   exact rndX rfl (an_ rfl rfl)
 ·rcases o14 with (_ | _)
  ·replace h : Qgb = some r := h
   unfold Qgb at h
   rintro e σ ⟨rfl, rfl⟩
   refine Qa hC [.n 2, .keep [2] []] rfl tt_ ?_
   cases h
   exact AK.done (ex_ [_] (an_ (an_ rfl tt_) (gives tt_)))
  ·replace h : Qgc = some r := h
   unfold Qgc at h
   rintro e σ ⟨rfl, rfl⟩
   refine Qa hC [.n 8, .keep [2] []] rfl tt_ ?_
   cases h
   exact AK.done (ex_ [_] (an_ (an_ rfl tt_) (gives tt_)))
def Qdd (b1 : (List (Int × Int))) (x6 : Int) (m7 : (List (Int × Int))) : Option ((Int × (List (Int × Int))) ⊕ (List (Int × Int))) :=
 bif (decide (x6 < (b1.length : Int))) then
 (idx b1 x6).bind fun e12 =>
 some (.inl ((w64 (x6 + 1)), (mset ltI m7 e12.1 e12.2)))
 else
 some (.inr m7)
def Qmg (m10 : (List (Int × Int))) : Option (Unit ⊕ (List (Int × Int))) :=
 some (.inr m10)
def Qi3 (b1 : (List (Int × Int))) : Option (Unit ⊕ (List (Int × Int))) :=
 (Qb2 b1).bind fun x3 =>
 bif (!x3) then
 some (.inl ())
 else
 (QE (fun st => Qdd b1 st.1 st.2) (0, ([] : (List (Int × Int))))).bind (fun q => Qmg q)
theorem Qhd (b1 : (List (Int × Int))) {r : (Unit ⊕ (List (Int × Int)))} (h : Qi3 b1 = some r) : Qc Tryz.prog 90 [.sl 2 (b1.map Qt)] [] ((Sum.elim (fun q => (Gives (.tup [.lit (.map none), .b false]) [])) (fun q => (Gives (.tup [.map 30002, .b true]) [(30002, .map (mapV (V.i .i64) (V.i .i64) q))]))) r) := by
 refine Qc.walk 24 Tryz.func90 rfl Tryz.ntmps90 rfl fun C hC => ?_
 unfold Qi3 at h
 obtain ⟨x3, hx3, h⟩ := Qb h
 refine Qa hC [.n 10, .o (.c false [.d] (.b x3)), .n 3] rfl ⟨tt_, (Qgd _ hx3)⟩ ?_
 rcases bifE h with ⟨hc4, h⟩ | ⟨hc4, h⟩
 ·refine Qa hC [.br true, .n 8, .keep [2, 3] []] rfl ⟨tt_, hc4⟩ ?_
  cases h
  exact AK.done (ex_ [_, _] (an_ (an_ rfl (an_ rfl tt_)) (gives tt_)))
 ·refine Qa hC [.br false, .n 5, .sayO 10 (.map (mapV (V.i .i64) (V.i .i64) ([] : (List (Int × Int))))), .n 7, .o (.ln b1.length), .n 4, .keep [4, 11, 12, 13] [10]] rfl ⟨⟨⟨tt_, hc4⟩, rfl⟩, Qg⟩ ?_
  obtain ⟨m10, hl13, h⟩ := Qb h
  refine AK.loop (body := (fun st => Qdd b1 st.1 st.2)) (fun st σ => σ = ⟨[(4, .map 10), (11, .sl 2 (b1.map Qt)), (12, .i .i64 (b1.length : Int)), (13, .i .i64 st.1)], [(10, .map (mapV (V.i .i64) (V.i .i64) st.2))]⟩) (fun q e σ => e = .exit 0 ∧ σ = ⟨[(4, .map 10)], [(10, .map (mapV (V.i .i64) (V.i .i64) q))]⟩) hl13 rfl ?_ ?_
  ·rintro ⟨x6, m7⟩ o σ rfl h
   replace h : Qdd b1 x6 m7 = some o := h
   unfold Qdd at h
   refine Qa hC [.n 6] rfl tt_ ?_
   rcases bifE h with ⟨hc11, h⟩ | ⟨hc11, h⟩
   ·obtain ⟨e12, he12, h⟩ := Qb h
    refine Qa hC [.br true, .n 6, .o (.row (Qt e12)), .v .no [] (.agg (Qt e12)), .n 2, .sayO 6 (.var (Qt e12)), .n 8, .x (fun σ => σ.set 10 (.map (mapV (V.i .i64) (V.i .i64) (mset ltI m7 e12.1 e12.2)))), .n 7, .keep [4, 11, 12, 13] [10]] rfl ⟨⟨⟨⟨⟨tt_, hc11⟩, (idxM he12)⟩, rfl⟩, rfl⟩, (Stp.mapUpdate (e := (V.i .i64)) (f := (V.i .i64)) (l := m7) (k := e12.1) (v := e12.2) ltI rfl rfl rfl rfl rfl rfl QgH ky_3 rfl)⟩ ?_
    cases h
    exact rndN rfl rfl
   ·refine Qa hC [.br false, .n 2, .keep [4] [10]] rfl ⟨tt_, hc11⟩ ?_
    cases h
    exact rndX rfl (an_ rfl rfl)
  ·replace h : Qmg m10 = some r := h
   unfold Qmg at h
   rintro e σ ⟨rfl, rfl⟩
   refine Qa hC [.n 10, .keep [2, 3] [10], .ren 10 30002, .keep [2, 3] [30002]] rfl tt_ ?_
   cases h
   exact AK.done (ex_ [_, _] (an_ (an_ rfl (an_ rfl tt_)) (gives ⟨rfl, tt_⟩)))
def QkG (a11 : Unit) : Option (Unit ⊕ ((List (Int × Int)) ⊕ ((List (Int × Int)) ⊕ ((List (Int × Int)) × (List (Int × Int)))))) :=
 some (.inl ())
def QkH (a12 : (List (Int × Int))) : Option (Unit ⊕ ((List (Int × Int)) ⊕ ((List (Int × Int)) ⊕ ((List (Int × Int)) × (List (Int × Int)))))) :=
 some (.inr (.inl a12))
def QiO (b2 : (List (Int × Int))) (a8 : Unit) : Option (Unit ⊕ ((List (Int × Int)) ⊕ ((List (Int × Int)) ⊕ ((List (Int × Int)) × (List (Int × Int)))))) :=
 (Qi3 b2).bind (Sum.elim (fun q => QkG q) (fun q => QkH q))
def QkI (a9 : (List (Int × Int))) (a14 : Unit) : Option (Unit ⊕ ((List (Int × Int)) ⊕ ((List (Int × Int)) ⊕ ((List (Int × Int)) × (List (Int × Int)))))) :=
 some (.inr (.inr (.inl a9)))
def QkJ (a9 : (List (Int × Int))) (a15 : (List (Int × Int))) : Option (Unit ⊕ ((List (Int × Int)) ⊕ ((List (Int × Int)) ⊕ ((List (Int × Int)) × (List (Int × Int)))))) :=
 some (.inr (.inr (.inr (a9, a15))))
def QiP (b2 : (List (Int × Int))) (a9 : (List (Int × Int))) : Option (Unit ⊕ ((List (Int × Int)) ⊕ ((List (Int × Int)) ⊕ ((List (Int × Int)) × (List (Int × Int)))))) :=
 (Qi3 b2).bind (Sum.elim (fun q => QkI a9 q) (fun q => QkJ a9 q))
def QgJ (a1 : (List (Int × Int))) (b2 : (List (Int × Int))) : Option (Unit ⊕ ((List (Int × Int)) ⊕ ((List (Int × Int)) ⊕ ((List (Int × Int)) × (List (Int × Int)))))) :=
 (Qi3 a1).bind (Sum.elim (fun q => QiO b2 q) (fun q => QiP b2 q))
theorem QaW (a1 : (List (Int × Int))) (b2 : (List (Int × Int))) {r : (Unit ⊕ ((List (Int × Int)) ⊕ ((List (Int × Int)) ⊕ ((List (Int × Int)) × (List (Int × Int))))))} (h : QgJ a1 b2 = some r) : Qc Tryz.prog 47 [.sl 2 (a1.map Qt), .sl 2 (b2.map Qt)] [] ((Sum.elim (fun q => (Gives (.tup [.lit (.map none), .lit (.map none), .b false]) [])) (Sum.elim (fun q => (Gives (.tup [.lit (.map none), .map 30005, .b false]) [(30005, .map (mapV (V.i .i64) (V.i .i64) q))])) (Sum.elim (fun q => (Gives (.tup [.map 30004, .lit (.map none), .b false]) [(30004, .map (mapV (V.i .i64) (V.i .i64) q))])) (fun q => (Gives (.tup [.map 30004, .map 30005, .b true]) [(30004, .map (mapV (V.i .i64) (V.i .i64) q.1)), (30005, .map (mapV (V.i .i64) (V.i .i64) q.2))]))))) r) := by
 refine Qc.walk 25 Tryz.func47 rfl Tryz.ntmps47 rfl fun C hC => ?_
 unfold QgJ at h
 obtain ⟨x7, hx7, h⟩ := Qb h
 refine Qa hC [.n 10] rfl tt_ ?_
 rcases x7 with (a8 | a9)
 ·replace h : QiO b2 a8 = some r := h
  unfold QiO at h
  obtain ⟨x10, hx10, h⟩ := Qb h
  refine Qa hC [.cm (.fn) [] [] [] [.d] [] (.tup [.lit (.map none), .b false]), .n 10] rfl ⟨tt_, (Qhd _ hx7)⟩ ?_
  rcases x10 with (a11 | a12)
  ·replace h : QkG a11 = some r := h
   unfold QkG at h
   refine Qa hC [.cm (.fn) [] [] [] [.d] [] (.tup [.lit (.map none), .b false]), .n 21, .keep [4, 5, 6] []] rfl ⟨tt_, (Qhd _ hx10)⟩ ?_
   cases h
   exact AK.done (ex_ [_, _, _] (an_ (an_ rfl (an_ rfl (an_ rfl tt_))) (gives tt_)))
  ·replace h : QkH a12 = some r := h
   unfold QkH at h
   refine Qa hC [.cm (.fn) [] [(16, 30002)] [] [.d] [(30002, .map (mapV (V.i .i64) (V.i .i64) a12))] (.tup [.map 30002, .b true]), .n 21, .keep [4, 5, 6] [16], .ren 16 30005, .keep [4, 5, 6] [30005]] rfl ⟨tt_, (Qhd _ hx10)⟩ ?_
   cases h
   exact AK.done (ex_ [_, _, _] (an_ (an_ rfl (an_ rfl (an_ rfl tt_))) (gives ⟨rfl, tt_⟩)))
 ·replace h : QiP b2 a9 = some r := h
  unfold QiP at h
  obtain ⟨x13, hx13, h⟩ := Qb h
  refine Qa hC [.cm (.fn) [] [(11, 30002)] [] [.d] [(30002, .map (mapV (V.i .i64) (V.i .i64) a9))] (.tup [.map 30002, .b true]), .n 10] rfl ⟨tt_, (Qhd _ hx7)⟩ ?_
  rcases x13 with (a14 | a15)
  ·replace h : QkI a9 a14 = some r := h
   unfold QkI at h
   refine Qa hC [.cm (.fn) [] [] [] [.d] [] (.tup [.lit (.map none), .b false]), .n 21, .keep [4, 5, 6] [11], .ren 11 30004, .keep [4, 5, 6] [30004]] rfl ⟨tt_, (Qhd _ hx13)⟩ ?_
   cases h
   exact AK.done (ex_ [_, _, _] (an_ (an_ rfl (an_ rfl (an_ rfl tt_))) (gives ⟨rfl, tt_⟩)))
  ·replace h : QkJ a9 a15 = some r := h
   unfold QkJ at h
   refine Qa hC [.cm (.fn) [] [(16, 30002)] [] [.d] [(30002, .map (mapV (V.i .i64) (V.i .i64) a15))] (.tup [.map 30002, .b true]), .n 21, .keep [4, 5, 6] [11, 16], .ren 11 30004, .keep [4, 5, 6] [16, 30004], .ren 16 30005, .keep [4, 5, 6] [30004, 30005]] rfl ⟨tt_, (Qhd _ hx13)⟩ ?_
   cases h
   exact AK.done (ex_ [_, _, _] (an_ (an_ rfl (an_ rfl (an_ rfl tt_))) (gives ⟨rfl, rfl, tt_⟩)))
def Qlr (a8 : Unit) : Option ((List (Int × Int)) × Int) :=
 some (([] : List (Int × Int)), 1)
def Qls (a9 : (List (Int × Int))) : Option ((List (Int × Int)) × Int) :=
 some (([] : List (Int × Int)), 1)
def Qlt (a10 : (List (Int × Int))) : Option ((List (Int × Int)) × Int) :=
 some (([] : List (Int × Int)), 1)
def Qez (m14 : (List (Int × Int))) (k16 : Int) (v17 : Int) : Option ((List (Int × Int)) ⊕ Unit) :=
 bif (decide (1048576 < ((mget (mset ltI m14 k16 (w64 (((mget m14 k16).getD 0) + v17))) k16).getD 0))) then
 some (.inr ())
 else
 some (.inl (mset ltI m14 k16 (w64 (((mget m14 k16).getD 0) + v17))))
def QjB (m14 : (List (Int × Int))) : Option ((List (Int × Int)) × Int) :=
 (Qce m14).bind fun x20 =>
 some (x20, 0)
def Qlu : Option ((List (Int × Int)) × Int) :=
 some (([] : List (Int × Int)), 2)
def QjC (a11 : ((List (Int × Int)) × (List (Int × Int)))) : Option ((List (Int × Int)) × Int) :=
 (Qix (fun st p => Qez st p.1 p.2) a11.1 a11.2).bind (Sum.elim (fun q => QjB q) (fun q => Qlu))
def Qeb (a1 : (List (Int × Int))) (b2 : (List (Int × Int))) : Option ((List (Int × Int)) × Int) :=
 (QgJ a1 b2).bind (Sum.elim (fun q => Qlr q) (Sum.elim (fun q => Qls q) (Sum.elim (fun q => Qlt q) (fun q => QjC q))))
theorem Qn6 (a1 : (List (Int × Int))) (b2 : (List (Int × Int))) {r : ((List (Int × Int)) × Int)} (h : Qeb a1 b2 = some r) : Qc Tryz.prog 24 [.sl 2 (a1.map Qt), .sl 2 (b2.map Qt)] [] (Gives (.tup [.sl 2 (r.1.map Qt), .i .i64 r.2]) []) := by
 refine Qc.walk 38 Tryz.func24 rfl Tryz.ntmps24 rfl fun C hC => ?_
 unfold Qeb at h
 obtain ⟨x7, hx7, h⟩ := Qb h
 refine Qa hC [.n 10] rfl tt_ ?_
 rcases x7 with (a8 | (a9 | (a10 | a11)))
 ·replace h : Qlr a8 = some r := h
  unfold Qlr at h
  refine Qa hC [.cm (.fn) [] [] [] [.d, .d] [] (.tup [.lit (.map none), .lit (.map none), .b false]), .n 25, .denil 4 [some 2], .keep [4, 5] []] rfl ⟨tt_, (QaW _ _ hx7)⟩ ?_
  cases h
  exact AK.done (ex_ [_, _] (an_ (an_ rfl (an_ rfl tt_)) (gives tt_)))
 ·replace h : Qls a9 = some r := h
  unfold Qls at h
  refine Qa hC [.cm (.fn) [] [(14, 30005)] [] [.d, .d] [(30005, .map (mapV (V.i .i64) (V.i .i64) a9))] (.tup [.lit (.map none), .map 30005, .b false]), .n 25, .denil 4 [some 2], .keep [4, 5] []] rfl ⟨tt_, (QaW _ _ hx7)⟩ ?_
  cases h
  exact AK.done (ex_ [_, _] (an_ (an_ rfl (an_ rfl tt_)) (gives tt_)))
 ·replace h : Qlt a10 = some r := h
  unfold Qlt at h
  refine Qa hC [.cm (.fn) [] [(14, 30004)] [] [.d, .d] [(30004, .map (mapV (V.i .i64) (V.i .i64) a10))] (.tup [.map 30004, .lit (.map none), .b false]), .n 25, .denil 4 [some 2], .keep [4, 5] []] rfl ⟨tt_, (QaW _ _ hx7)⟩ ?_
  cases h
  exact AK.done (ex_ [_, _] (an_ (an_ rfl (an_ rfl tt_)) (gives tt_)))
 ·replace h : QjC a11 = some r := h
  unfold QjC at h
  refine Qa hC [.cm (.fn) [] [(14, 30004), (50000, 30005)] [] [.d, .d] [(30004, .map (mapV (V.i .i64) (V.i .i64) a11.1)), (30005, .map (mapV (V.i .i64) (V.i .i64) a11.2))] (.tup [.map 30004, .map 30005, .b true]), .n 23] rfl ⟨tt_, (QaW _ _ hx7)⟩ ?_
  refine AK.openMap (b := 50000) ky_3 rfl fun bm12 cl12 L12 hbn12 hpm12 => ?_
  refine Qa hC [.x (fun σ => (σ.set 21 (.itr bm12 cl12 #[] none)).put 21 (.loc 21 0 0)), .n 3, .keep [6, 21] [14, 21, 50000]] rfl ⟨tt_, (Stp.range (b := 50000) rfl rfl (bleN hC.n rfl) rfl rfl QgH rfl)⟩ ?_
  obtain ⟨o19, hl19, h⟩ := Qb h
  refine AK.range (body := (fun st p => Qez st p.1 p.2)) (fun st seen σ => ∃ cur : Option MapEntry, σ = ⟨[(6, .map 14), (21, .loc 21 0 0)], [(14, .map (mapV (V.i .i64) (V.i .i64) st)), (21, .itr bm12 cl12 seen cur), (50000, .mapX bm12 cl12 (typV (V.i .i64) (V.i .i64) L12) (mapV (V.i .i64) (V.i .i64) a11.2))]⟩) (fun q e σ => e = .ret ∧ σ = ⟨[(4, .lit (.slice none 0 0)), (5, .i .i64 2)], []⟩) (fun st e σ => e = .exit 0 ∧ σ = ⟨[(6, .map 14)], [(14, .map (mapV (V.i .i64) (V.i .i64) st))]⟩) hbn12 hpm12 hl19 (ex_ _ rfl) ?_ ?_
  ·rintro m14 seen σ ⟨cur, rfl⟩ hex
   refine Qa hC [.n 2] rfl tt_ ?_
   refine AK.nextT (b := 21) (m := 50000) rfl rfl rfl (bleN hC.n rfl) rfl rfl rfl rfl ?_ ?_
   ·intro hleft
    refine Qa hC [.n 7, .keep [6] [14]] rfl tt_ ?_
    exact AK.done (Or.inl (an_ hleft (an_ (fun h => (by cases h)) (an_ rfl rfl))))
   ·intro xk16 k16 v17 hq13
    obtain ⟨o, h⟩ := hex _ hq13
    have ho := h
    replace h : Qez m14 k16 v17 = some o := h
    unfold Qez at h
    refine Qa hC [.n 10, .x (fun σ => σ.put 24 (.tup [.i .i64 k16, .i .i64 v17])), .n 10, .o (.any (.i .i64 ((mget m14 k16).getD 0)) none), .n 2, .x (fun σ => σ.set 14 (.map (mapV (V.i .i64) (V.i .i64) (mset ltI m14 k16 (w64 (((mget m14 k16).getD 0) + v17)))))), .n 6, .o (.any (.i .i64 ((mget (mset ltI m14 k16 (w64 (((mget m14 k16).getD 0) + v17))) k16).getD 0)) none), .n 3] rfl ⟨⟨⟨⟨tt_, (Stp.entryT (b := 21) (m := 50000) rfl rfl (bleN hC.n rfl) rfl hq13 rfl rfl)⟩, (fun σ h1 h2 _ => Stp.lookup (e := (V.i .i64)) (f := (V.i .i64)) (l := m14) (k := k16) (z := 0) rfl rfl (bleN hC.n rfl) (h1 _ _ rfl) (h2 _ _ rfl) (h1 _ _ rfl) QgH ky_3 zi_3 rfl)⟩, (Stp.mapUpdate (e := (V.i .i64)) (f := (V.i .i64)) (l := m14) (k := k16) (v := (w64 (((mget m14 k16).getD 0) + v17))) ltI rfl rfl rfl rfl rfl rfl QgH ky_3 rfl)⟩, (fun σ h1 h2 _ => Stp.lookup (e := (V.i .i64)) (f := (V.i .i64)) (l := (mset ltI m14 k16 (w64 (((mget m14 k16).getD 0) + v17)))) (k := k16) (z := 0) rfl rfl (bleN hC.n rfl) (h1 _ _ rfl) (h2 _ _ rfl) (h1 _ _ rfl) QgH ky_3 zi_3 rfl)⟩ ?_
    rcases bifE h with ⟨hc18, h⟩ | ⟨hc18, h⟩
    ·refine Qa hC [.br true, .n 8, .keep [4, 5] []] rfl ⟨tt_, hc18⟩ ?_
     cases h
     exact AK.done (Or.inr (ex_ _ (an_ hq13 (Or.inr (ex_ _ (an_ ho (an_ (fun h => (by cases h)) (an_ rfl rfl))))))))
    ·refine Qa hC [.br false, .n 2, .keep [6, 21] [14, 21, 50000]] rfl ⟨tt_, hc18⟩ ?_
     cases h
     exact AK.done (Or.inr (ex_ _ (an_ hq13 (Or.inl (ex_ _ (an_ ho (an_ rfl (ex_ _ rfl))))))))
  ·rcases o19 with (m14 | _)
   ·replace h : QjB m14 = some r := h
    unfold QjB at h
    rintro e σ ⟨rfl, rfl⟩
    obtain ⟨x20, hx20, h⟩ := Qb h
    refine Qa hC [.n 5, .cm (.fn) [(200000, 14)] [(37, 30000), (14, 200000)] [] [.d] [(30000, .arr 2 (x20.map Qt)), (200000, .map (mapV (V.i .i64) (V.i .i64) m14))] (.own 30000 x20.length), .n 5, .frz 37 (x20.map Qt) [4] [], .keep [4, 5] []] rfl ⟨⟨tt_, (Qhk _ hx20)⟩, ⟨tt_, (frzL Qg)⟩⟩ ?_
    cases h
    exact AK.done (ex_ [_, _] (an_ (an_ rfl (an_ rfl tt_)) (gives tt_)))
   ·replace h : Qlu = some r := h
    unfold Qlu at h
    rintro e σ ⟨rfl, rfl⟩
    refine Qa hC [.n 2, .denil 4 [some 2], .keep [4, 5] []] rfl tt_ ?_
    cases h
    exact AK.done (ex_ [_, _] (an_ (an_ rfl (an_ rfl tt_)) (gives tt_)))
def Qc5 (which3 : (List Int)) (l2 : (List TArc)) (env4 : (List Int)) (n1 : TNet) (x11 : Int) (l12 : (List (List (Int × Int)))) : Option ((Int × (List (List (Int × Int)))) ⊕ (Int ⊕ (List (List (Int × Int))))) :=
 bif (decide (x11 < (which3.length : Int))) then
 (idx which3 x11).bind fun e18 =>
 bif ((decide (e18 < 0)) || (decide ((l2.length : Int) ≤ e18))) then
 some (.inr (.inl 11))
 else
 (idx l2 e18).bind fun e22 =>
 (Qhc e22.Expr env4).bind fun x23 =>
 bif (x23.2 != 0) then
 some (.inr (.inl x23.2))
 else
 (idx l2 e18).bind fun e25 =>
 bif ((decide (e25.Place < 0)) || (decide ((n1.Places.length : Int) ≤ e25.Place))) then
 some (.inr (.inl 3))
 else
 (idx n1.Places e25.Place).bind fun e29 =>
 (Qfj n1.Colours e29.Colour x23.1).bind fun x30 =>
 bif (!x30.2) then
 some (.inr (.inl 8))
 else
 (idx l12 e25.Place).bind fun e32 =>
 (Qlq ([x30.1] : List Int)).bind fun x33 =>
 (Qeb e32 x33).bind fun x34 =>
 (idx l12 e25.Place).bind fun e35 =>
 bif (x34.2 != 0) then
 some (.inr (.inl x34.2))
 else
 some (.inl ((w64 (x11 + 1)), (l12.set e25.Place.toNat x34.1)))
 else
 some (.inr (.inr l12))
def Qi4 (x15 : Int) : Option ((List (List (Int × Int))) × Int) :=
 some (([] : List (List (Int × Int))), x15)
def Qi5 (l16 : (List (List (Int × Int)))) : Option ((List (List (Int × Int))) × Int) :=
 some (l16, 0)
def Qcc (n1 : TNet) (l2 : (List TArc)) (which3 : (List Int)) (env4 : (List Int)) : Option ((List (List (Int × Int))) × Int) :=
 (chk (decide (0 ≤ (n1.Places.length : Int)) && decide ((n1.Places.length : Int) ≤ (n1.Places.length : Int)) && decide ((n1.Places.length : Int) ≤ 4294967296))).bind fun _ =>
 (QE (fun st => Qc5 which3 l2 env4 n1 st.1 st.2) (0, (List.replicate (n1.Places.length : Int).toNat (([] : (List (Int × Int))) : (List (Int × Int)))))).bind (Sum.elim (fun q => Qi4 q) (fun q => Qi5 q))
theorem QeA (n1 : TNet) (l2 : (List TArc)) (which3 : (List Int)) (env4 : (List Int)) {r : ((List (List (Int × Int))) × Int)} (h : Qcc n1 l2 which3 env4 = some r) : Qc Tryz.prog 52 [.agg (Qd n1), .sl 4 (l2.map QN), .sl 1 (which3.map Qe), .sl 1 (env4.map Qe)] [] (Gives (.tup [.sl 1 (r.1.map Qh), .i .i64 r.2]) []) := by
 refine Qc.walk 97 Tryz.func52 rfl Tryz.ntmps52 rfl fun C hC => ?_
 unfold Qcc at h
 obtain ⟨_, hk9, h⟩ := Qb h
 replace hk9 := chkE hk9
 refine Qa hC [.n 11, .o (.ln n1.Places.length), .o (.rows (List.replicate (n1.Places.length : Int).toNat [.lit (.slice none 0 0)]))] rfl ⟨⟨tt_, Qg⟩, ⟨hk9, rfl⟩⟩ ?_
 refine AK.denilA (b := 21) [some 2] rfl (QrV (f := Qh) (x := ([] : (List (Int × Int)))) rfl) ?_
 refine Qa hC [.say 21 (.own 21 (List.replicate (n1.Places.length : Int).toNat (([] : (List (Int × Int))) : (List (Int × Int)))).length), .n 7, .o (.ln which3.length), .n 4, .keep [1, 3, 4, 10, 22, 23, 24] [4, 21]] rfl ⟨⟨tt_, (by simp)⟩, Qg⟩ ?_
 obtain ⟨o37, hl37, h⟩ := Qb h
 refine AK.loop (body := (fun st => Qc5 which3 l2 env4 n1 st.1 st.2)) (fun st σ => σ = ⟨[(1, .sl 4 (l2.map QN)), (3, .sl 1 (env4.map Qe)), (4, .loc 4 0 0), (10, .own 21 st.2.length), (22, .sl 1 (which3.map Qe)), (23, .i .i64 (which3.length : Int)), (24, .i .i64 st.1)], [(4, .var (Qd n1)), (21, .arr 1 (st.2.map Qh))]⟩) (Sum.elim (fun q e σ => e = .ret ∧ σ = ⟨[(8, .lit (.slice none 0 0)), (9, .i .i64 q)], []⟩) (fun q e σ => e = .exit 0 ∧ σ = ⟨[(10, .own 21 q.length)], [(21, .arr 1 (q.map Qh))]⟩)) hl37 rfl ?_ ?_
 ·rintro ⟨x11, l12⟩ o σ rfl h
  replace h : Qc5 which3 l2 env4 n1 x11 l12 = some o := h
  unfold Qc5 at h
  refine Qa hC [.n 6] rfl tt_ ?_
  rcases bifE h with ⟨hc17, h⟩ | ⟨hc17, h⟩
  ·obtain ⟨e18, he18, h⟩ := Qb h
   refine Qa hC [.br true, .n 6, .o (.row (Qe e18)), .n 6] rfl ⟨⟨tt_, hc17⟩, (idxM he18)⟩ ?_
   refine AK.meetX (fun σ => σ = ⟨[(1, .sl 4 (l2.map QN)), (3, .sl 1 (env4.map Qe)), (4, .loc 4 0 0), (10, .own 21 l12.length), (12, .i .i64 e18), (22, .sl 1 (which3.map Qe)), (23, .i .i64 (which3.length : Int)), (24, .i .i64 x11), (35, .b ((decide (e18 < 0)) || (decide ((l2.length : Int) ≤ e18))))], [(4, .var (Qd n1)), (21, .arr 1 (l12.map Qh))]⟩) ?_ ?_
   ·refine Qa hC [.n 4] rfl tt_ ?_
    rcases QJ (decide (e18 < 0)) with hc20 | hc20
    ·refine Qa hC [.say 30 (.b true), .n 6, .say 35 (.b ((decide (e18 < 0)) || (decide ((l2.length : Int) ≤ e18)))), .keep [1, 3, 4, 10, 12, 22, 23, 24, 35] [4, 21]] rfl ⟨⟨tt_, (congrArg V.b hc20)⟩, (congrArg V.b (orT hc20 rfl))⟩ ?_
     exact AK.met rfl
    ·refine Qa hC [.say 30 (.b false), .n 2, .o (.ln l2.length), .n 3, .say 35 (.b ((decide (e18 < 0)) || (decide ((l2.length : Int) ≤ e18)))), .keep [1, 3, 4, 10, 12, 22, 23, 24, 35] [4, 21]] rfl ⟨⟨⟨tt_, (congrArg V.b hc20)⟩, Qg⟩, (congrArg V.b (orF hc20 rfl))⟩ ?_
     exact AK.met rfl
   ·rintro σ rfl
    refine Qa hC [.n 1] rfl tt_ ?_
    rcases bifE h with ⟨hc21, h⟩ | ⟨hc21, h⟩
    ·refine Qa hC [.br true, .n 10, .keep [8, 9] []] rfl ⟨tt_, hc21⟩ ?_
     cases h
     exact rndR rfl (an_ rfl rfl)
    ·obtain ⟨e22, he22, h⟩ := Qb h
     obtain ⟨x23, hx23, h⟩ := Qb h
     refine Qa hC [.br false, .n 6, .o (.row (QN e22)), .n 1, .v .no [] (.agg (Ql e22.Expr)), .n 1, .o (.c false [.d, .d] (.tup [.i .i64 x23.1, .i .i64 x23.2])), .n 14] rfl ⟨⟨⟨⟨tt_, hc21⟩, (idxM he22)⟩, rfl⟩, (Qmx _ _ hx23)⟩ ?_
     rcases bifE h with ⟨hc24, h⟩ | ⟨hc24, h⟩
     ·refine Qa hC [.br true, .n 11, .keep [8, 9] []] rfl ⟨tt_, hc24⟩ ?_
      cases h
      exact rndR rfl (an_ rfl rfl)
     ·obtain ⟨e25, he25, h⟩ := Qb h
      refine Qa hC [.br false, .n 6, .o (.row (QN e25)), .n 7] rfl ⟨⟨tt_, hc24⟩, (idxM he25)⟩ ?_
      refine AK.meetX (fun σ => σ = ⟨[(1, .sl 4 (l2.map QN)), (3, .sl 1 (env4.map Qe)), (4, .loc 4 0 0), (10, .own 21 l12.length), (13, .i .i64 x23.1), (15, .i .i64 e25.Place), (22, .sl 1 (which3.map Qe)), (23, .i .i64 (which3.length : Int)), (24, .i .i64 x11), (62, .b ((decide (e25.Place < 0)) || (decide ((n1.Places.length : Int) ≤ e25.Place))))], [(4, .var (Qd n1)), (21, .arr 1 (l12.map Qh))]⟩) ?_ ?_
      ·refine Qa hC [.n 4] rfl tt_ ?_
       rcases QJ (decide (e25.Place < 0)) with hc27 | hc27
       ·refine Qa hC [.say 56 (.b true), .n 7, .say 62 (.b ((decide (e25.Place < 0)) || (decide ((n1.Places.length : Int) ≤ e25.Place)))), .keep [1, 3, 4, 10, 13, 15, 22, 23, 24, 62] [4, 21]] rfl ⟨⟨tt_, (congrArg V.b hc27)⟩, (congrArg V.b (orT hc27 rfl))⟩ ?_
        exact AK.met rfl
       ·refine Qa hC [.say 56 (.b false), .n 3, .o (.ln n1.Places.length), .n 3, .say 62 (.b ((decide (e25.Place < 0)) || (decide ((n1.Places.length : Int) ≤ e25.Place)))), .keep [1, 3, 4, 10, 13, 15, 22, 23, 24, 62] [4, 21]] rfl ⟨⟨⟨tt_, (congrArg V.b hc27)⟩, Qg⟩, (congrArg V.b (orF hc27 rfl))⟩ ?_
        exact AK.met rfl
      ·rintro σ rfl
       refine Qa hC [.n 1] rfl tt_ ?_
       rcases bifE h with ⟨hc28, h⟩ | ⟨hc28, h⟩
       ·refine Qa hC [.br true, .n 10, .keep [8, 9] []] rfl ⟨tt_, hc28⟩ ?_
        cases h
        exact rndR rfl (an_ rfl rfl)
       ·obtain ⟨e29, he29, h⟩ := Qb h
        obtain ⟨x30, hx30, h⟩ := Qb h
        refine Qa hC [.br false, .n 3, .keep [1, 3, 4, 10, 13, 15, 22, 23, 24] [4, 21]] rfl ⟨tt_, hc28⟩ ?_
        refine AK.draw2 Qo hC mixed [.a .no none false, .a .no none false, .a .no none false, .a .no none false, .a .no none false, .a (.row (Qs e29)) none false, .a .no none false, .a .no none false, .a .no none false, .a (.c false [.d, .d, .d] (.tup [.i .i64 x30.1, .b x30.2])) none false, .a .no none false, .a .no none false, .a .no none false, .a .no none false, .a .no none false] [] [] [1, 3, 4, 10, 15, 16, 17, 22, 23, 24] [4, 21] rfl rfl rfl ⟨⟨tt_, (idxM he29)⟩, (Qn5 _ _ _ hx30)⟩ rfl (by kernel_rfl) rfl rfl rfl ?_
        refine Qa hC [.n 8] rfl tt_ ?_
        rcases bifE h with ⟨hc31, h⟩ | ⟨hc31, h⟩
        ·refine Qa hC [.br true, .n 10, .keep [8, 9] []] rfl ⟨tt_, hc31⟩ ?_
         cases h
         exact rndR rfl (an_ rfl rfl)
        ·obtain ⟨e32, he32, h⟩ := Qb h
         obtain ⟨x33, hx33, h⟩ := Qb h
         obtain ⟨x34, hx34, h⟩ := Qb h
         obtain ⟨e35, he35, h⟩ := Qb h
         refine Qa hC [.br false, .n 3, .keep [1, 3, 4, 10, 15, 16, 22, 23, 24] [4, 21]] rfl ⟨tt_, hc31⟩ ?_
         refine AK.draw2 Qo hC mixed [.a .no none false, .a .no none false, .a .no none false, .a .no none false, .a .no none false, .a (.row (Qh e32)) none false, .a .no none false, .a (.bd []) (some ([], .sl 1 (([x30.1] : List Int).map Qe))) false, .a (.cd false [.d] 2 (x33.map Qt) x33.length) none false, .a (.c false [.d, .d] (.tup [.sl 2 (x34.1.map Qt), .i .i64 x34.2])) none false, .a .no none true true, .a .no none false, .a .no none true, .a .no none false, .m (.st (Qh e35) ((l12.set e25.Place.toNat x34.1).map Qh)), .a .no none false] [1, 3, 4, 10, 15, 16, 22, 23, 24] [4] [1, 3, 4, 10, 14, 22, 23, 24] [4, 21] rfl rfl rfl ⟨⟨⟨⟨⟨⟨⟨tt_, (QeX he32 rfl)⟩, (Qcz (idxE he32).2)⟩, rfl⟩, ⟨(Qsm _ hx33), Qg⟩⟩, (Qn6 _ _ hx34)⟩, (QeX he35 rfl)⟩, ⟨(Qcz (idxE he35).2), Qjn rfl⟩⟩ rfl (by kernel_rfl) rfl rfl rfl ?_
         refine Qa hC [.n 7] rfl tt_ ?_
         rcases bifE h with ⟨hc36, h⟩ | ⟨hc36, h⟩
         ·refine Qa hC [.br true, .n 10, .keep [8, 9] []] rfl ⟨tt_, hc36⟩ ?_
          cases h
          exact rndR rfl (an_ rfl rfl)
         ·refine Qa hC [.br false, .n 7, .say 10 (.own 21 (l12.set e25.Place.toNat x34.1).length), .keep [1, 3, 4, 10, 22, 23, 24] [4, 21]] rfl ⟨⟨tt_, hc36⟩, (congrArg (fun n => V.own 21 n) (by simp))⟩ ?_
          cases h
          exact rndN rfl rfl
  ·refine Qa hC [.br false, .n 2, .keep [10] [21]] rfl ⟨tt_, hc17⟩ ?_
   cases h
   exact rndX rfl (an_ rfl rfl)
 ·rcases o37 with (x15 | l16)
  ·replace h : Qi4 x15 = some r := h
   unfold Qi4 at h
   rintro e σ ⟨rfl, rfl⟩
   refine Qa hC [.n 2, .denil 8 [some 1], .keep [8, 9] []] rfl tt_ ?_
   cases h
   exact AK.done (ex_ [_, _] (an_ (an_ rfl (an_ rfl tt_)) (gives tt_)))
  ·replace h : Qi5 l16 = some r := h
   unfold Qi5 at h
   rintro e σ ⟨rfl, rfl⟩
   refine Qa hC [.n 10, .frz 21 (l16.map Qh) [8] [], .keep [8, 9] []] rfl ⟨tt_, ⟨tt_, (frzL Qg)⟩⟩ ?_
   cases h
   exact AK.done (ex_ [_, _] (an_ (an_ rfl (an_ rfl tt_)) (gives tt_)))
def Qbk (m2 : (List (Int × Int))) (k7 : Int) (v8 : Int) : Option (Unit ⊕ Unit) :=
 bif (decide (((mget m2 k7).getD 0) < v8)) then
 some (.inr ())
 else
 some (.inl ())
def QfJ : Option Bool :=
 some true
def QfK : Option Bool :=
 some false
def QbV (m1 : (List (Int × Int))) (m2 : (List (Int × Int))) : Option Bool :=
 (Qix (fun st p => Qbk m2 p.1 p.2) () m1).bind (Sum.elim (fun q => QfJ) (fun q => QfK))
theorem QiE (m1 : (List (Int × Int))) (m2 : (List (Int × Int))) {r : Bool} (h : QbV m1 m2 = some r) : Qc Tryz.prog 75 [.map 200000, .map 200001] [(200000, .map (mapV (V.i .i64) (V.i .i64) m1)), (200001, .map (mapV (V.i .i64) (V.i .i64) m2))] (Gives (.b r) [(200000, .map (mapV (V.i .i64) (V.i .i64) m1)), (200001, .map (mapV (V.i .i64) (V.i .i64) m2))]) := by
 refine Qc.walk 19 Tryz.func75 rfl Tryz.ntmps75 rfl fun C hC => ?_
 unfold QbV at h
 refine Qa hC [.n 9] rfl tt_ ?_
 refine AK.openMap (b := 200000) ky_3 rfl fun bm5 cl5 L5 hbn5 hpm5 => ?_
 refine Qa hC [.x (fun σ => (σ.set 8 (.itr bm5 cl5 #[] none)).put 8 (.loc 8 0 0)), .n 3, .keep [1, 8] [8, 200000, 200001]] rfl ⟨tt_, (Stp.range (b := 200000) rfl rfl (bleN hC.n rfl) rfl rfl QgH rfl)⟩ ?_
 obtain ⟨o10, hl10, h⟩ := Qb h
 refine AK.range (body := (fun st p => Qbk m2 p.1 p.2)) (fun st seen σ => ∃ cur : Option MapEntry, σ = ⟨[(1, .map 200001), (8, .loc 8 0 0)], [(8, .itr bm5 cl5 seen cur), (200000, .mapX bm5 cl5 (typV (V.i .i64) (V.i .i64) L5) (mapV (V.i .i64) (V.i .i64) m1)), (200001, .map (mapV (V.i .i64) (V.i .i64) m2))]⟩) (fun q e σ => e = .ret ∧ σ = ⟨[(4, .b false)], [(200000, .mapX bm5 cl5 (typV (V.i .i64) (V.i .i64) L5) (mapV (V.i .i64) (V.i .i64) m1)), (200001, .map (mapV (V.i .i64) (V.i .i64) m2))]⟩) (fun st e σ => e = .exit 0 ∧ σ = ⟨[], [(200000, .mapX bm5 cl5 (typV (V.i .i64) (V.i .i64) L5) (mapV (V.i .i64) (V.i .i64) m1)), (200001, .map (mapV (V.i .i64) (V.i .i64) m2))]⟩) hbn5 hpm5 hl10 (ex_ _ rfl) ?_ ?_
 ·rintro _ seen σ ⟨cur, rfl⟩ hex
  refine Qa hC [.n 2] rfl tt_ ?_
  refine AK.nextT (b := 8) (m := 200000) rfl rfl rfl (bleN hC.n rfl) rfl rfl rfl rfl ?_ ?_
  ·intro hleft
   refine Qa hC [.n 7, .keep [] [200000, 200001]] rfl tt_ ?_
   exact AK.done (Or.inl (an_ hleft (an_ (fun h => (by cases h)) (an_ rfl rfl))))
  ·intro xk7 k7 v8 hq6
   obtain ⟨o, h⟩ := hex _ hq6
   have ho := h
   replace h : Qbk m2 k7 v8 = some o := h
   unfold Qbk at h
   refine Qa hC [.n 10, .x (fun σ => σ.put 11 (.tup [.i .i64 k7, .i .i64 v8])), .n 11, .o (.any (.i .i64 ((mget m2 k7).getD 0)) none), .n 3] rfl ⟨⟨tt_, (Stp.entryT (b := 8) (m := 200000) rfl rfl (bleN hC.n rfl) rfl hq6 rfl rfl)⟩, (fun σ h1 h2 _ => Stp.lookup (e := (V.i .i64)) (f := (V.i .i64)) (l := m2) (k := k7) (z := 0) rfl rfl (bleN hC.n rfl) (h1 _ _ rfl) (h2 _ _ rfl) (h1 _ _ rfl) QgH ky_3 zi_3 rfl)⟩ ?_
   rcases bifE h with ⟨hc9, h⟩ | ⟨hc9, h⟩
   ·refine Qa hC [.br true, .n 7, .keep [4] [200000, 200001]] rfl ⟨tt_, hc9⟩ ?_
    cases h
    exact AK.done (Or.inr (ex_ _ (an_ hq6 (Or.inr (ex_ _ (an_ ho (an_ (fun h => (by cases h)) (an_ rfl rfl))))))))
   ·refine Qa hC [.br false, .n 2, .keep [1, 8] [8, 200000, 200001]] rfl ⟨tt_, hc9⟩ ?_
    cases h
    exact AK.done (Or.inr (ex_ _ (an_ hq6 (Or.inl (ex_ _ (an_ ho (an_ rfl (ex_ _ rfl))))))))
 ·rcases o10 with (_ | _)
  ·replace h : QfJ = some r := h
   unfold QfJ at h
   rintro e σ ⟨rfl, rfl⟩
   refine Qa hC [.n 8] rfl tt_ ?_
   refine AK.closeMap (b := 200000) rfl ?_
   refine Qa hC [.keep [4] [200000, 200001]] rfl tt_ ?_
   cases h
   exact AK.done (ex_ [_] (an_ (an_ rfl tt_) (gives ⟨rfl, rfl, tt_⟩)))
  ·replace h : QfK = some r := h
   unfold QfK at h
   rintro e σ ⟨rfl, rfl⟩
   refine Qa hC [.n 2] rfl tt_ ?_
   refine AK.closeMap (b := 200000) rfl ?_
   refine Qa hC [.keep [4] [200000, 200001]] rfl tt_ ?_
   cases h
   exact AK.done (ex_ [_] (an_ (an_ rfl tt_) (gives ⟨rfl, rfl, tt_⟩)))
def QjD (a6 : Unit) : Option Bool :=
 some false
def QjE (a7 : (List (Int × Int))) : Option Bool :=
 some false
def QjF (a8 : (List (Int × Int))) : Option Bool :=
 some false
def Qhz (a9 : ((List (Int × Int)) × (List (Int × Int)))) : Option Bool :=
 (QbV a9.1 a9.2).bind fun x10 =>
 some x10
def QhU (a1 : (List (Int × Int))) (b2 : (List (Int × Int))) : Option Bool :=
 (QgJ a1 b2).bind (Sum.elim (fun q => QjD q) (Sum.elim (fun q => QjE q) (Sum.elim (fun q => QjF q) (fun q => Qhz q))))
theorem Qp9 (a1 : (List (Int × Int))) (b2 : (List (Int × Int))) {r : Bool} (h : QhU a1 b2 = some r) : Qc Tryz.prog 191 [.sl 2 (a1.map Qt), .sl 2 (b2.map Qt)] [] (Gives (.b r) []) := by
 refine Qc.walk 21 Tryz.func191 rfl Tryz.ntmps191 rfl fun C hC => ?_
 unfold QhU at h
 obtain ⟨x5, hx5, h⟩ := Qb h
 refine Qa hC [.n 9] rfl tt_ ?_
 rcases x5 with (a6 | (a7 | (a8 | a9)))
 ·replace h : QjD a6 = some r := h
  unfold QjD at h
  refine Qa hC [.cm (.fn) [] [] [] [.d, .d] [] (.tup [.lit (.map none), .lit (.map none), .b false]), .n 21, .keep [4] []] rfl ⟨tt_, (QaW _ _ hx5)⟩ ?_
  cases h
  exact AK.done (ex_ [_] (an_ (an_ rfl tt_) (gives tt_)))
 ·replace h : QjE a7 = some r := h
  unfold QjE at h
  refine Qa hC [.cm (.fn) [] [(11, 30005)] [] [.d, .d] [(30005, .map (mapV (V.i .i64) (V.i .i64) a7))] (.tup [.lit (.map none), .map 30005, .b false]), .n 21, .keep [4] []] rfl ⟨tt_, (QaW _ _ hx5)⟩ ?_
  cases h
  exact AK.done (ex_ [_] (an_ (an_ rfl tt_) (gives tt_)))
 ·replace h : QjF a8 = some r := h
  unfold QjF at h
  refine Qa hC [.cm (.fn) [] [(11, 30004)] [] [.d, .d] [(30004, .map (mapV (V.i .i64) (V.i .i64) a8))] (.tup [.map 30004, .lit (.map none), .b false]), .n 21, .keep [4] []] rfl ⟨tt_, (QaW _ _ hx5)⟩ ?_
  cases h
  exact AK.done (ex_ [_] (an_ (an_ rfl tt_) (gives tt_)))
 ·replace h : Qhz a9 = some r := h
  unfold Qhz at h
  obtain ⟨x10, hx10, h⟩ := Qb h
  refine Qa hC [.cm (.fn) [] [(11, 30004), (50000, 30005)] [] [.d, .d] [(30004, .map (mapV (V.i .i64) (V.i .i64) a9.1)), (30005, .map (mapV (V.i .i64) (V.i .i64) a9.2))] (.tup [.map 30004, .map 30005, .b true]), .n 15, .cm (.fn) [(200000, 11), (200001, 50000)] [(11, 200000), (50000, 200001)] [] [.d, .d] [(200000, .map (mapV (V.i .i64) (V.i .i64) a9.1)), (200001, .map (mapV (V.i .i64) (V.i .i64) a9.2))] (.b x10), .n 5, .keep [4] []] rfl ⟨⟨tt_, (QaW _ _ hx5)⟩, (QiE _ _ hx10)⟩ ?_
  cases h
  exact AK.done (ex_ [_] (an_ (an_ rfl tt_) (gives tt_)))
def QD (s1 : (List (List (Int × Int)))) (s2 : (List (List (Int × Int)))) (x6 : Int) : Option (Int ⊕ (Unit ⊕ Unit)) :=
 bif (decide (x6 < (s1.length : Int))) then
 (idx s1 x6).bind fun e9 =>
 (idx s2 x6).bind fun e10 =>
 (QhU e9 e10).bind fun x11 =>
 bif (!x11) then
 some (.inr (.inl ()))
 else
 some (.inl (w64 (x6 + 1)))
 else
 some (.inr (.inr ()))
def Q3 : Option Bool :=
 some false
def Q4 : Option Bool :=
 some true
def QO (s1 : (List (List (Int × Int)))) (s2 : (List (List (Int × Int)))) : Option Bool :=
 bif ((s1.length : Int) != (s2.length : Int)) then
 some false
 else
 (QE (fun st => QD s1 s2 st) 0).bind (Sum.elim (fun q => Q3) (fun q => Q4))
theorem Qcx (s1 : (List (List (Int × Int)))) (s2 : (List (List (Int × Int)))) {r : Bool} (h : QO s1 s2 = some r) : Qc Tryz.prog 49 [.sl 1 (s1.map Qh), .sl 1 (s2.map Qh), .clo (.func 191) [] []] [] (Gives (.b r) []) := by
 refine Qc.walk 32 Tryz.func49 rfl Tryz.ntmps49 rfl fun C hC => ?_
 unfold QO at h
 refine Qa hC [.n 9, .o (.ln s1.length), .n 1, .o (.ln s2.length), .n 3] rfl ⟨⟨tt_, Qg⟩, Qg⟩ ?_
 rcases bifE h with ⟨hc5, h⟩ | ⟨hc5, h⟩
 ·refine Qa hC [.br true, .n 7, .keep [6] []] rfl ⟨tt_, hc5⟩ ?_
  cases h
  exact AK.done (ex_ [_] (an_ (an_ rfl tt_) (gives tt_)))
 ·refine Qa hC [.br false, .n 6, .o (.ln s1.length), .n 4, .keep [1, 2, 15, 16, 17] []] rfl ⟨⟨tt_, hc5⟩, Qg⟩ ?_
  obtain ⟨o13, hl13, h⟩ := Qb h
  refine AK.loop (body := (fun st => QD s1 s2 st)) (fun st σ => σ = ⟨[(1, .sl 1 (s2.map Qh)), (2, .clo (.func 191) [] []), (15, .sl 1 (s1.map Qh)), (16, .i .i64 (s1.length : Int)), (17, .i .i64 st)], []⟩) (Sum.elim (fun q e σ => e = .ret ∧ σ = ⟨[(6, .b false)], []⟩) (fun q e σ => e = .exit 0 ∧ σ = ⟨[], []⟩)) hl13 rfl ?_ ?_
  ·rintro x6 o σ rfl h
   replace h : QD s1 s2 x6 = some o := h
   unfold QD at h
   refine Qa hC [.n 6] rfl tt_ ?_
   rcases bifE h with ⟨hc8, h⟩ | ⟨hc8, h⟩
   ·obtain ⟨e9, he9, h⟩ := Qb h
    obtain ⟨e10, he10, h⟩ := Qb h
    obtain ⟨x11, hx11, h⟩ := Qb h
    refine Qa hC [.br true, .n 7, .o (.row (Qh e9)), .n 9, .o (.row (Qh e10)), .n 9, .o (.c false [.d, .d] (.b x11)), .n 3] rfl ⟨⟨⟨⟨tt_, hc8⟩, (idxM he9)⟩, (idxM he10)⟩, (Qp9 _ _ hx11)⟩ ?_
    rcases bifE h with ⟨hc12, h⟩ | ⟨hc12, h⟩
    ·refine Qa hC [.br true, .n 8, .keep [6] []] rfl ⟨tt_, hc12⟩ ?_
     cases h
     exact rndR rfl (an_ rfl rfl)
    ·refine Qa hC [.br false, .n 7, .keep [1, 2, 15, 16, 17] []] rfl ⟨tt_, hc12⟩ ?_
     cases h
     exact rndN rfl rfl
   ·refine Qa hC [.br false, .n 2, .keep [] []] rfl ⟨tt_, hc8⟩ ?_
    cases h
    exact rndX rfl (an_ rfl rfl)
  ·rcases o13 with (_ | _)
   ·replace h : Q3 = some r := h
    unfold Q3 at h
    rintro e σ ⟨rfl, rfl⟩
    refine Qa hC [.n 2, .keep [6] []] rfl tt_ ?_
    cases h
    exact AK.done (ex_ [_] (an_ (an_ rfl tt_) (gives tt_)))
   ·replace h : Q4 = some r := h
    unfold Q4 at h
    rintro e σ ⟨rfl, rfl⟩
    refine Qa hC [.n 8, .keep [6] []] rfl tt_ ?_
    cases h
    exact AK.done (ex_ [_] (an_ (an_ rfl tt_) (gives tt_)))
def Qfb (need1 : (List (List (Int × Int)))) (m2 : (List (List (Int × Int)))) : Option Bool :=
 (QO need1 m2).bind fun x4 =>
 some x4
theorem Qlv (need1 : (List (List (Int × Int)))) (m2 : (List (List (Int × Int)))) {r : Bool} (h : Qfb need1 m2 = some r) : Qc Tryz.prog 140 [.sl 1 (need1.map Qh), .sl 1 (m2.map Qh)] [] (Gives (.b r) []) := by
 refine Qc.walk 8 Tryz.func140 rfl Tryz.ntmps140 rfl fun C hC => ?_
 unfold Qfb at h
 obtain ⟨x4, hx4, h⟩ := Qb h
 refine Qa hC [.n 9, .cm (.fn) [] [] [] [.d, .d, .d] [] (.b x4), .n 4, .keep [4] []] rfl ⟨tt_, (Qcx _ _ hx4)⟩ ?_
 cases h
 exact AK.done (ex_ [_] (an_ (an_ rfl tt_) (gives tt_)))
def QaR (s1 : (List Int)) (v2 : Int) (x5 : Int) : Option (Int ⊕ (Int ⊕ Unit)) :=
 bif (decide (x5 < (s1.length : Int))) then
 (idx s1 x5).bind fun e9 =>
 bif (v2 == e9) then
 some (.inr (.inl x5))
 else
 some (.inl (w64 (x5 + 1)))
 else
 some (.inr (.inr ()))
def Qbr (x7 : Int) : Option Int :=
 some x7
def Qbs : Option Int :=
 some (-1)
def Qb3 (s1 : (List Int)) (v2 : Int) : Option Int :=
 (QE (fun st => QaR s1 v2 st) 0).bind (Sum.elim (fun q => Qbr q) (fun q => Qbs))
theorem Qk5 (s1 : (List Int)) (v2 : Int) {r : Int} (h : Qb3 s1 v2 = some r) : Qc Tryz.prog 192 [.sl 1 (s1.map Qe), .i .i64 v2] [] (Gives (.i .i64 r) []) := by
 refine Qc.walk 19 Tryz.func192 rfl Tryz.ntmps192 rfl fun C hC => ?_
 unfold Qb3 at h
 refine Qa hC [.n 9, .o (.ln s1.length), .n 4, .keep [0, 1, 7, 8] []] rfl ⟨tt_, Qg⟩ ?_
 obtain ⟨o11, hl11, h⟩ := Qb h
 refine AK.loop (body := (fun st => QaR s1 v2 st)) (fun st σ => σ = ⟨[(0, .sl 1 (s1.map Qe)), (1, .i .i64 v2), (7, .i .i64 (s1.length : Int)), (8, .i .i64 st)], []⟩) (Sum.elim (fun q e σ => e = .ret ∧ σ = ⟨[(4, .i .i64 q)], []⟩) (fun q e σ => e = .exit 0 ∧ σ = ⟨[], []⟩)) hl11 rfl ?_ ?_
 ·rintro x5 o σ rfl h
  replace h : QaR s1 v2 x5 = some o := h
  unfold QaR at h
  refine Qa hC [.n 6] rfl tt_ ?_
  rcases bifE h with ⟨hc8, h⟩ | ⟨hc8, h⟩
  ·obtain ⟨e9, he9, h⟩ := Qb h
   refine Qa hC [.br true, .n 15, .o (.row (Qe e9)), .n 4] rfl ⟨⟨tt_, hc8⟩, (idxM he9)⟩ ?_
   rcases bifE h with ⟨hc10, h⟩ | ⟨hc10, h⟩
   ·refine Qa hC [.br true, .n 9, .keep [4] []] rfl ⟨tt_, hc10⟩ ?_
    cases h
    exact rndR rfl (an_ rfl rfl)
   ·refine Qa hC [.br false, .n 7, .keep [0, 1, 7, 8] []] rfl ⟨tt_, hc10⟩ ?_
    cases h
    exact rndN rfl rfl
  ·refine Qa hC [.br false, .n 2, .keep [] []] rfl ⟨tt_, hc8⟩ ?_
   cases h
   exact rndX rfl (an_ rfl rfl)
 ·rcases o11 with (x7 | _)
  ·replace h : Qbr x7 = some r := h
   unfold Qbr at h
   rintro e σ ⟨rfl, rfl⟩
   refine Qa hC [.n 2, .keep [4] []] rfl tt_ ?_
   cases h
   exact AK.done (ex_ [_] (an_ (an_ rfl tt_) (gives tt_)))
  ·replace h : Qbs = some r := h
   unfold Qbs at h
   rintro e σ ⟨rfl, rfl⟩
   refine Qa hC [.n 8, .keep [4] []] rfl tt_ ?_
   cases h
   exact AK.done (ex_ [_] (an_ (an_ rfl tt_) (gives tt_)))
def QaA (s1 : (List Int)) (v2 : Int) : Option Bool :=
 (Qb3 s1 v2).bind fun x4 =>
 some (decide (0 ≤ x4))
theorem Qge (s1 : (List Int)) (v2 : Int) {r : Bool} (h : QaA s1 v2 = some r) : Qc Tryz.prog 141 [.sl 1 (s1.map Qe), .i .i64 v2] [] (Gives (.b r) []) := by
 refine Qc.walk 9 Tryz.func141 rfl Tryz.ntmps141 rfl fun C hC => ?_
 unfold QaA at h
 obtain ⟨x4, hx4, h⟩ := Qb h
 refine Qa hC [.n 9, .o (.c false [.d, .d] (.i .i64 x4)), .n 5, .keep [4] []] rfl ⟨tt_, (Qk5 _ _ hx4)⟩ ?_
 cases h
 exact AK.done (ex_ [_] (an_ (an_ rfl tt_) (gives tt_)))
def Qak (s1 : (List Int)) : Option (List Int) :=
 (chk (decide (([] : List Int).length + s1.length ≤ 4294967296))).bind fun _ =>
 some (([] : List Int) ++ s1)
theorem Qbt (s1 : (List Int)) {r : (List Int)} (h : Qak s1 = some r) : Qc Tryz.prog 142 [.sl 1 (s1.map Qe)] [] (Gives (.own 30000 r.length) [(30000, .arr 1 (r.map Qe))]) := by
 refine Qc.walk 8 Tryz.func142 rfl Tryz.ntmps142 rfl fun C hC => ?_
 unfold Qak at h
 refine Qa hC [.n 9] rfl tt_ ?_
 refine AK.eqNil rfl rfl rfl (bleN hC.n rfl) rfl rfl Qu4 ?_ ?_
 ·intro hz4
  replace h : some ([] : List Int) = some r := by simpa [chk, List.map_eq_nil_iff.1 hz4] using h
  refine Qa hC [.n 10, .adopt 2 30000 1, .sayO 30000 (.arr 1 (([] : List Int).map Qe)), .say 2 (.own 30000 ([] : List Int).length), .keep [2] [30000]] rfl ⟨⟨tt_, rfl⟩, rfl⟩ ?_
  cases h
  exact AK.done (ex_ [_] (an_ (an_ rfl tt_) (gives ⟨rfl, tt_⟩)))
 ·obtain ⟨_, hk5, h⟩ := Qb h
  replace hk5 := chkE hk5
  refine Qa hC [.n 8, .sayO 5 (.arr 1 (([] : List Int).map Qe)), .say 5 (.own 5 ([] : List Int).length), .n 1, .app ((([] : List Int) ++ s1).map Qe) (([] : List Int) ++ s1).length, .n 4, .keep [2] [5], .ren 5 30000, .keep [2] [30000]] rfl ⟨⟨⟨tt_, rfl⟩, rfl⟩, ⟨Qg, Qes hk5 Qg, Qc0, QgG Qg⟩⟩ ?_
  cases h
  exact AK.done (ex_ [_] (an_ (an_ rfl tt_) (gives ⟨rfl, tt_⟩)))
def Qb4 (x10 : Int) : Option (Int ⊕ (Unit ⊕ Unit)) :=
 some (.inl (w64 (x10 + 1)))
def QfL (x19 : ((List (List (Int × Int))) × Int)) (b1 : QA) : Option Bool :=
 bif (x19.2 == 0) then
 (Qfb x19.1 b1.m).bind fun x23 =>
 some x23
 else
 some false
def Qb5 (x10 : Int) (x20 : Bool) : Option (Int ⊕ (Unit ⊕ Unit)) :=
 bif x20 then
 some (.inr (.inl ()))
 else
 Qb4 x10
def Qbl (b1 : QA) (ins2 : (List Int)) (x10 : Int) : Option (Int ⊕ (Unit ⊕ Unit)) :=
 bif (decide (x10 < (b1.task.Ins.length : Int))) then
 (QaA ins2 x10).bind fun x13 =>
 bif x13 then
 Qb4 x10
 else
 (Qak ins2).bind fun x15 =>
 (chk (decide (x15.length + ([x10] : List Int).length ≤ 4294967296))).bind fun _ =>
 (QaZ (x15 ++ ([x10] : List Int))).bind fun x17 =>
 (chk (decide (x17.length = (x15 ++ ([x10] : List Int)).length))).bind fun _ =>
 (Qcc b1.net b1.task.Ins x17 b1.env).bind fun x19 =>
 (QfL x19 b1).bind (fun x20 => Qb5 x10 x20)
 else
 some (.inr (.inr ()))
def QfM : Option Int :=
 some 11
def QfN : Option Int :=
 some 0
def QbW (b1 : QA) (ins2 : (List Int)) : Option Int :=
 (Qcc b1.net b1.task.Ins ins2 b1.env).bind fun x5 =>
 bif (x5.2 != 0) then
 some x5.2
 else
 (Qfb x5.1 b1.m).bind fun x7 =>
 bif (!x7) then
 some 10
 else
 bif (b1.task.Join != 3) then
 some 0
 else
 (QE (fun st => Qbl b1 ins2 st) 0).bind (Sum.elim (fun q => QfM) (fun q => QfN))
theorem QiF (b1 : QA) (ins2 : (List Int)) {r : Int} (h : QbW b1 ins2 = some r) : Qc Tryz.prog 73 [.agg (Qp b1), .sl 1 (ins2.map Qe)] [] (Gives (.i .i64 r) []) := by
 refine Qc.walk 76 Tryz.func73 rfl Tryz.ntmps73 rfl fun C hC => ?_
 unfold QbW at h
 obtain ⟨x5, hx5, h⟩ := Qb h
 refine Qa hC [.n 9, .v .no [] (.agg (Qd b1.net)), .n 6, .o (.c false [.d, .d, .d, .d] (.tup [.sl 1 (x5.1.map Qh), .i .i64 x5.2])), .n 16] rfl ⟨⟨tt_, rfl⟩, (QeA _ _ _ _ hx5)⟩ ?_
 rcases bifE h with ⟨hc6, h⟩ | ⟨hc6, h⟩
 ·refine Qa hC [.br true, .n 9, .keep [4] []] rfl ⟨tt_, hc6⟩ ?_
  cases h
  exact AK.done (ex_ [_] (an_ (an_ rfl tt_) (gives tt_)))
 ·obtain ⟨x7, hx7, h⟩ := Qb h
  refine Qa hC [.br false, .n 5, .o (.c false [.d, .d] (.b x7)), .n 4] rfl ⟨⟨tt_, hc6⟩, (Qlv _ _ hx7)⟩ ?_
  rcases bifE h with ⟨hc8, h⟩ | ⟨hc8, h⟩
  ·refine Qa hC [.br true, .n 8, .keep [4] []] rfl ⟨tt_, hc8⟩ ?_
   cases h
   exact AK.done (ex_ [_] (an_ (an_ rfl tt_) (gives tt_)))
  ·refine Qa hC [.br false, .n 9] rfl ⟨tt_, hc8⟩ ?_
   rcases bifE h with ⟨hc9, h⟩ | ⟨hc9, h⟩
   ·refine Qa hC [.br true, .n 8, .keep [4] []] rfl ⟨tt_, hc9⟩ ?_
    cases h
    exact AK.done (ex_ [_] (an_ (an_ rfl tt_) (gives tt_)))
   ·refine Qa hC [.br false, .n 9, .o (.ln b1.task.Ins.length), .n 4, .keep [1, 2, 41, 42] [2]] rfl ⟨⟨tt_, hc9⟩, Qg⟩ ?_
    obtain ⟨o25, hl25, h⟩ := Qb h
    refine AK.loop (body := (fun st => Qbl b1 ins2 st)) (fun st σ => σ = ⟨[(1, .sl 1 (ins2.map Qe)), (2, .loc 2 0 0), (41, .i .i64 (b1.task.Ins.length : Int)), (42, .i .i64 st)], [(2, .var (Qp b1))]⟩) (Sum.elim (fun q e σ => e = .ret ∧ σ = ⟨[(4, .i .i64 11)], []⟩) (fun q e σ => e = .exit 1 ∧ σ = ⟨[], []⟩)) hl25 rfl ?_ ?_
    ·rintro x10 o σ rfl h
     replace h : Qbl b1 ins2 x10 = some o := h
     unfold Qbl at h
     refine Qa hC [.n 6] rfl tt_ ?_
     rcases bifE h with ⟨hc12, h⟩ | ⟨hc12, h⟩
     ·refine Qa hC [.br true, .n 2] rfl ⟨tt_, hc12⟩ ?_
      refine AK.meet (fun σ => σ = ⟨[(1, .sl 1 (ins2.map Qe)), (2, .loc 2 0 0), (41, .i .i64 (b1.task.Ins.length : Int)), (42, .i .i64 x10)], [(2, .var (Qp b1))]⟩ ∧ Qb4 x10 = some o) ?_ ?_
      ·obtain ⟨x13, hx13, h⟩ := Qb h
       refine Qa hC [.n 12, .o (.c false [.d, .d] (.b x13)), .n 2] rfl ⟨tt_, (Qge _ _ hx13)⟩ ?_
       rcases bifE h with ⟨hc14, h⟩ | ⟨hc14, h⟩
       ·refine Qa hC [.br true, .n 3, .keep [1, 2, 41, 42] [2]] rfl ⟨tt_, hc14⟩ ?_
        exact AK.met (an_ rfl h)
       ·obtain ⟨x15, hx15, h⟩ := Qb h
        obtain ⟨_, hk16, h⟩ := Qb h
        replace hk16 := chkE hk16
        obtain ⟨x17, hx17, h⟩ := Qb h
        obtain ⟨_, hk18, h⟩ := Qb h
        replace hk18 := chkE hk18
        obtain ⟨x19, hx19, h⟩ := Qb h
        refine Qa hC [.br false, .n 5, .o (.co false [.d] 1 (x15.map Qe) x15.length), .n 1, .v (.bd []) [] (.sl 1 (([x10] : List Int).map Qe)), .app ((x15 ++ ([x10] : List Int)).map Qe) (x15 ++ ([x10] : List Int)).length, .n 6, .cm (.fn) [(200000, 49)] [(49, 200000)] [] [.d] [(200000, .arr 1 (x17.map Qe))] (.tup []), .say 8 (.own 49 x17.length), .say 52 (.own 49 x17.length), .say 53 (.own 49 x17.length), .n 5, .v .no [] (.agg (Qd b1.net)), .n 6, .frz 49 (x17.map Qe) [8, 52, 53, 61] [], .o (.c false [.d, .d, .d, .d] (.tup [.sl 1 (x19.1.map Qh), .i .i64 x19.2])), .n 8] rfl ⟨⟨⟨⟨⟨⟨⟨⟨⟨⟨⟨tt_, hc14⟩, ⟨(Qbt _ hx15), Qg, .inl rfl⟩⟩, rfl⟩, ⟨Qg, Qes hk16 Qg, Qc0, QgG Qg⟩⟩, (QhT _ hx17)⟩, (by simp [of_decide_eq_true hk18])⟩, (by simp [of_decide_eq_true hk18])⟩, (by simp [of_decide_eq_true hk18])⟩, rfl⟩, ⟨⟨⟨⟨tt_, (frzL Qg)⟩, (frzL Qg)⟩, (frzL Qg)⟩, (frzL Qg)⟩⟩, (QeA _ _ _ _ hx19)⟩ ?_
        obtain ⟨x20, hv21, h⟩ := Qb h
        replace h : Qb5 x10 x20 = some o := h
        refine AK.meetX (fun σ => σ = ⟨[(1, .sl 1 (ins2.map Qe)), (2, .loc 2 0 0), (41, .i .i64 (b1.task.Ins.length : Int)), (42, .i .i64 x10), (74, .b x20)], [(2, .var (Qp b1))]⟩) ?_ ?_
        ·replace h := hv21
         unfold QfL at h
         refine Qa hC [.n 4] rfl tt_ ?_
         rcases bifE h with ⟨hc22, h⟩ | ⟨hc22, h⟩
         ·obtain ⟨x23, hx23, h⟩ := Qb h
          refine Qa hC [.say 69 (.b true), .n 3, .o (.c false [.d, .d] (.b x23)), .n 2, .keep [1, 2, 41, 42, 74] [2]] rfl ⟨⟨tt_, (congrArg V.b hc22)⟩, (Qlv _ _ hx23)⟩ ?_
          cases h
          exact AK.met rfl
         ·refine Qa hC [.say 69 (.b false), .n 6, .keep [1, 2, 41, 42, 74] [2]] rfl ⟨tt_, (congrArg V.b hc22)⟩ ?_
          cases h
          exact AK.met rfl
        ·rintro σ rfl
         replace h : Qb5 x10 x20 = some o := h
         unfold Qb5 at h
         refine Qa hC [.n 1] rfl tt_ ?_
         rcases bifE h with ⟨hc24, h⟩ | ⟨hc24, h⟩
         ·refine Qa hC [.br true, .n 8, .keep [4] []] rfl ⟨tt_, hc24⟩ ?_
          cases h
          exact rndR rfl (an_ rfl rfl)
         ·refine Qa hC [.br false, .n 2, .keep [1, 2, 41, 42] [2]] rfl ⟨tt_, hc24⟩ ?_
          exact AK.met (an_ rfl h)
      ·rintro σ ⟨rfl, h⟩
       unfold Qb4 at h
       refine Qa hC [.n 4, .keep [1, 2, 41, 42] [2]] rfl tt_ ?_
       cases h
       exact rndN rfl rfl
     ·refine Qa hC [.br false, .n 2, .keep [] []] rfl ⟨tt_, hc12⟩ ?_
      cases h
      exact rndX rfl (an_ rfl rfl)
    ·rcases o25 with (_ | _)
     ·replace h : QfM = some r := h
      unfold QfM at h
      rintro e σ ⟨rfl, rfl⟩
      refine Qa hC [.n 2, .keep [4] []] rfl tt_ ?_
      cases h
      exact AK.done (ex_ [_] (an_ (an_ rfl tt_) (gives tt_)))
     ·replace h : QfN = some r := h
      unfold QfN at h
      rintro e σ ⟨rfl, rfl⟩
      refine Qa hC [.n 8, .keep [4] []] rfl tt_ ?_
      cases h
      exact AK.done (ex_ [_] (an_ (an_ rfl tt_) (gives tt_)))
def QbX (b1 : QA) (outs2 : (List Int)) : Option Int :=
 (Qcc b1.net b1.task.Outs outs2 b1.env).bind fun x4 =>
 some x4.2
theorem QiG (b1 : QA) (outs2 : (List Int)) {r : Int} (h : QbX b1 outs2 = some r) : Qc Tryz.prog 74 [.agg (Qp b1), .sl 1 (outs2.map Qe)] [] (Gives (.i .i64 r) []) := by
 refine Qc.walk 20 Tryz.func74 rfl Tryz.ntmps74 rfl fun C hC => ?_
 unfold QbX at h
 obtain ⟨x4, hx4, h⟩ := Qb h
 refine Qa hC [.n 9, .v .no [] (.agg (Qd b1.net)), .n 6, .o (.c false [.d, .d, .d, .d] (.tup [.sl 1 (x4.1.map Qh), .i .i64 x4.2])), .n 14, .keep [4] []] rfl ⟨⟨tt_, rfl⟩, (QeA _ _ _ _ hx4)⟩ ?_
 cases h
 exact AK.done (ex_ [_] (an_ (an_ rfl tt_) (gives tt_)))
def QjG (x6 : (Int × QA)) (o3 : Qk) : Option Bool :=
 (Qfa x6.2.task.Join (x6.2.task.Ins.length : Int) o3.Ins).bind fun x11 =>
 bif (!x11) then
 some true
 else
 (Qfa x6.2.task.Split (x6.2.task.Outs.length : Int) o3.Outs).bind fun x13 =>
 some (!x13)
def Qfk (x6 : (Int × QA)) (o3 : Qk) (x9 : Bool) : Option Int :=
 bif x9 then
 some 11
 else
 (QbW x6.2 o3.Ins).bind fun x15 =>
 bif (x15 != 0) then
 some x15
 else
 (QbX x6.2 o3.Outs).bind fun x17 =>
 some x17
def Qdz (x6 : (Int × QA)) (o3 : Qk) (err7 : Int) : Option Int :=
 bif (err7 != 0) then
 some err7
 else
 (QjG x6 o3).bind (fun x9 => Qfk x6 o3 x9)
def QhV (n1 : TNet) (m2 : (List (List (Int × Int)))) (o3 : Qk) : Option Int :=
 (Qf8 n1 m2 o3.Task o3.Vars).bind fun x6 =>
 bif (x6.1 == 0) then
 (Qby x6.2).bind fun x19 =>
 Qdz x6 o3 x19
 else
 Qdz x6 o3 x6.1
theorem Qqa (n1 : TNet) (m2 : (List (List (Int × Int)))) (o3 : Qk) {r : Int} (h : QhV n1 m2 o3 = some r) : Qc Tryz.prog 34 [.agg (Qd n1), .sl 1 (m2.map Qh), .agg (Qj o3)] [] (Gives (.i .i64 r) []) := by
 refine Qc.walk 62 Tryz.func34 rfl Tryz.ntmps34 rfl fun C hC => ?_
 unfold QhV at h
 obtain ⟨x6, hx6, h⟩ := Qb h
 refine Qa hC [.n 9, .v .no [] (.agg (Qd n1)), .n 5, .o (.c false [.d, .d, .d, .d] (.tup [.agg (Qp x6.2), .i .i64 x6.1])), .n 5, .sayO 7 (.var (Qp x6.2)), .n 3] rfl ⟨⟨⟨tt_, rfl⟩, (Ql4 _ _ _ _ hx6)⟩, rfl⟩ ?_
 refine AK.meet (fun σ => ∃ err7 : Int, σ = ⟨[(5, .loc 5 0 0), (7, .loc 7 0 0), (8, .i .i64 err7)], [(5, .var (Qj o3)), (7, .var (Qp x6.2))]⟩ ∧ Qdz x6 o3 err7 = some r) ?_ ?_
 ·refine Qa hC [.n 6] rfl tt_ ?_
  rcases bifE h with ⟨hc18, h⟩ | ⟨hc18, h⟩
  ·obtain ⟨x19, hx19, h⟩ := Qb h
   refine Qa hC [.br true, .n 1, .v .no [] (.agg (Qp x6.2)), .o (.c false [.d] (.i .i64 x19)), .n 2, .keep [5, 7, 8] [5, 7]] rfl ⟨⟨⟨tt_, hc18⟩, rfl⟩, (QhR _ hx19)⟩ ?_
   exact AK.met (ex_ _ (an_ rfl h))
  ·refine Qa hC [.br false, .n 1, .keep [5, 7, 8] [5, 7]] rfl ⟨tt_, hc18⟩ ?_
   exact AK.met (ex_ _ (an_ rfl h))
 ·rintro σ ⟨err7, rfl, h⟩
  unfold Qdz at h
  refine Qa hC [.n 7] rfl tt_ ?_
  rcases bifE h with ⟨hc8, h⟩ | ⟨hc8, h⟩
  ·refine Qa hC [.br true, .n 8, .keep [6] []] rfl ⟨tt_, hc8⟩ ?_
   cases h
   exact AK.done (ex_ [_] (an_ (an_ rfl tt_) (gives tt_)))
  ·refine Qa hC [.br false, .n 4] rfl ⟨tt_, hc8⟩ ?_
   obtain ⟨x9, hv10, h⟩ := Qb h
   replace h : Qfk x6 o3 x9 = some r := h
   refine AK.meetX (fun σ => σ = ⟨[(5, .loc 5 0 0), (7, .loc 7 0 0), (50, .b x9)], [(5, .var (Qj o3)), (7, .var (Qp x6.2))]⟩) ?_ ?_
   ·replace h := hv10
    unfold QjG at h
    obtain ⟨x11, hx11, h⟩ := Qb h
    refine Qa hC [.n 7, .o (.ln x6.2.task.Ins.length), .n 2, .o (.c false [.d, .d, .d] (.b x11)), .n 2] rfl ⟨⟨tt_, Qg⟩, (Qlp _ _ _ hx11)⟩ ?_
    rcases bifE h with ⟨hc12, h⟩ | ⟨hc12, h⟩
    ·refine Qa hC [.say 38 (.b true), .n 13, .keep [5, 7, 50] [5, 7]] rfl ⟨tt_, (congrArg V.b hc12)⟩ ?_
     cases h
     exact AK.met rfl
    ·obtain ⟨x13, hx13, h⟩ := Qb h
     refine Qa hC [.say 38 (.b false), .n 6, .o (.ln x6.2.task.Outs.length), .n 2, .o (.c false [.d, .d, .d] (.b x13)), .n 3, .keep [5, 7, 50] [5, 7]] rfl ⟨⟨⟨tt_, (congrArg V.b hc12)⟩, Qg⟩, (Qlp _ _ _ hx13)⟩ ?_
     cases h
     exact AK.met rfl
   ·rintro σ rfl
    replace h : Qfk x6 o3 x9 = some r := h
    unfold Qfk at h
    refine Qa hC [.n 1] rfl tt_ ?_
    rcases bifE h with ⟨hc14, h⟩ | ⟨hc14, h⟩
    ·refine Qa hC [.br true, .n 7, .keep [6] []] rfl ⟨tt_, hc14⟩ ?_
     cases h
     exact AK.done (ex_ [_] (an_ (an_ rfl tt_) (gives tt_)))
    ·obtain ⟨x15, hx15, h⟩ := Qb h
     refine Qa hC [.br false, .n 5, .v .no [] (.agg (Qp x6.2)), .n 2, .o (.c false [.d, .d] (.i .i64 x15)), .n 9] rfl ⟨⟨⟨tt_, hc14⟩, rfl⟩, (QiF _ _ hx15)⟩ ?_
     rcases bifE h with ⟨hc16, h⟩ | ⟨hc16, h⟩
     ·refine Qa hC [.br true, .n 8, .keep [6] []] rfl ⟨tt_, hc16⟩ ?_
      cases h
      exact AK.done (ex_ [_] (an_ (an_ rfl tt_) (gives tt_)))
     ·obtain ⟨x17, hx17, h⟩ := Qb h
      refine Qa hC [.br false, .n 4, .v .no [] (.agg (Qp x6.2)), .n 2, .o (.c false [.d, .d] (.i .i64 x17)), .n 4, .keep [6] []] rfl ⟨⟨⟨tt_, hc16⟩, rfl⟩, (QiG _ _ hx17)⟩ ?_
      cases h
      exact AK.done (ex_ [_] (an_ (an_ rfl tt_) (gives tt_)))
def Qgf (n1 : TNet) (o2 : Qk) : Option ((List (List (Int × Int))) × Int) :=
 (QgI n1 o2.Task o2.Vars).bind fun x7 =>
 bif (x7.2 != 0) then
 some (([] : List (List (Int × Int))), x7.2)
 else
 (idx n1.Tasks o2.Task).bind fun e9 =>
 (Qcc n1 e9.Ins o2.Ins x7.1).bind fun x10 =>
 some (x10.1, x10.2)
theorem Ql5 (n1 : TNet) (o2 : Qk) {r : ((List (List (Int × Int))) × Int)} (h : Qgf n1 o2 = some r) : Qc Tryz.prog 26 [.agg (Qd n1), .agg (Qj o2)] [] (Gives (.tup [.sl 1 (r.1.map Qh), .i .i64 r.2]) []) := by
 refine Qc.walk 34 Tryz.func26 rfl Tryz.ntmps26 rfl fun C hC => ?_
 unfold Qgf at h
 obtain ⟨x7, hx7, h⟩ := Qb h
 refine Qa hC [.n 10, .v .no [] (.agg (Qd n1)), .n 4, .o (.c false [.d, .d, .d] (.tup [.sl 1 (x7.1.map Qe), .i .i64 x7.2])), .n 14] rfl ⟨⟨tt_, rfl⟩, (QkF _ _ _ hx7)⟩ ?_
 rcases bifE h with ⟨hc8, h⟩ | ⟨hc8, h⟩
 ·refine Qa hC [.br true, .n 9, .denil 4 [some 1], .keep [4, 5] []] rfl ⟨tt_, hc8⟩ ?_
  cases h
  exact AK.done (ex_ [_, _] (an_ (an_ rfl (an_ rfl tt_)) (gives tt_)))
 ·obtain ⟨e9, he9, h⟩ := Qb h
  obtain ⟨x10, hx10, h⟩ := Qb h
  refine Qa hC [.br false, .n 3, .keep [2, 3, 4, 5, 6] [2, 3]] rfl ⟨tt_, hc8⟩ ?_
  refine AK.draw2 Qo hC mixed [.a .no (some ([], .agg (Qd n1))) false, .a .no none false, .a .no none false, .a .no none false, .a .no none false, .a (.row (Qi e9)) none false, .a .no none false, .a .no none false, .a .no none false, .a .no none false, .a .no none false, .a (.c false [.d, .d, .d, .d] (.tup [.sl 1 (x10.1.map Qh), .i .i64 x10.2])) none false, .a .no none false, .a .no none false, .m .s, .m .s] [] [] [4, 5] [] rfl rfl rfl ⟨⟨⟨tt_, rfl⟩, (idxM he9)⟩, (QeA _ _ _ _ hx10)⟩ rfl (by kernel_rfl) rfl rfl rfl ?_
  refine Qa hC [.n 2, .keep [4, 5] []] rfl tt_ ?_
  cases h
  exact AK.done (ex_ [_, _] (an_ (an_ rfl (an_ rfl tt_)) (gives tt_)))
def QkK (a8 : Unit) : Option ((List (Int × Int)) × Int) :=
 some (([] : List (Int × Int)), 1)
def QkL (a9 : (List (Int × Int))) : Option ((List (Int × Int)) × Int) :=
 some (([] : List (Int × Int)), 1)
def QkM (a10 : (List (Int × Int))) : Option ((List (Int × Int)) × Int) :=
 some (([] : List (Int × Int)), 1)
def QdM (m16 : (List (Int × Int))) (k18 : Int) (v19 : Int) : Option ((List (Int × Int)) ⊕ Empty) :=
 some (.inl (mset ltI m16 k18 (w64 (((mget m16 k18).getD 0) - v19))))
def QiQ (m16 : (List (Int × Int))) : Option ((List (Int × Int)) × Int) :=
 (Qce m16).bind fun x21 =>
 some (x21, 0)
def QiR (a11 : ((List (Int × Int)) × (List (Int × Int)))) : Option ((List (Int × Int)) × Int) :=
 (QbV a11.2 a11.1).bind fun x12 =>
 bif (!x12) then
 some (([] : List (Int × Int)), 10)
 else
 (Qix (fun st p => QdM st p.1 p.2) a11.1 a11.2).bind (Sum.elim (fun q => QiQ q) (fun q => Empty.elim q))
def Qfl (a1 : (List (Int × Int))) (b2 : (List (Int × Int))) : Option ((List (Int × Int)) × Int) :=
 (QgJ a1 b2).bind (Sum.elim (fun q => QkK q) (Sum.elim (fun q => QkL q) (Sum.elim (fun q => QkM q) (fun q => QiR q))))
theorem Qrk (a1 : (List (Int × Int))) (b2 : (List (Int × Int))) {r : ((List (Int × Int)) × Int)} (h : Qfl a1 b2 = some r) : Qc Tryz.prog 36 [.sl 2 (a1.map Qt), .sl 2 (b2.map Qt)] [] (Gives (.tup [.sl 2 (r.1.map Qt), .i .i64 r.2]) []) := by
 refine Qc.walk 40 Tryz.func36 rfl Tryz.ntmps36 rfl fun C hC => ?_
 unfold Qfl at h
 obtain ⟨x7, hx7, h⟩ := Qb h
 refine Qa hC [.n 10] rfl tt_ ?_
 rcases x7 with (a8 | (a9 | (a10 | a11)))
 ·replace h : QkK a8 = some r := h
  unfold QkK at h
  refine Qa hC [.cm (.fn) [] [] [] [.d, .d] [] (.tup [.lit (.map none), .lit (.map none), .b false]), .n 28, .denil 4 [some 2], .keep [4, 5] []] rfl ⟨tt_, (QaW _ _ hx7)⟩ ?_
  cases h
  exact AK.done (ex_ [_, _] (an_ (an_ rfl (an_ rfl tt_)) (gives tt_)))
 ·replace h : QkL a9 = some r := h
  unfold QkL at h
  refine Qa hC [.cm (.fn) [] [(14, 30005)] [] [.d, .d] [(30005, .map (mapV (V.i .i64) (V.i .i64) a9))] (.tup [.lit (.map none), .map 30005, .b false]), .n 28, .denil 4 [some 2], .keep [4, 5] []] rfl ⟨tt_, (QaW _ _ hx7)⟩ ?_
  cases h
  exact AK.done (ex_ [_, _] (an_ (an_ rfl (an_ rfl tt_)) (gives tt_)))
 ·replace h : QkM a10 = some r := h
  unfold QkM at h
  refine Qa hC [.cm (.fn) [] [(14, 30004)] [] [.d, .d] [(30004, .map (mapV (V.i .i64) (V.i .i64) a10))] (.tup [.map 30004, .lit (.map none), .b false]), .n 28, .denil 4 [some 2], .keep [4, 5] []] rfl ⟨tt_, (QaW _ _ hx7)⟩ ?_
  cases h
  exact AK.done (ex_ [_, _] (an_ (an_ rfl (an_ rfl tt_)) (gives tt_)))
 ·replace h : QiR a11 = some r := h
  unfold QiR at h
  obtain ⟨x12, hx12, h⟩ := Qb h
  refine Qa hC [.cm (.fn) [] [(14, 30004), (50000, 30005)] [] [.d, .d] [(30004, .map (mapV (V.i .i64) (V.i .i64) a11.1)), (30005, .map (mapV (V.i .i64) (V.i .i64) a11.2))] (.tup [.map 30004, .map 30005, .b true]), .n 23, .cm (.fn) [(200000, 50000), (200001, 14)] [(50000, 200000), (14, 200001)] [] [.d, .d] [(200000, .map (mapV (V.i .i64) (V.i .i64) a11.2)), (200001, .map (mapV (V.i .i64) (V.i .i64) a11.1))] (.b x12), .n 4] rfl ⟨⟨tt_, (QaW _ _ hx7)⟩, (QiE _ _ hx12)⟩ ?_
  rcases bifE h with ⟨hc13, h⟩ | ⟨hc13, h⟩
  ·refine Qa hC [.br true, .n 9, .denil 4 [some 2], .keep [4, 5] []] rfl ⟨tt_, hc13⟩ ?_
   cases h
   exact AK.done (ex_ [_, _] (an_ (an_ rfl (an_ rfl tt_)) (gives tt_)))
  ·refine Qa hC [.br false, .n 7] rfl ⟨tt_, hc13⟩ ?_
   refine AK.openMap (b := 50000) ky_3 rfl fun bm14 cl14 L14 hbn14 hpm14 => ?_
   refine Qa hC [.x (fun σ => (σ.set 27 (.itr bm14 cl14 #[] none)).put 27 (.loc 27 0 0)), .n 3, .keep [6, 27] [14, 27, 50000]] rfl ⟨tt_, (Stp.range (b := 50000) rfl rfl (bleN hC.n rfl) rfl rfl QgH rfl)⟩ ?_
   obtain ⟨o20, hl20, h⟩ := Qb h
   refine AK.range (body := (fun st p => QdM st p.1 p.2)) (fun st seen σ => ∃ cur : Option MapEntry, σ = ⟨[(6, .map 14), (27, .loc 27 0 0)], [(14, .map (mapV (V.i .i64) (V.i .i64) st)), (27, .itr bm14 cl14 seen cur), (50000, .mapX bm14 cl14 (typV (V.i .i64) (V.i .i64) L14) (mapV (V.i .i64) (V.i .i64) a11.2))]⟩) (fun (q : Empty) _ _ => False) (fun st e σ => e = .exit 1 ∧ σ = ⟨[(6, .map 14)], [(14, .map (mapV (V.i .i64) (V.i .i64) st))]⟩) hbn14 hpm14 hl20 (ex_ _ rfl) ?_ ?_
   ·rintro m16 seen σ ⟨cur, rfl⟩ hex
    refine Qa hC [.n 2] rfl tt_ ?_
    refine AK.nextT (b := 27) (m := 50000) rfl rfl rfl (bleN hC.n rfl) rfl rfl rfl rfl ?_ ?_
    ·intro hleft
     refine Qa hC [.n 7, .keep [6] [14]] rfl tt_ ?_
     exact AK.done (Or.inl (an_ hleft (an_ (fun h => (by cases h)) (an_ rfl rfl))))
    ·intro xk18 k18 v19 hq15
     obtain ⟨o, h⟩ := hex _ hq15
     have ho := h
     replace h : QdM m16 k18 v19 = some o := h
     unfold QdM at h
     refine Qa hC [.n 10, .x (fun σ => σ.put 30 (.tup [.i .i64 k18, .i .i64 v19])), .n 9, .o (.any (.i .i64 ((mget m16 k18).getD 0)) none), .n 2, .x (fun σ => σ.set 14 (.map (mapV (V.i .i64) (V.i .i64) (mset ltI m16 k18 (w64 (((mget m16 k18).getD 0) - v19)))))), .n 2, .keep [6, 27] [14, 27, 50000]] rfl ⟨⟨⟨tt_, (Stp.entryT (b := 27) (m := 50000) rfl rfl (bleN hC.n rfl) rfl hq15 rfl rfl)⟩, (fun σ h1 h2 _ => Stp.lookup (e := (V.i .i64)) (f := (V.i .i64)) (l := m16) (k := k18) (z := 0) rfl rfl (bleN hC.n rfl) (h1 _ _ rfl) (h2 _ _ rfl) (h1 _ _ rfl) QgH ky_3 zi_3 rfl)⟩, (Stp.mapUpdate (e := (V.i .i64)) (f := (V.i .i64)) (l := m16) (k := k18) (v := (w64 (((mget m16 k18).getD 0) - v19))) ltI rfl rfl rfl rfl rfl rfl QgH ky_3 rfl)⟩ ?_
     cases h
     exact AK.done (Or.inr (ex_ _ (an_ hq15 (Or.inl (ex_ _ (an_ ho (an_ rfl (ex_ _ rfl))))))))
   ·rcases o20 with (m16 | q)
    ·replace h : QiQ m16 = some r := h
     unfold QiQ at h
     rintro e σ ⟨rfl, rfl⟩
     obtain ⟨x21, hx21, h⟩ := Qb h
     refine Qa hC [.n 5, .cm (.fn) [(200000, 14)] [(39, 30000), (14, 200000)] [] [.d] [(30000, .arr 2 (x21.map Qt)), (200000, .map (mapV (V.i .i64) (V.i .i64) m16))] (.own 30000 x21.length), .n 5, .frz 39 (x21.map Qt) [4] [], .keep [4, 5] []] rfl ⟨⟨tt_, (Qhk _ hx21)⟩, ⟨tt_, (frzL Qg)⟩⟩ ?_
     cases h
     exact AK.done (ex_ [_, _] (an_ (an_ rfl (an_ rfl tt_)) (gives tt_)))
    ·exact q.elim

end Go.Proofs
