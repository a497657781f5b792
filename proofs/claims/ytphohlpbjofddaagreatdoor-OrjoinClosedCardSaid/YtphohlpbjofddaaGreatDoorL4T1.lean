/- What functions of the program do, as functions over plain data, and the walks that show it: printed by a program. -/
import Derived.Test.YtphohlpbjofddaaGreatDoorL4V3
import Derived.Test.YtphohlpbjofddaaGreatDoorProg
set_option linter.unusedVariables false
set_option linter.unusedSimpArgs false
set_option linter.unusedSectionVars false
set_option linter.deprecated false
set_option maxRecDepth 100000
set_option maxHeartbeats 4000000
noncomputable section
namespace Go.Proofs
open Go Go.RowKit Go.Vm
structure QB where
 Name:ByteArray
 Kind:Int
 Lo:Int
 Hi:Int
 Names:(List ByteArray)
 First:Int
 Then:Int
structure QC where
 Name:ByteArray
 Colour:Int
 First:(List (Int×Int))
structure TVar where
 Name:ByteArray
 Colour:Int
structure Qg where
 Kind:Int
 Num:Int
 Kids:(List Qg)
structure TArc where
 Place:Int
 Expr:Qg
structure Qr where
 Name:ByteArray
 Vars:(List TVar)
 Guard:Qg
 Join:Int
 Split:Int
 Ins:(List TArc)
 Outs:(List TArc)
 Cancel:(List Int)
 After:Int
 Many:(Int×Int×Int)
structure TNet where
 Colours:(List QB)
 Places:(List QC)
 Tasks:(List Qr)
 From:Int
 To:Int
structure Qk where
 Task:Int
 Vars:(List Int)
 Ins:(List Int)
 Outs:(List Int)
structure QD where
 net:TNet
 m:(List (List (Int×Int)))
 task:Qr
 env:(List Int)
structure Qah where
 all:(List QB)
 sizes:(List Int)
 k:Int
structure QdZ where
 Kind:Int
 At:Int
def QdF (x:ByteArray):List V:=[.s x]
def Qe (x:Int):List V:=[.i .i64 x]
theorem QvP (l:List Int):∀r∈l.map Qe,∀v∈r,v.sca=true:=Qxg (fun _=>rfl) l
def QxJ (x:(List ByteArray)):List V:=[.sl 1 (x.map QdF)]
def Qw (x:QB):List V:=[.s x.Name,.i .i64 x.Kind,.i .i64 x.Lo,.i .i64 x.Hi,.sl 1 (x.Names.map QdF),.i .i64 x.First,.i .i64 x.Then]
def QtN (x:(List QB)):List V:=[.sl 7 (x.map Qw)]
def Qy (x:(Int×Int)):List V:=[.i .i64 x.1,.i .i64 x.2]
def Qh (x:(List (Int×Int))):List V:=[.sl 2 (x.map Qy)]
def Qv (x:QC):List V:=[.s x.Name,.i .i64 x.Colour,.sl 2 (x.First.map Qy)]
def Quk (x:(List QC)):List V:=[.sl 3 (x.map Qv)]
def QE (x:TVar):List V:=[.s x.Name,.i .i64 x.Colour]
def QbL (x:(List TVar)):List V:=[.sl 2 (x.map QE)]
mutual
def Qow : Qg→List V
 | ⟨x0,x1,x2⟩=>[.i .i64 x0,.i .i64 x1,.sl 3 (Qa1 x2)]
def Qa1 : List Qg→List (List V)
 | []=>[]
 | e::es=>Qow e::Qa1 es
end
def Qm (x:Qg):List V:=[.i .i64 x.Kind,.i .i64 x.Num,.sl 3 (Qa1 x.Kids)]
theorem Qs5 : ∀x:Qg,Qow x=Qm x
 | ⟨x0,x1,x2⟩=>by rw [Qow];rfl
theorem Qjc : ∀l:List Qg,Qa1 l=l.map Qm
 | []=>by rw [Qa1];rfl
 | e::es=>by rw [Qa1,Qjc es,Qs5];rfl
theorem Qjd (l:List Qg):(Qa1 l).length=l.length:=by rw [Qjc,List.length_map]
theorem Qd0 {l:List Qg}{j:Int}{x:Qg}(h:idx l j=some x):0≤j∧(Qa1 l)[j.toNat]? = some (Qm x):=by rw [Qjc];exact idxM h
def QG (x:TArc):List V:=[.i .i64 x.Place,.i .i64 x.Expr.Kind,.i .i64 x.Expr.Num,.sl 3 (Qa1 x.Expr.Kids)]
def QvQ (x:(List TArc)):List V:=[.sl 4 (x.map QG)]
def Qz (x:(List Int)):List V:=[.sl 1 (x.map Qe)]
def Qso (x:(Int×Int×Int)):List V:=[.i .i64 x.1,.i .i64 x.2.1,.i .i64 x.2.2]
def Qi (x:Qr):List V:=[.s x.Name,.sl 2 (x.Vars.map QE),.i .i64 x.Guard.Kind,.i .i64 x.Guard.Num,.sl 3 (Qa1 x.Guard.Kids),.i .i64 x.Join,.i .i64 x.Split,.sl 4 (x.Ins.map QG),.sl 4 (x.Outs.map QG),.sl 1 (x.Cancel.map Qe),.i .i64 x.After,.i .i64 x.Many.1,.i .i64 x.Many.2.1,.i .i64 x.Many.2.2]
def Qu8 (x:(List Qr)):List V:=[.sl 14 (x.map Qi)]
def Qd (x:TNet):List V:=[.sl 7 (x.Colours.map Qw),.sl 3 (x.Places.map Qv),.sl 14 (x.Tasks.map Qi),.i .i64 x.From,.i .i64 x.To]
def Qj (x:Qk):List V:=[.i .i64 x.Task,.sl 1 (x.Vars.map Qe),.sl 1 (x.Ins.map Qe),.sl 1 (x.Outs.map Qe)]
def Qs (x:(List (List (Int×Int)))):List V:=[.sl 1 (x.map Qh)]
def QaM (x:Int):List V:=[.i .u8 x]
def QH (x:(List (List Int))):List V:=[.sl 1 (x.map Qz)]
def Qq (x:QD):List V:=[.sl 7 (x.net.Colours.map Qw),.sl 3 (x.net.Places.map Qv),.sl 14 (x.net.Tasks.map Qi),.i .i64 x.net.From,.i .i64 x.net.To,.sl 1 (x.m.map Qh),.s x.task.Name,.sl 2 (x.task.Vars.map QE),.i .i64 x.task.Guard.Kind,.i .i64 x.task.Guard.Num,.sl 3 (Qa1 x.task.Guard.Kids),.i .i64 x.task.Join,.i .i64 x.task.Split,.sl 4 (x.task.Ins.map QG),.sl 4 (x.task.Outs.map QG),.sl 1 (x.task.Cancel.map Qe),.i .i64 x.task.After,.i .i64 x.task.Many.1,.i .i64 x.task.Many.2.1,.i .i64 x.task.Many.2.2,.sl 1 (x.env.map Qe)]
def QL (x:Qah):List V:=[.sl 7 (x.all.map Qw),.sl 1 (x.sizes.map Qe),.i .i64 x.k]
def Qu9 (x:(List Qk)):List V:=[.sl 4 (x.map Qj)]
def QcV (x:QdZ):List V:=[.i .i64 x.Kind,.i .i64 x.At]
def Qfn (fn:Nat):QgU:=rfOf Tryz.f261 0 fn
def Qaz (fn:Nat):QgU:=rfOf Tryz.f40 0 fn
def QwE : Go.Shelf.Ren:=⟨fun | 20=>39 | n=>n,fun | 0=>0 | 3=>3 | 4=>4 | 22=>29 | n=>n,fun n=>n⟩
theorem QvR : Lays2.n20 Tryz.prog QwE where
 mixed:=by kernel_rfl
 f20:=Tryz.func39.trans (congrArg some (by kernel_rfl))
 t0:=Tryz.underlying0
 a0:=Tryz.isAgg0
 z0:=Tryz.sizeOf0
 v0:=Tryz.zeroValue0
 t3:=Tryz.underlying3
 a3:=Tryz.isAgg3
 z3:=Tryz.sizeOf3
 v3:=Tryz.zeroValue3
 t4:=Tryz.underlying4
 a4:=Tryz.isAgg4
 z4:=Tryz.sizeOf4
 v4:=Tryz.zeroValue4
 t22:=Tryz.underlying29
 a22:=Tryz.isAgg29
 z22:=Tryz.sizeOf29
 v22:=Tryz.zeroValue29
 i3:=by kernel_rfl
theorem Qx2 (a0 a1 a2 b0 b1 b2:Int):EqT Tryz.prog 52 [.int .i64 a0,.int .i64 a1,.int .i64 a2] [.int .i64 b0,.int .i64 b1,.int .i64 b2] ((a0==b0)&&((a1==b1)&&(a2==b2))):=by
 refine⟨by kernel_rfl,fun w=>?_⟩
 have u3:=Tryz.underlying3
 have g3:=Tryz.isAgg3
 have z3:=Tryz.sizeOf3
 show(Op.equalIn (9999+1) 52 (.agg #[.int .i64 a0,.int .i64 a1,.int .i64 a2]) (.agg #[.int .i64 b0,.int .i64 b1,.int .i64 b2])).run Tryz.prog w=_
 rw [Op.equalIn]
 simp only [Sem.run_bind,run_underlying Tryz.underlying52,Result.andThen_ok]
 simp only [Std.Legacy.Range.forIn_eq_forIn_range',Std.Legacy.Range.size,Nat.sub_zero,Nat.add_sub_cancel,Nat.div_one,List.range'_succ,List.range'_zero,List.forIn_cons,List.forIn_nil]
 go_simp
 by_cases h0:a0=b0<;>by_cases h1:a1=b1<;>by_cases h2:a2=b2<;>simp [h0,h1,h2]
theorem Qx3 (a0 a1 b0 b1:Int):EqT Tryz.prog 64 [.int .i64 a0,.int .i64 a1] [.int .i64 b0,.int .i64 b1] ((a0==b0)&&(a1==b1)):=by
 refine⟨by kernel_rfl,fun w=>?_⟩
 have u3:=Tryz.underlying3
 have g3:=Tryz.isAgg3
 have z3:=Tryz.sizeOf3
 show(Op.equalIn (9999+1) 64 (.agg #[.int .i64 a0,.int .i64 a1]) (.agg #[.int .i64 b0,.int .i64 b1])).run Tryz.prog w=_
 rw [Op.equalIn]
 simp only [Sem.run_bind,run_underlying Tryz.underlying64,Result.andThen_ok]
 simp only [Std.Legacy.Range.forIn_eq_forIn_range',Std.Legacy.Range.size,Nat.sub_zero,Nat.add_sub_cancel,Nat.div_one,List.range'_succ,List.range'_zero,List.forIn_cons,List.forIn_nil]
 go_simp
 by_cases h0:a0=b0<;>by_cases h1:a1=b1<;>simp [h0,h1]
theorem Qxj : Qpt Tryz.prog 91 1=some (1,false,1):=by kernel_rfl
theorem Qxk : Qpt Tryz.prog 91 2=some (2,false,1):=by kernel_rfl
def QwF : Go.Shelf.Ren:=⟨fun | 157=>263 | 199=>272 | 229=>271 | 261=>275 | 311=>276 | 312=>277 | n=>n,fun | 0=>0 | 3=>3 | 4=>4 | 5=>5 | 9=>9 | 21=>21 | 31=>89 | 40=>257 | 46=>118 | 49=>270 | 51=>164 | 119=>255 | 141=>265 | 152=>261 | 154=>263 | 193=>266 | 194=>267 | 196=>269 | 198=>272 | 201=>275 | 226=>277 | 227=>278 | n=>n,fun | 0=>0 | 6=>1 | n=>n⟩
theorem QvS : Lays.n157 Tryz.prog QwF where
 mixed:=by kernel_rfl
 f157:=Tryz.func263.trans (congrArg some (by kernel_rfl))
 f199:=Tryz.func272.trans (congrArg some (by kernel_rfl))
 f229:=Tryz.func271.trans (congrArg some (by kernel_rfl))
 f261:=Tryz.func275.trans (congrArg some (by kernel_rfl))
 f311:=Tryz.func276.trans (congrArg some (by kernel_rfl))
 f312:=Tryz.func277.trans (congrArg some (by kernel_rfl))
 t0:=Tryz.underlying0
 a0:=Tryz.isAgg0
 z0:=Tryz.sizeOf0
 v0:=Tryz.zeroValue0
 t3:=Tryz.underlying3
 a3:=Tryz.isAgg3
 z3:=Tryz.sizeOf3
 v3:=Tryz.zeroValue3
 t4:=Tryz.underlying4
 a4:=Tryz.isAgg4
 z4:=Tryz.sizeOf4
 v4:=Tryz.zeroValue4
 t5:=Tryz.underlying5
 a5:=Tryz.isAgg5
 z5:=Tryz.sizeOf5
 v5:=Tryz.zeroValue5
 t9:=Tryz.underlying9
 a9:=Tryz.isAgg9
 z9:=Tryz.sizeOf9
 v9:=Tryz.zeroValue9
 t21:=Tryz.underlying21
 a21:=Tryz.isAgg21
 z21:=Tryz.sizeOf21
 v21:=Tryz.zeroValue21
 t31:=Tryz.underlying89
 a31:=Tryz.isAgg89
 z31:=Tryz.sizeOf89
 v31:=Tryz.zeroValue89
 t40:=Tryz.underlying257
 a40:=Tryz.isAgg257
 z40:=Tryz.sizeOf257
 v40:=Tryz.zeroValue257
 t46:=Tryz.underlying118
 a46:=Tryz.isAgg118
 z46:=Tryz.sizeOf118
 v46:=Tryz.zeroValue118
 t49:=Tryz.underlying270
 a49:=Tryz.isAgg270
 z49:=Tryz.sizeOf270
 v49:=Tryz.zeroValue270
 t51:=Tryz.underlying164
 a51:=Tryz.isAgg164
 z51:=Tryz.sizeOf164
 v51:=Tryz.zeroValue164
 t119:=Tryz.underlying255
 a119:=Tryz.isAgg255
 z119:=Tryz.sizeOf255
 t141:=Tryz.underlying265
 a141:=Tryz.isAgg265
 z141:=Tryz.sizeOf265
 v141:=Tryz.zeroValue265
 t152:=Tryz.underlying261
 a152:=Tryz.isAgg261
 z152:=Tryz.sizeOf261
 v152:=Tryz.zeroValue261
 t154:=Tryz.underlying263
 a154:=Tryz.isAgg263
 z154:=Tryz.sizeOf263
 v154:=Tryz.zeroValue263
 t193:=Tryz.underlying266
 a193:=Tryz.isAgg266
 z193:=Tryz.sizeOf266
 v193:=Tryz.zeroValue266
 t194:=Tryz.underlying267
 a194:=Tryz.isAgg267
 z194:=Tryz.sizeOf267
 v194:=Tryz.zeroValue267
 t196:=Tryz.underlying269
 a196:=Tryz.isAgg269
 z196:=Tryz.sizeOf269
 v196:=Tryz.zeroValue269
 t198:=Tryz.underlying272
 a198:=Tryz.isAgg272
 z198:=Tryz.sizeOf272
 v198:=Tryz.zeroValue272
 t201:=Tryz.underlying275
 a201:=Tryz.isAgg275
 z201:=Tryz.sizeOf275
 v201:=Tryz.zeroValue275
 t226:=Tryz.underlying277
 a226:=Tryz.isAgg277
 z226:=Tryz.sizeOf277
 v226:=Tryz.zeroValue277
 t227:=Tryz.underlying278
 a227:=Tryz.isAgg278
 z227:=Tryz.sizeOf278
 v227:=Tryz.zeroValue278
 g0:=by kernel_rfl
 g6:=by kernel_rfl
theorem Qpu : intT Tryz.prog 166 .u64=true:=by kernel_rfl
theorem it_3 : intT Tryz.prog 3 .i64=true:=by kernel_rfl
theorem it_5 : intT Tryz.prog 5 .u8=true:=by kernel_rfl
theorem ky_3 : Qgm Tryz.prog 3 (V.i .i64) (Value.int .i64):=Qgm.int (by kernel_rfl)
theorem ky_9 : Qgm Tryz.prog 9 V.s Value.string:=Qgm.str (by kernel_rfl)
theorem mixed : Tryz.prog.follows .mixedOrders=true:=by kernel_rfl
theorem Qd7 : mapT Tryz.prog 146=some (3,3):=by kernel_rfl
theorem Qox : mapT Tryz.prog 68=some (9,4):=by kernel_rfl
theorem Qva : mapT Tryz.prog 72=some (3,3):=by kernel_rfl
def QwG : Go.Shelf.Ren:=⟨fun | 125=>75 | 128=>134 | 129=>135 | 189=>38 | 215=>199 | 216=>131 | 257=>74 | 294=>125 | 295=>126 | 296=>127 | 297=>128 | 298=>129 | 299=>130 | 300=>132 | 301=>133 | 328=>194 | 329=>195 | 330=>196 | 331=>197 | 332=>198 | 343=>239 | n=>n,fun | 0=>0 | 3=>3 | 4=>4 | 5=>5 | 9=>9 | 28=>29 | 46=>118 | 51=>164 | 53=>166 | 131=>73 | 182=>156 | 183=>157 | 218=>204 | 222=>208 | 228=>235 | 229=>236 | n=>n,fun n=>n⟩
theorem QvT : Lays.n189 Tryz.prog QwG where
 mixed:=by kernel_rfl
 f125:=Tryz.func75.trans (congrArg some (by kernel_rfl))
 f128:=Tryz.func134.trans (congrArg some (by kernel_rfl))
 f129:=Tryz.func135.trans (congrArg some (by kernel_rfl))
 f189:=Tryz.func38.trans (congrArg some (by kernel_rfl))
 f215:=Tryz.func199.trans (congrArg some (by kernel_rfl))
 f216:=Tryz.func131.trans (congrArg some (by kernel_rfl))
 f257:=Tryz.func74.trans (congrArg some (by kernel_rfl))
 f294:=Tryz.func125.trans (congrArg some (by kernel_rfl))
 f295:=Tryz.func126.trans (congrArg some (by kernel_rfl))
 f296:=Tryz.func127.trans (congrArg some (by kernel_rfl))
 f297:=Tryz.func128.trans (congrArg some (by kernel_rfl))
 f298:=Tryz.func129.trans (congrArg some (by kernel_rfl))
 f299:=Tryz.func130.trans (congrArg some (by kernel_rfl))
 f300:=Tryz.func132.trans (congrArg some (by kernel_rfl))
 f301:=Tryz.func133.trans (congrArg some (by kernel_rfl))
 f328:=Tryz.func194.trans (congrArg some (by kernel_rfl))
 f329:=Tryz.func195.trans (congrArg some (by kernel_rfl))
 f330:=Tryz.func196.trans (congrArg some (by kernel_rfl))
 f331:=Tryz.func197.trans (congrArg some (by kernel_rfl))
 f332:=Tryz.func198.trans (congrArg some (by kernel_rfl))
 f343:=Tryz.func239.trans (congrArg some (by kernel_rfl))
 t0:=Tryz.underlying0
 a0:=Tryz.isAgg0
 z0:=Tryz.sizeOf0
 v0:=Tryz.zeroValue0
 t3:=Tryz.underlying3
 a3:=Tryz.isAgg3
 z3:=Tryz.sizeOf3
 v3:=Tryz.zeroValue3
 t4:=Tryz.underlying4
 a4:=Tryz.isAgg4
 z4:=Tryz.sizeOf4
 v4:=Tryz.zeroValue4
 t5:=Tryz.underlying5
 a5:=Tryz.isAgg5
 z5:=Tryz.sizeOf5
 v5:=Tryz.zeroValue5
 t9:=Tryz.underlying9
 a9:=Tryz.isAgg9
 z9:=Tryz.sizeOf9
 v9:=Tryz.zeroValue9
 t28:=Tryz.underlying29
 a28:=Tryz.isAgg29
 z28:=Tryz.sizeOf29
 v28:=Tryz.zeroValue29
 t46:=Tryz.underlying118
 a46:=Tryz.isAgg118
 z46:=Tryz.sizeOf118
 v46:=Tryz.zeroValue118
 t51:=Tryz.underlying164
 a51:=Tryz.isAgg164
 z51:=Tryz.sizeOf164
 v51:=Tryz.zeroValue164
 t53:=Tryz.underlying166
 a53:=Tryz.isAgg166
 z53:=Tryz.sizeOf166
 v53:=Tryz.zeroValue166
 t131:=Tryz.underlying73
 a131:=Tryz.isAgg73
 z131:=Tryz.sizeOf73
 v131:=Tryz.zeroValue73
 t182:=Tryz.underlying156
 a182:=Tryz.isAgg156
 z182:=Tryz.sizeOf156
 v182:=Tryz.zeroValue156
 t183:=Tryz.underlying157
 a183:=Tryz.isAgg157
 z183:=Tryz.sizeOf157
 v183:=Tryz.zeroValue157
 t218:=Tryz.underlying204
 a218:=Tryz.isAgg204
 z218:=Tryz.sizeOf204
 v218:=Tryz.zeroValue204
 t222:=Tryz.underlying208
 a222:=Tryz.isAgg208
 z222:=Tryz.sizeOf208
 v222:=Tryz.zeroValue208
 t228:=Tryz.underlying235
 a228:=Tryz.isAgg235
 z228:=Tryz.sizeOf235
 v228:=Tryz.zeroValue235
 t229:=Tryz.underlying236
 a229:=Tryz.isAgg236
 z229:=Tryz.sizeOf236
 v229:=Tryz.zeroValue236
theorem QxK : Tryz.prog.underlying 102=some (.slice 5):=by kernel_rfl
theorem QxL : Tryz.prog.underlying 119=some (.slice 29):=by kernel_rfl
theorem Qx4 : Tryz.prog.underlying 28=some (.slice 59):=by kernel_rfl
theorem Qx5 : Tryz.prog.underlying 29=some (.slice 3):=by kernel_rfl
theorem Qx6 : Tryz.prog.underlying 59=some (.slice 64):=by kernel_rfl
theorem zi_3 : QjK Tryz.prog 3 ((V.i .i64) 0):=QjK.one (v:=.int .i64 0) (by kernel_rfl)
theorem zi_4 : QjK Tryz.prog 4 (V.b false):=QjK.one (v:=.bool false) (by kernel_rfl)
theorem zv_3 : Qaj Tryz.prog 3=some [.i .i64 0]:=by kernel_rfl
theorem zv_5 : Qaj Tryz.prog 5=some [.i .u8 0]:=by kernel_rfl
theorem zv_9 : Qaj Tryz.prog 9=some [.s (⟨#[]⟩:ByteArray)]:=by kernel_rfl
theorem Qx7 : Qaj Tryz.prog 26=some [.lit (.slice none 0 0),.lit (.slice none 0 0),.lit (.slice none 0 0),.i .i64 0,.i .i64 0]:=by kernel_rfl
theorem Qx8 : Qaj Tryz.prog 28=some [.lit (.slice none 0 0)]:=by kernel_rfl
theorem Qw9 : Qaj Tryz.prog 29=some [.lit (.slice none 0 0)]:=by kernel_rfl
theorem Qx9 : Qaj Tryz.prog 31=some [.i .i64 0,.lit (.slice none 0 0),.lit (.slice none 0 0),.lit (.slice none 0 0)]:=by kernel_rfl
theorem Qya : Qaj Tryz.prog 39=some [.lit (.slice none 0 0)]:=by kernel_rfl
theorem Qyb : Qaj Tryz.prog 50=some [.i .i64 0,.i .i64 0,.lit (.slice none 0 0)]:=by kernel_rfl
theorem Qyc : Qaj Tryz.prog 52=some [.i .i64 0,.i .i64 0,.i .i64 0]:=by kernel_rfl
theorem Qyd : Qaj Tryz.prog 54=some [.s (⟨#[]⟩:ByteArray),.lit (.slice none 0 0),.i .i64 0,.i .i64 0,.lit (.slice none 0 0),.i .i64 0,.i .i64 0,.lit (.slice none 0 0),.lit (.slice none 0 0),.lit (.slice none 0 0),.i .i64 0,.i .i64 0,.i .i64 0,.i .i64 0]:=by kernel_rfl
theorem Qye : Qaj Tryz.prog 56=some [.i .i64 0]:=by kernel_rfl
theorem Qyf : Qaj Tryz.prog 59=some [.lit (.slice none 0 0)]:=by kernel_rfl
theorem Qyg : Qaj Tryz.prog 64=some [.i .i64 0,.i .i64 0]:=by kernel_rfl
theorem Qyh : Qaj Tryz.prog 77=some [.i .i64 0,.i .i64 0,.i .i64 0,.lit (.slice none 0 0)]:=by kernel_rfl
theorem Qyi : Qaj Tryz.prog 82=some [.lit (.slice none 0 0),.lit (.slice none 0 0),.lit (.slice none 0 0),.i .i64 0,.i .i64 0,.lit (.slice none 0 0),.s (⟨#[]⟩:ByteArray),.lit (.slice none 0 0),.i .i64 0,.i .i64 0,.lit (.slice none 0 0),.i .i64 0,.i .i64 0,.lit (.slice none 0 0),.lit (.slice none 0 0),.lit (.slice none 0 0),.i .i64 0,.i .i64 0,.i .i64 0,.i .i64 0,.lit (.slice none 0 0)]:=by kernel_rfl
theorem Qyj : Qaj Tryz.prog 91=some [.s (⟨#[]⟩:ByteArray),.i .i64 0,.i .i64 0,.i .i64 0,.lit (.slice none 0 0),.i .i64 0,.i .i64 0]:=by kernel_rfl
theorem Qyk : Qaj Tryz.prog 93=some [.s (⟨#[]⟩:ByteArray),.i .i64 0,.lit (.slice none 0 0)]:=by kernel_rfl
theorem Qyl : Qaj Tryz.prog 97=some [.i .i64 0,.i .i64 0]:=by kernel_rfl
theorem QxM : Qaj Tryz.prog 119=some [.lit (.slice none 0 0)]:=by kernel_rfl
theorem QxN : Qaj Tryz.prog 132=some [.s (⟨#[]⟩:ByteArray),.i .i64 0]:=by kernel_rfl
theorem QlQ : Qaj Tryz.prog 136=some [.lit (.nilFunc),.i .i64 0]:=by kernel_rfl
theorem QxO : Qaj Tryz.prog 183=some [.lit (.nilFunc)]:=by kernel_rfl
theorem QxP : Qaj Tryz.prog 188=some [.lit (.nilFunc)]:=by kernel_rfl
theorem QxQ : Qaj Tryz.prog 196=some [.lit (.slice none 0 0),.lit (.slice none 0 0),.i .i64 0]:=by kernel_rfl
theorem QxR : Qaj Tryz.prog 224=some [.lit (.nilFunc)]:=by kernel_rfl
def tab : Tab:={ ag:=[(3,false),(9,false),(22,false),(23,false),(24,false),(26,true),(28,false),(29,false),(31,true),(32,false),(39,false),(47,false),(48,false),(50,true),(51,false),(52,true),(54,true),(56,false),(59,false),(64,true),(77,true),(82,true),(85,false),(89,false),(91,true),(93,true),(97,true),(119,false),(132,true),(136,true),(146,false),(183,false),(188,false),(191,false),(196,true),(224,false)],sz:=[(3,1),(26,5),(28,1),(29,1),(31,4),(39,1),(50,3),(52,3),(54,14),(56,1),(59,1),(64,2),(77,4),(82,21),(91,7),(93,3),(97,2),(119,1),(132,2),(136,2),(183,1),(188,1),(196,3),(224,1)],fo:=[(26,[0,1,2,3,4]),(31,[0,1,2,3]),(50,[0,1,2]),(54,[0,1,2,5,6,7,8,9,10,11]),(77,[0,1]),(82,[0,5,6,20]),(91,[0,1,2,3,4,5,6]),(93,[0,1,2]),(132,[0,1]),(136,[0,1]),(196,[0,1,2])],sp:=[(26,[(0,1),(1,1),(2,1),(3,1),(4,1)]),(31,[(0,1),(1,1),(2,1),(3,1)]),(50,[(0,1),(1,1),(2,1)]),(54,[(0,1),(1,1),(2,3),(5,1),(6,1),(7,1),(8,1),(9,1),(10,1),(11,3)]),(77,[(0,1),(1,3)]),(82,[(0,5),(5,1),(6,14),(20,1)]),(91,[(0,1),(1,1),(2,1),(3,1),(4,1),(5,1),(6,1)]),(93,[(0,1),(1,1),(2,1)]),(97,[(0,1),(1,1)]),(136,[(0,1),(1,1)]),(196,[(0,1),(1,1),(2,1)])],es:=[(22,(91,7,80)),(23,(93,3,48)),(24,(54,14,200)),(28,(59,1,24)),(29,(3,1,8)),(35,(28,1,24)),(39,(31,4,80)),(47,(132,2,24)),(48,(50,3,40)),(51,(77,4,48)),(59,(64,2,16)),(89,(9,1,16)),(102,(5,1,1)),(119,(29,1,24)),(168,(3,1,8)),(177,(136,2,16))],ar:=[(52,(3,1)),(64,(2,1))],zv:=[(3,[.i .i64 0]),(5,[.i .u8 0]),(9,[.s (⟨#[]⟩:ByteArray)]),(26,[.lit (.slice none 0 0),.lit (.slice none 0 0),.lit (.slice none 0 0),.i .i64 0,.i .i64 0]),(28,[.lit (.slice none 0 0)]),(29,[.lit (.slice none 0 0)]),(31,[.i .i64 0,.lit (.slice none 0 0),.lit (.slice none 0 0),.lit (.slice none 0 0)]),(39,[.lit (.slice none 0 0)]),(50,[.i .i64 0,.i .i64 0,.lit (.slice none 0 0)]),(52,[.i .i64 0,.i .i64 0,.i .i64 0]),(54,[.s (⟨#[]⟩:ByteArray),.lit (.slice none 0 0),.i .i64 0,.i .i64 0,.lit (.slice none 0 0),.i .i64 0,.i .i64 0,.lit (.slice none 0 0),.lit (.slice none 0 0),.lit (.slice none 0 0),.i .i64 0,.i .i64 0,.i .i64 0,.i .i64 0]),(56,[.i .i64 0]),(59,[.lit (.slice none 0 0)]),(64,[.i .i64 0,.i .i64 0]),(77,[.i .i64 0,.i .i64 0,.i .i64 0,.lit (.slice none 0 0)]),(82,[.lit (.slice none 0 0),.lit (.slice none 0 0),.lit (.slice none 0 0),.i .i64 0,.i .i64 0,.lit (.slice none 0 0),.s (⟨#[]⟩:ByteArray),.lit (.slice none 0 0),.i .i64 0,.i .i64 0,.lit (.slice none 0 0),.i .i64 0,.i .i64 0,.lit (.slice none 0 0),.lit (.slice none 0 0),.lit (.slice none 0 0),.i .i64 0,.i .i64 0,.i .i64 0,.i .i64 0,.lit (.slice none 0 0)]),(91,[.s (⟨#[]⟩:ByteArray),.i .i64 0,.i .i64 0,.i .i64 0,.lit (.slice none 0 0),.i .i64 0,.i .i64 0]),(93,[.s (⟨#[]⟩:ByteArray),.i .i64 0,.lit (.slice none 0 0)]),(97,[.i .i64 0,.i .i64 0]),(119,[.lit (.slice none 0 0)]),(132,[.s (⟨#[]⟩:ByteArray),.i .i64 0]),(136,[.lit (.nilFunc),.i .i64 0]),(183,[.lit (.nilFunc)]),(188,[.lit (.nilFunc)]),(196,[.lit (.slice none 0 0),.lit (.slice none 0 0),.i .i64 0]),(224,[.lit (.nilFunc)])],sb:=[9],bo:=[4],cc:=[],en:=[8,9,10,11,14,17,19,20,22,23,24,25,26,27,28,29,30,36,38,39,40,41,42,43,44,45,46,47,48,49,50,51,52,53,54,55,56,57,58,63,64,76,77,78,79,80,81,82,83,84,85,86,87,88,89,90,91,92,93,94,95,96,97,98,99,100,101,102,103,104,105,106,107,108,109,110,111,112,113,118,136,137,138,139,140,141,142,143,144,145,146,147,148,149,150,151,152,153,154,155,156,157,158,159,160,161,162,163,164,165,166,167,168,169,170,171,172,173,174,175,176,177,178,179,180,181,182,183,184,200,201,202,203,204,205,206,207,208,209,210,211,212,213,214,215,216,217,218,219,220,221,222,223,224,225,226,227,228,229,230,231,240,241,242,243,244,245,246,247,248,249,250,251,252,253,254,255,258,259,260,261,262,263,264,265,266,267,268,269,270,273,274] }
theorem Qo : Qc7 Tryz.prog tab:=Tab.ok (by kernel_rfl) (List.forall_mem_cons.2 ⟨zv_3,List.forall_mem_cons.2 ⟨zv_5,List.forall_mem_cons.2 ⟨zv_9,List.forall_mem_cons.2 ⟨Qx7,List.forall_mem_cons.2 ⟨Qx8,List.forall_mem_cons.2 ⟨Qw9,List.forall_mem_cons.2 ⟨Qx9,List.forall_mem_cons.2 ⟨Qya,List.forall_mem_cons.2 ⟨Qyb,List.forall_mem_cons.2 ⟨Qyc,List.forall_mem_cons.2 ⟨Qyd,List.forall_mem_cons.2 ⟨Qye,List.forall_mem_cons.2 ⟨Qyf,List.forall_mem_cons.2 ⟨Qyg,List.forall_mem_cons.2 ⟨Qyh,List.forall_mem_cons.2 ⟨Qyi,List.forall_mem_cons.2 ⟨Qyj,List.forall_mem_cons.2 ⟨Qyk,List.forall_mem_cons.2 ⟨Qyl,List.forall_mem_cons.2 ⟨QxM,List.forall_mem_cons.2 ⟨QxN,List.forall_mem_cons.2 ⟨QlQ,List.forall_mem_cons.2 ⟨QxO,List.forall_mem_cons.2 ⟨QxP,List.forall_mem_cons.2 ⟨QxQ,List.forall_mem_cons.2 ⟨QxR,fun _ h=>(by cases h)⟩⟩⟩⟩⟩⟩⟩⟩⟩⟩⟩⟩⟩⟩⟩⟩⟩⟩⟩⟩⟩⟩⟩⟩⟩⟩)
theorem Qa {C:Ctx}{Q:Exit→St→Prop}{n:Nat}{pt pt1:Pt}{ks ks1:List Fr}{σ σ1:St}{φ:Prop}(hC:QeT Tryz.prog C n)(ds:List Dir)(e:Vm.go Tryz.prog C tab n ds pt ks σ True=some ⟨pt1,ks1,σ1,φ⟩)(hφ:φ)(h:AK Tryz.prog C Q pt1 ks1 σ1):AK Tryz.prog C Q pt ks σ:=AK.go Qo hC ds e hφ h
abbrev QBg := List (Int×Int)
abbrev QMk := List QBg
abbrev QLL := List (List Int)
abbrev QSB := List (ByteArray×Bool)
theorem tt_ : True:=trivial
theorem an_ {a b:Prop}(x:a)(y:b):a∧b:=⟨x,y⟩
theorem ex_ {α:Sort _}{p:α→Prop}(w:α)(h:p w):∃x,p x:=⟨w,h⟩
def QnE  : Option TNet:=
 some (TNet.mk ([(QB.mk (⟨#[110]⟩:ByteArray) 2 0 0 ([(⟨#[107]⟩:ByteArray)]:List ByteArray) 0 0)]:List QB) ([(QC.mk (⟨#[97]⟩:ByteArray) 0 ([]:QBg)),(QC.mk (⟨#[98]⟩:ByteArray) 0 ([]:QBg)),(QC.mk (⟨#[99]⟩:ByteArray) 0 ([]:QBg)),(QC.mk (⟨#[100]⟩:ByteArray) 0 ([]:QBg))]:List QC) ([(Qr.mk (⟨#[117]⟩:ByteArray) ([]:(List TVar)) (Qg.mk 1 1 ([]:(List Qg))) 1 1 ([(TArc.mk 2 (Qg.mk 1 0 ([]:(List Qg))))]:List TArc) ([(TArc.mk 1 (Qg.mk 1 0 ([]:(List Qg))))]:List TArc) ([]:(List Int)) 0 (0,0,0)),(Qr.mk (⟨#[116]⟩:ByteArray) ([]:(List TVar)) (Qg.mk 1 1 ([]:(List Qg))) 3 1 ([(TArc.mk 0 (Qg.mk 1 0 ([]:(List Qg)))),(TArc.mk 1 (Qg.mk 1 0 ([]:(List Qg))))]:List TArc) ([(TArc.mk 3 (Qg.mk 1 0 ([]:(List Qg))))]:List TArc) ([]:(List Int)) 0 (0,0,0))]:List Qr) 0 3)
theorem Qsp  {r:TNet}(h:QnE  = some r):Qc Tryz.prog 26 [] [] (Gives (.agg (Qd r)) []):=by
 refine Qc.walk 33 Tryz.func26 rfl Tryz.ntmps26 rfl fun C hC=>?_
 unfold QnE at h
 refine Qa hC [.n 7,.v .no [none,none,some 3] (.agg (Qm (Qg.mk 1 0 ([]:(List Qg))))),.n 2,.sayO 1 (.var (Qm (Qg.mk 1 0 ([]:(List Qg))))),.n 4,.v .no [none,none,some 3] (.agg (Qm (Qg.mk 1 1 ([]:(List Qg))))),.n 2,.sayO 2 (.var (Qm (Qg.mk 1 1 ([]:(List Qg))))),.n 4,.v (.bd []) [] (.sl 1 (([(⟨#[107]⟩:ByteArray)]:List ByteArray).map QdF)),.v .no [] (.agg (Qw (QB.mk (⟨#[110]⟩:ByteArray) 2 0 0 ([(⟨#[107]⟩:ByteArray)]:List ByteArray) 0 0))),.v (.bd []) [] (.sl 7 (([(QB.mk (⟨#[110]⟩:ByteArray) 2 0 0 ([(⟨#[107]⟩:ByteArray)]:List ByteArray) 0 0)]:List QB).map Qw)),.v .no [none,none,some 2] (.agg (Qv (QC.mk (⟨#[97]⟩:ByteArray) 0 ([]:QBg)))),.v .no [none,none,some 2] (.agg (Qv (QC.mk (⟨#[98]⟩:ByteArray) 0 ([]:QBg)))),.v .no [none,none,some 2] (.agg (Qv (QC.mk (⟨#[99]⟩:ByteArray) 0 ([]:QBg)))),.v .no [none,none,some 2] (.agg (Qv (QC.mk (⟨#[100]⟩:ByteArray) 0 ([]:QBg)))),.v (.bd []) [] (.sl 3 (([(QC.mk (⟨#[97]⟩:ByteArray) 0 ([]:QBg)),(QC.mk (⟨#[98]⟩:ByteArray) 0 ([]:QBg)),(QC.mk (⟨#[99]⟩:ByteArray) 0 ([]:QBg)),(QC.mk (⟨#[100]⟩:ByteArray) 0 ([]:QBg))]:List QC).map Qv)),.v .no [] (.agg (Qm (Qg.mk 1 1 ([]:(List Qg))))),.v .no [] (.agg (Qm (Qg.mk 1 0 ([]:(List Qg))))),.v .no [] (.agg (QG (TArc.mk 2 (Qg.mk 1 0 ([]:(List Qg)))))),.v (.bd []) [] (.sl 4 (([(TArc.mk 2 (Qg.mk 1 0 ([]:(List Qg))))]:List TArc).map QG)),.v .no [] (.agg (Qm (Qg.mk 1 0 ([]:(List Qg))))),.v .no [] (.agg (QG (TArc.mk 1 (Qg.mk 1 0 ([]:(List Qg)))))),.v (.bd []) [] (.sl 4 (([(TArc.mk 1 (Qg.mk 1 0 ([]:(List Qg))))]:List TArc).map QG)),.v .no [none,some 2,none,none,none,none,none,none,none,some 1,none,none,none,none] (.agg (Qi (Qr.mk (⟨#[117]⟩:ByteArray) ([]:(List TVar)) (Qg.mk 1 1 ([]:(List Qg))) 1 1 ([(TArc.mk 2 (Qg.mk 1 0 ([]:(List Qg))))]:List TArc) ([(TArc.mk 1 (Qg.mk 1 0 ([]:(List Qg))))]:List TArc) ([]:(List Int)) 0 (0,0,0)))),.v .no [] (.agg (Qm (Qg.mk 1 1 ([]:(List Qg))))),.v .no [] (.agg (Qm (Qg.mk 1 0 ([]:(List Qg))))),.v .no [] (.agg (QG (TArc.mk 0 (Qg.mk 1 0 ([]:(List Qg)))))),.v .no [] (.agg (Qm (Qg.mk 1 0 ([]:(List Qg))))),.v .no [] (.agg (QG (TArc.mk 1 (Qg.mk 1 0 ([]:(List Qg)))))),.v (.bd []) [] (.sl 4 (([(TArc.mk 0 (Qg.mk 1 0 ([]:(List Qg)))),(TArc.mk 1 (Qg.mk 1 0 ([]:(List Qg))))]:List TArc).map QG)),.v .no [] (.agg (Qm (Qg.mk 1 0 ([]:(List Qg))))),.v .no [] (.agg (QG (TArc.mk 3 (Qg.mk 1 0 ([]:(List Qg)))))),.v (.bd []) [] (.sl 4 (([(TArc.mk 3 (Qg.mk 1 0 ([]:(List Qg))))]:List TArc).map QG)),.v .no [none,some 2,none,none,none,none,none,none,none,some 1,none,none,none,none] (.agg (Qi (Qr.mk (⟨#[116]⟩:ByteArray) ([]:(List TVar)) (Qg.mk 1 1 ([]:(List Qg))) 3 1 ([(TArc.mk 0 (Qg.mk 1 0 ([]:(List Qg)))),(TArc.mk 1 (Qg.mk 1 0 ([]:(List Qg))))]:List TArc) ([(TArc.mk 3 (Qg.mk 1 0 ([]:(List Qg))))]:List TArc) ([]:(List Int)) 0 (0,0,0)))),.v (.bd []) [] (.sl 14 (([(Qr.mk (⟨#[117]⟩:ByteArray) ([]:(List TVar)) (Qg.mk 1 1 ([]:(List Qg))) 1 1 ([(TArc.mk 2 (Qg.mk 1 0 ([]:(List Qg))))]:List TArc) ([(TArc.mk 1 (Qg.mk 1 0 ([]:(List Qg))))]:List TArc) ([]:(List Int)) 0 (0,0,0)),(Qr.mk (⟨#[116]⟩:ByteArray) ([]:(List TVar)) (Qg.mk 1 1 ([]:(List Qg))) 3 1 ([(TArc.mk 0 (Qg.mk 1 0 ([]:(List Qg)))),(TArc.mk 1 (Qg.mk 1 0 ([]:(List Qg))))]:List TArc) ([(TArc.mk 3 (Qg.mk 1 0 ([]:(List Qg))))]:List TArc) ([]:(List Int)) 0 (0,0,0))]:List Qr).map Qi)),.v .no [] (.agg (Qd (TNet.mk ([(QB.mk (⟨#[110]⟩:ByteArray) 2 0 0 ([(⟨#[107]⟩:ByteArray)]:List ByteArray) 0 0)]:List QB) ([(QC.mk (⟨#[97]⟩:ByteArray) 0 ([]:QBg)),(QC.mk (⟨#[98]⟩:ByteArray) 0 ([]:QBg)),(QC.mk (⟨#[99]⟩:ByteArray) 0 ([]:QBg)),(QC.mk (⟨#[100]⟩:ByteArray) 0 ([]:QBg))]:List QC) ([(Qr.mk (⟨#[117]⟩:ByteArray) ([]:(List TVar)) (Qg.mk 1 1 ([]:(List Qg))) 1 1 ([(TArc.mk 2 (Qg.mk 1 0 ([]:(List Qg))))]:List TArc) ([(TArc.mk 1 (Qg.mk 1 0 ([]:(List Qg))))]:List TArc) ([]:(List Int)) 0 (0,0,0)),(Qr.mk (⟨#[116]⟩:ByteArray) ([]:(List TVar)) (Qg.mk 1 1 ([]:(List Qg))) 3 1 ([(TArc.mk 0 (Qg.mk 1 0 ([]:(List Qg)))),(TArc.mk 1 (Qg.mk 1 0 ([]:(List Qg))))]:List TArc) ([(TArc.mk 3 (Qg.mk 1 0 ([]:(List Qg))))]:List TArc) ([]:(List Int)) 0 (0,0,0))]:List Qr) 0 3))),.n 1,.sayO 0 (.var (Qd (TNet.mk ([(QB.mk (⟨#[110]⟩:ByteArray) 2 0 0 ([(⟨#[107]⟩:ByteArray)]:List ByteArray) 0 0)]:List QB) ([(QC.mk (⟨#[97]⟩:ByteArray) 0 ([]:QBg)),(QC.mk (⟨#[98]⟩:ByteArray) 0 ([]:QBg)),(QC.mk (⟨#[99]⟩:ByteArray) 0 ([]:QBg)),(QC.mk (⟨#[100]⟩:ByteArray) 0 ([]:QBg))]:List QC) ([(Qr.mk (⟨#[117]⟩:ByteArray) ([]:(List TVar)) (Qg.mk 1 1 ([]:(List Qg))) 1 1 ([(TArc.mk 2 (Qg.mk 1 0 ([]:(List Qg))))]:List TArc) ([(TArc.mk 1 (Qg.mk 1 0 ([]:(List Qg))))]:List TArc) ([]:(List Int)) 0 (0,0,0)),(Qr.mk (⟨#[116]⟩:ByteArray) ([]:(List TVar)) (Qg.mk 1 1 ([]:(List Qg))) 3 1 ([(TArc.mk 0 (Qg.mk 1 0 ([]:(List Qg)))),(TArc.mk 1 (Qg.mk 1 0 ([]:(List Qg))))]:List TArc) ([(TArc.mk 3 (Qg.mk 1 0 ([]:(List Qg))))]:List TArc) ([]:(List Int)) 0 (0,0,0))]:List Qr) 0 3))),.n 3,.keep [0] [0]] rfl ⟨⟨⟨⟨⟨⟨⟨⟨⟨⟨⟨⟨⟨⟨⟨⟨⟨⟨⟨⟨⟨⟨⟨⟨⟨⟨⟨⟨⟨⟨⟨⟨⟨tt_,rfl⟩,rfl⟩,rfl⟩,rfl⟩,rfl⟩,rfl⟩,rfl⟩,rfl⟩,rfl⟩,rfl⟩,rfl⟩,rfl⟩,rfl⟩,rfl⟩,rfl⟩,rfl⟩,rfl⟩,rfl⟩,rfl⟩,rfl⟩,rfl⟩,rfl⟩,rfl⟩,rfl⟩,rfl⟩,rfl⟩,rfl⟩,rfl⟩,rfl⟩,rfl⟩,rfl⟩,rfl⟩,rfl⟩ ?_
 cases h
 exact AK.done (ex_ [_] (an_ (an_ (ex_ _ (ex_ _ (an_ rfl (an_ rfl (Or.inl (an_ (Qo.ag rfl) (an_ (Qo.sz rfl) rfl))))))) tt_) (gives tt_)))
def QhL (e11:Int)(k13:Int)(l14:(List Int)):Option ((Int×(List Int))⊕(List Int)):=
 bif (decide (0≤k13))then
 (chk (decide (0≤(w64 (8*k13))))).bind fun _=>
 (chk (decide (l14.length+([(IntKind.u8.wrap (shrI .i64 e11 (w64 (8*k13))))]:List Int).length≤4294967296))).bind fun _=>
 some (.inl ((w64 (k13-1)),(l14++([(IntKind.u8.wrap (shrI .i64 e11 (w64 (8*k13))))]:List Int))))
 else
 some (.inr l14)
def Qkh (x5:Int)(l17:(List Int)):Option ((Int×(List Int))⊕(List Int)):=
 some (.inl ((w64 (x5+1)),l17))
def QhM (l2:(List Int))(size1:Int)(x5:Int)(l6:(List Int)):Option ((Int×(List Int))⊕(List Int)):=
 bif (decide (x5<(l2.length:Int)))then
 (idx l2 x5).bind fun e11=>
 (QA (fun st=>QhL e11 st.1 st.2) ((w64 (size1-1)),l6)).bind (fun q=>Qkh x5 q)
 else
 some (.inr l6)
def Qki (l9:(List Int)):Option (List Int):=
 some l9
def Qj2 (size1:Int)(l2:(List Int)):Option (List Int):=
 (QA (fun st=>QhM l2 size1 st.1 st.2) (0,([]:List Int))).bind (fun q=>Qki q)
theorem QqR (size1:Int)(l2:(List Int)){r:(List Int)}(h:Qj2 size1 l2=some r):Qc Tryz.prog 113 [.lit (.slice none 0 0),.i .i64 size1,.sl 1 (l2.map Qe)] [] (Gives (.own 30000 r.length) [(30000,.arr 1 (r.map QaM))]):=by
 refine Qc.walk 32 Tryz.func113 rfl Tryz.ntmps113 rfl fun C hC=>?_
 unfold Qj2 at h
 refine Qa hC [.n 9,.o (.ln l2.length),.n 4,.adopt 0 22 1,.sayO 22 (.arr 1 (([]:List Int).map QaM)),.say 0 (.own 22 ([]:List Int).length),.keep [0,1,10,11,12] [22]] rfl ⟨⟨⟨tt_,Qf⟩,rfl⟩,(congrArg (fun n=>V.own 22 n) (by simp))⟩ ?_
 obtain⟨l9,hl22,h⟩:=Qb h
 refine AK.loop (body:=(fun st=>QhM l2 size1 st.1 st.2)) (fun st σ=>σ=⟨[(0,.own 22 st.2.length),(1,.i .i64 size1),(10,.sl 1 (l2.map Qe)),(11,.i .i64 (l2.length:Int)),(12,.i .i64 st.1)],[(22,.arr 1 (st.2.map QaM))]⟩) (fun q e σ=>e=.exit 0∧σ=⟨[(0,.own 22 q.length)],[(22,.arr 1 (q.map QaM))]⟩) hl22 rfl ?_ ?_
 ·rintro ⟨x5,l6⟩ o σ rfl h
  replace h:QhM l2 size1 x5 l6=some o:=h
  unfold QhM at h
  refine Qa hC [.n 6] rfl tt_ ?_
  rcases bifE h with⟨hc10,h⟩|⟨hc10,h⟩
  ·obtain⟨e11,he11,h⟩:=Qb h
   refine Qa hC [.br true,.n 6,.o (.row (Qe e11)),.n 12,.keep [0,1,8,9,10,11,12] [22]] rfl ⟨⟨tt_,hc10⟩,(idxM he11)⟩ ?_
   obtain⟨l17,hl21,h⟩:=Qb h
   refine AK.loop (body:=(fun st=>QhL e11 st.1 st.2)) (fun st σ=>σ=⟨[(0,.own 22 st.2.length),(1,.i .i64 size1),(8,.i .i64 e11),(9,.i .i64 st.1),(10,.sl 1 (l2.map Qe)),(11,.i .i64 (l2.length:Int)),(12,.i .i64 x5)],[(22,.arr 1 (st.2.map QaM))]⟩) (fun q e σ=>e=.exit 2∧σ=⟨[(0,.own 22 q.length),(1,.i .i64 size1),(10,.sl 1 (l2.map Qe)),(11,.i .i64 (l2.length:Int)),(12,.i .i64 x5)],[(22,.arr 1 (q.map QaM))]⟩) hl21 rfl ?_ ?_
   ·rintro ⟨k13,l14⟩ o σ rfl h
    replace h:QhL e11 k13 l14=some o:=h
    unfold QhL at h
    refine Qa hC [.n 7] rfl tt_ ?_
    rcases bifE h with⟨hc18,h⟩|⟨hc18,h⟩
    ·obtain⟨_,hk19,h⟩:=Qb h
     replace hk19:=chkE hk19
     obtain⟨_,hk20,h⟩:=Qb h
     replace hk20:=chkE hk20
     refine Qa hC [.br true,.n 9,.o (.any (.i .i64 (shrI .i64 e11 (w64 (8*k13)))) none),.o (.any (.i .u8 (IntKind.u8.wrap (shrI .i64 e11 (w64 (8*k13))))) none),.v (.bd []) [] (.sl 1 (([(IntKind.u8.wrap (shrI .i64 e11 (w64 (8*k13))))]:List Int).map QaM)),.app ((l14++([(IntKind.u8.wrap (shrI .i64 e11 (w64 (8*k13))))]:List Int)).map QaM) (l14++([(IntKind.u8.wrap (shrI .i64 e11 (w64 (8*k13))))]:List Int)).length,.n 9,.keep [0,1,8,9,10,11,12] [22]] rfl ⟨⟨⟨⟨⟨tt_,hc18⟩,(fun σ h1 h2 _=>Stp.shr rfl rfl (bleN hC.n rfl) (h1 _ _ rfl) (h1 _ _ rfl) (of_decide_eq_true hk19))⟩,(fun σ h1 h2 _=>Stp.convI rfl rfl (bleN hC.n rfl) (h1 _ _ rfl) it_3 it_5)⟩,rfl⟩,⟨Qf,Qdf hk20 Qf,Qcc,QeV Qf⟩⟩ ?_
     cases h
     exact rndN rfl rfl
    ·refine Qa hC [.br false,.n 2,.keep [0,1,10,11,12] [22]] rfl ⟨tt_,hc18⟩ ?_
     cases h
     exact rndX rfl (an_ rfl rfl)
   ·replace h:Qkh x5 l17=some o:=h
    unfold Qkh at h
    rintro e σ ⟨rfl,rfl⟩
    refine Qa hC [.n 7,.keep [0,1,10,11,12] [22]] rfl tt_ ?_
    cases h
    exact rndN rfl rfl
  ·refine Qa hC [.br false,.n 2,.keep [0] [22]] rfl ⟨tt_,hc10⟩ ?_
   cases h
   exact rndX rfl (an_ rfl rfl)
 ·replace h:Qki l9=some r:=h
  unfold Qki at h
  rintro e σ ⟨rfl,rfl⟩
  refine Qa hC [.n 9,.keep [6] [22],.ren 22 30000,.keep [6] [30000]] rfl tt_ ?_
  cases h
  exact AK.done (ex_ [_] (an_ (an_ rfl tt_) (gives ⟨rfl,tt_⟩)))
def Qbi (b1:QBg)(last4:Int)(x5:Int):Option ((Int×Int)⊕(Unit⊕Unit)):=
 bif (decide (x5<(b1.length:Int)))then
 (idx b1 x5).bind fun e9=>
 bif ((decide (e9.1≤last4))||((decide (e9.2<1))||(decide (1048576<e9.2))))then
 some (.inr (.inl ()))
 else
 some (.inl (e9.1,(w64 (x5+1))))
 else
 some (.inr (.inr ()))
def Qhb : Option Bool:=
 some false
def Qhc : Option Bool:=
 some true
def Qb9 (b1:QBg):Option Bool:=
 (QA (fun st=>Qbi b1 st.1 st.2) ((-1),0)).bind (Sum.elim (fun q=>Qhb) (fun q=>Qhc))
theorem Qe6 (b1:QBg){r:Bool}(h:Qb9 b1=some r):Qc Tryz.prog 90 [.sl 2 (b1.map Qy)] [] (Gives (.b r) []):=by
 refine Qc.walk 29 Tryz.func90 rfl Tryz.ntmps90 rfl fun C hC=>?_
 unfold Qb9 at h
 refine Qa hC [.n 14,.o (.ln b1.length),.n 4,.keep [3,6,7,8] []] rfl ⟨tt_,Qf⟩ ?_
 obtain⟨o14,hl14,h⟩:=Qb h
 refine AK.loop (body:=(fun st=>Qbi b1 st.1 st.2)) (fun st σ=>σ=⟨[(3,.i .i64 st.1),(6,.sl 2 (b1.map Qy)),(7,.i .i64 (b1.length:Int)),(8,.i .i64 st.2)],[]⟩) (Sum.elim (fun q e σ=>e=.ret∧σ=⟨[(2,.b false)],[]⟩) (fun q e σ=>e=.exit 0∧σ=⟨[],[]⟩)) hl14 rfl ?_ ?_
 ·rintro ⟨last4,x5⟩ o σ rfl h
  replace h:Qbi b1 last4 x5=some o:=h
  unfold Qbi at h
  refine Qa hC [.n 6] rfl tt_ ?_
  rcases bifE h with⟨hc8,h⟩|⟨hc8,h⟩
  ·obtain⟨e9,he9,h⟩:=Qb h
   refine Qa hC [.br true,.n 6,.o (.row (Qy e9)),.v .no [] (.agg (Qy e9)),.n 2,.sayO 5 (.var (Qy e9)),.n 4] rfl ⟨⟨⟨⟨tt_,hc8⟩,(idxM he9)⟩,rfl⟩,rfl⟩ ?_
   refine AK.meetX (fun σ=>σ=⟨[(5,.loc 5 0 0),(6,.sl 2 (b1.map Qy)),(7,.i .i64 (b1.length:Int)),(8,.i .i64 x5),(25,.b ((decide (e9.1≤last4))||((decide (e9.2<1))||(decide (1048576<e9.2)))))],[(5,.var (Qy e9))]⟩) ?_ ?_
   ·refine Qa hC [.n 6] rfl tt_ ?_
    rcases QN (decide (e9.1≤last4))with hc11 | hc11
    ·refine Qa hC [.say 16 (.b true),.n 10,.say 25 (.b ((decide (e9.1≤last4))||((decide (e9.2<1))||(decide (1048576<e9.2))))),.keep [5,6,7,8,25] [5]] rfl ⟨⟨tt_,(congrArg V.b hc11)⟩,(congrArg V.b (orT hc11 rfl))⟩ ?_
     exact AK.met rfl
    ·refine Qa hC [.say 16 (.b false),.n 5] rfl ⟨tt_,(congrArg V.b hc11)⟩ ?_
     rcases QN (decide (e9.2<1))with hc12 | hc12
     ·refine Qa hC [.say 21 (.b true),.n 5,.say 25 (.b ((decide (e9.1≤last4))||((decide (e9.2<1))||(decide (1048576<e9.2))))),.keep [5,6,7,8,25] [5]] rfl ⟨⟨tt_,(congrArg V.b hc12)⟩,(congrArg V.b (orF hc11 (orT hc12 rfl)))⟩ ?_
      exact AK.met rfl
     ·refine Qa hC [.say 21 (.b false),.n 5,.say 25 (.b ((decide (e9.1≤last4))||((decide (e9.2<1))||(decide (1048576<e9.2))))),.keep [5,6,7,8,25] [5]] rfl ⟨⟨tt_,(congrArg V.b hc12)⟩,(congrArg V.b (orF hc11 (orF hc12 rfl)))⟩ ?_
      exact AK.met rfl
   ·rintro σ rfl
    refine Qa hC [.n 1] rfl tt_ ?_
    rcases bifE h with⟨hc13,h⟩|⟨hc13,h⟩
    ·refine Qa hC [.br true,.n 9,.keep [2] []] rfl ⟨tt_,hc13⟩ ?_
     cases h
     exact rndR rfl (an_ rfl rfl)
    ·refine Qa hC [.br false,.n 13,.keep [3,6,7,8] []] rfl ⟨tt_,hc13⟩ ?_
     cases h
     exact rndN rfl rfl
  ·refine Qa hC [.br false,.n 2,.keep [] []] rfl ⟨tt_,hc8⟩ ?_
   cases h
   exact rndX rfl (an_ rfl rfl)
 ·rcases o14 with(_ | _)
  ·replace h:Qhb=some r:=h
   unfold Qhb at h
   rintro e σ ⟨rfl,rfl⟩
   refine Qa hC [.n 2,.keep [2] []] rfl tt_ ?_
   cases h
   exact AK.done (ex_ [_] (an_ (an_ rfl tt_) (gives tt_)))
  ·replace h:Qhc=some r:=h
   unfold Qhc at h
   rintro e σ ⟨rfl,rfl⟩
   refine Qa hC [.n 8,.keep [2] []] rfl tt_ ?_
   cases h
   exact AK.done (ex_ [_] (an_ (an_ rfl tt_) (gives tt_)))
def Qb0 (e12:Int)(k14:Int)(l15:(List Int)):Option ((Int×(List Int))⊕(List Int)):=
 bif (decide (0≤k14))then
 (chk (decide (0≤(w64 (8*k14))))).bind fun _=>
 (chk (decide (l15.length+([(IntKind.u8.wrap (shrI .i64 e12 (w64 (8*k14))))]:List Int).length≤4294967296))).bind fun _=>
 some (.inl ((w64 (k14-1)),(l15++([(IntKind.u8.wrap (shrI .i64 e12 (w64 (8*k14))))]:List Int))))
 else
 some (.inr l15)
def QhN (x6:Int)(l18:(List Int)):Option ((Int×(List Int))⊕(List Int)):=
 some (.inl ((w64 (x6+1)),l18))
def QcH (l3:(List Int))(size2:Int)(x6:Int)(l7:(List Int)):Option ((Int×(List Int))⊕(List Int)):=
 bif (decide (x6<(l3.length:Int)))then
 (idx l3 x6).bind fun e12=>
 (QA (fun st=>Qb0 e12 st.1 st.2) ((w64 (size2-1)),l7)).bind (fun q=>QhN x6 q)
 else
 some (.inr l7)
def Qkj (l10:(List Int)):Option (List Int):=
 some l10
def Qew (l1:(List Int))(size2:Int)(l3:(List Int)):Option (List Int):=
 (QA (fun st=>QcH l3 size2 st.1 st.2) (0,l1)).bind (fun q=>Qkj q)
theorem QmI (l1:(List Int))(size2:Int)(l3:(List Int)){r:(List Int)}(h:Qew l1 size2 l3=some r):Qc Tryz.prog 113 [.own 100000 l1.length,.i .i64 size2,.sl 1 (l3.map Qe)] [(100000,.arr 1 (l1.map QaM))] (Gives (.own 100000 r.length) [(100000,.arr 1 (r.map QaM))]):=by
 refine Qc.walk 32 Tryz.func113 rfl Tryz.ntmps113 rfl fun C hC=>?_
 unfold Qew at h
 refine Qa hC [.n 9,.o (.ln l3.length),.n 4,.keep [0,1,10,11,12] [100000]] rfl ⟨tt_,Qf⟩ ?_
 obtain⟨l10,hl23,h⟩:=Qb h
 refine AK.loop (body:=(fun st=>QcH l3 size2 st.1 st.2)) (fun st σ=>σ=⟨[(0,.own 100000 st.2.length),(1,.i .i64 size2),(10,.sl 1 (l3.map Qe)),(11,.i .i64 (l3.length:Int)),(12,.i .i64 st.1)],[(100000,.arr 1 (st.2.map QaM))]⟩) (fun q e σ=>e=.exit 0∧σ=⟨[(0,.own 100000 q.length)],[(100000,.arr 1 (q.map QaM))]⟩) hl23 rfl ?_ ?_
 ·rintro ⟨x6,l7⟩ o σ rfl h
  replace h:QcH l3 size2 x6 l7=some o:=h
  unfold QcH at h
  refine Qa hC [.n 6] rfl tt_ ?_
  rcases bifE h with⟨hc11,h⟩|⟨hc11,h⟩
  ·obtain⟨e12,he12,h⟩:=Qb h
   refine Qa hC [.br true,.n 6,.o (.row (Qe e12)),.n 12,.keep [0,1,8,9,10,11,12] [100000]] rfl ⟨⟨tt_,hc11⟩,(idxM he12)⟩ ?_
   obtain⟨l18,hl22,h⟩:=Qb h
   refine AK.loop (body:=(fun st=>Qb0 e12 st.1 st.2)) (fun st σ=>σ=⟨[(0,.own 100000 st.2.length),(1,.i .i64 size2),(8,.i .i64 e12),(9,.i .i64 st.1),(10,.sl 1 (l3.map Qe)),(11,.i .i64 (l3.length:Int)),(12,.i .i64 x6)],[(100000,.arr 1 (st.2.map QaM))]⟩) (fun q e σ=>e=.exit 2∧σ=⟨[(0,.own 100000 q.length),(1,.i .i64 size2),(10,.sl 1 (l3.map Qe)),(11,.i .i64 (l3.length:Int)),(12,.i .i64 x6)],[(100000,.arr 1 (q.map QaM))]⟩) hl22 rfl ?_ ?_
   ·rintro ⟨k14,l15⟩ o σ rfl h
    replace h:Qb0 e12 k14 l15=some o:=h
    unfold Qb0 at h
    refine Qa hC [.n 7] rfl tt_ ?_
    rcases bifE h with⟨hc19,h⟩|⟨hc19,h⟩
    ·obtain⟨_,hk20,h⟩:=Qb h
     replace hk20:=chkE hk20
     obtain⟨_,hk21,h⟩:=Qb h
     replace hk21:=chkE hk21
     refine Qa hC [.br true,.n 9,.o (.any (.i .i64 (shrI .i64 e12 (w64 (8*k14)))) none),.o (.any (.i .u8 (IntKind.u8.wrap (shrI .i64 e12 (w64 (8*k14))))) none),.v (.bd []) [] (.sl 1 (([(IntKind.u8.wrap (shrI .i64 e12 (w64 (8*k14))))]:List Int).map QaM)),.app ((l15++([(IntKind.u8.wrap (shrI .i64 e12 (w64 (8*k14))))]:List Int)).map QaM) (l15++([(IntKind.u8.wrap (shrI .i64 e12 (w64 (8*k14))))]:List Int)).length,.n 9,.keep [0,1,8,9,10,11,12] [100000]] rfl ⟨⟨⟨⟨⟨tt_,hc19⟩,(fun σ h1 h2 _=>Stp.shr rfl rfl (bleN hC.n rfl) (h1 _ _ rfl) (h1 _ _ rfl) (of_decide_eq_true hk20))⟩,(fun σ h1 h2 _=>Stp.convI rfl rfl (bleN hC.n rfl) (h1 _ _ rfl) it_3 it_5)⟩,rfl⟩,⟨Qf,Qdf hk21 Qf,Qcc,QeV Qf⟩⟩ ?_
     cases h
     exact rndN rfl rfl
    ·refine Qa hC [.br false,.n 2,.keep [0,1,10,11,12] [100000]] rfl ⟨tt_,hc19⟩ ?_
     cases h
     exact rndX rfl (an_ rfl rfl)
   ·replace h:QhN x6 l18=some o:=h
    unfold QhN at h
    rintro e σ ⟨rfl,rfl⟩
    refine Qa hC [.n 7,.keep [0,1,10,11,12] [100000]] rfl tt_ ?_
    cases h
    exact rndN rfl rfl
  ·refine Qa hC [.br false,.n 2,.keep [0] [100000]] rfl ⟨tt_,hc11⟩ ?_
   cases h
   exact rndX rfl (an_ rfl rfl)
 ·replace h:Qkj l10=some r:=h
  unfold Qkj at h
  rintro e σ ⟨rfl,rfl⟩
  refine Qa hC [.n 9,.keep [6] [100000]] rfl tt_ ?_
  cases h
  exact AK.done (ex_ [_] (an_ (an_ rfl tt_) (gives ⟨rfl,tt_⟩)))
def QhO (e15:QBg):Option Bool:=
 (Qb9 e15).bind fun x18=>
 bif (!x18)then
 some true
 else
 bif (decide (65535<(e15.length:Int)))then
 some true
 else
 bif (decide (0<(e15.length:Int)))then
 (idx e15 (w64 ((e15.length:Int)-1))).bind fun e22=>
 some (decide (4294967295<e22.1))
 else
 some false
def QcI (e15:QBg)(x26:Int)(l27:(List Int)):Option ((Int×(List Int))⊕(List Int)):=
 bif (decide (x26<(e15.length:Int)))then
 (idx e15 x26).bind fun e32=>
 (Qew l27 4 ([e32.1,e32.2]:List Int)).bind fun x33=>
 some (.inl ((w64 (x26+1)),x33))
 else
 some (.inr l27)
def QhP (x9:Int)(l30:(List Int)):Option ((Int×(List Int))⊕(Unit⊕(List Int))):=
 some (.inl ((w64 (x9+1)),l30))
def Qfo (l10:(List Int))(e15:QBg)(x9:Int)(x16:Bool):Option ((Int×(List Int))⊕(Unit⊕(List Int))):=
 bif x16 then
 some (.inr (.inl ()))
 else
 (Qew l10 2 ([(e15.length:Int)]:List Int)).bind fun x24=>
 (QA (fun st=>QcI e15 st.1 st.2) (0,x24)).bind (fun q=>QhP x9 q)
def QcJ (m1:QMk)(x9:Int)(l10:(List Int)):Option ((Int×(List Int))⊕(Unit⊕(List Int))):=
 bif (decide (x9<(m1.length:Int)))then
 (idx m1 x9).bind fun e15=>
 (QhO e15).bind (fun x16=>Qfo l10 e15 x9 x16)
 else
 some (.inr (.inr l10))
def Qkk : Option ((List Int)×Int):=
 some (([]:List Int),1)
def Qkl (l13:(List Int)):Option ((List Int)×Int):=
 some (l13,0)
def Qgd (m1:QMk):Option ((List Int)×Int):=
 bif (decide (64<(m1.length:Int)))then
 some (([]:List Int),1)
 else
 (Qj2 1 ([(m1.length:Int)]:List Int)).bind fun x7=>
 (QA (fun st=>QcJ m1 st.1 st.2) (0,x7)).bind (Sum.elim (fun q=>Qkk) (fun q=>Qkl q))
theorem QqS (m1:QMk){r:((List Int)×Int)}(h:Qgd m1=some r):Qc Tryz.prog 56 [.sl 1 (m1.map Qh)] [] (Gives (.tup [.sl 1 (r.1.map QaM),.i .i64 r.2]) []):=by
 refine Qc.walk 66 Tryz.func56 rfl Tryz.ntmps56 rfl fun C hC=>?_
 unfold Qgd at h
 refine Qa hC [.n 10,.o (.ln m1.length),.n 3] rfl ⟨tt_,Qf⟩ ?_
 rcases bifE h with⟨hc6,h⟩|⟨hc6,h⟩
 ·refine Qa hC [.br true,.n 8,.denil 2 [some 1],.keep [2,3] []] rfl ⟨tt_,hc6⟩ ?_
  cases h
  exact AK.done (ex_ [_,_] (an_ (an_ rfl (an_ rfl tt_)) (gives tt_)))
 ·obtain⟨x7,hx7,h⟩:=Qb h
  refine Qa hC [.br false,.n 5,.o (.ln m1.length),.v (.bd []) [] (.sl 1 (([(m1.length:Int)]:List Int).map Qe)),.cm (.fn) [] [(15,30000)] [] [.d,.d,.d] [(30000,.arr 1 (x7.map QaM))] (.own 30000 x7.length),.n 7,.o (.ln m1.length),.n 4,.keep [4,16,17,18] [15]] rfl ⟨⟨⟨⟨⟨tt_,hc6⟩,Qf⟩,rfl⟩,(QqR _ _ hx7)⟩,Qf⟩ ?_
  obtain⟨o35,hl35,h⟩:=Qb h
  refine AK.loop (body:=(fun st=>QcJ m1 st.1 st.2)) (fun st σ=>σ=⟨[(4,.own 15 st.2.length),(16,.sl 1 (m1.map Qh)),(17,.i .i64 (m1.length:Int)),(18,.i .i64 st.1)],[(15,.arr 1 (st.2.map QaM))]⟩) (Sum.elim (fun q e σ=>e=.ret∧σ=⟨[(2,.lit (.slice none 0 0)),(3,.i .i64 1)],[]⟩) (fun q e σ=>e=.exit 0∧σ=⟨[(4,.own 15 q.length)],[(15,.arr 1 (q.map QaM))]⟩)) hl35 rfl ?_ ?_
  ·rintro ⟨x9,l10⟩ o σ rfl h
   replace h:QcJ m1 x9 l10=some o:=h
   unfold QcJ at h
   refine Qa hC [.n 6] rfl tt_ ?_
   rcases bifE h with⟨hc14,h⟩|⟨hc14,h⟩
   ·obtain⟨e15,he15,h⟩:=Qb h
    refine Qa hC [.br true,.n 6,.o (.row (Qh e15)),.n 6] rfl ⟨⟨tt_,hc14⟩,(idxM he15)⟩ ?_
    obtain⟨x16,hv17,h⟩:=Qb h
    replace h:Qfo l10 e15 x9 x16=some o:=h
    refine AK.meetX (fun σ=>σ=⟨[(4,.own 15 l10.length),(6,.sl 2 (e15.map Qy)),(16,.sl 1 (m1.map Qh)),(17,.i .i64 (m1.length:Int)),(18,.i .i64 x9),(44,.b x16)],[(15,.arr 1 (l10.map QaM))]⟩) ?_ ?_
    ·replace h:=hv17
     unfold QhO at h
     obtain⟨x18,hx18,h⟩:=Qb h
     refine Qa hC [.n 2,.o (.c false [.d] (.b x18)),.n 2] rfl ⟨tt_,(Qe6 _ hx18)⟩ ?_
     rcases bifE h with⟨hc19,h⟩|⟨hc19,h⟩
     ·refine Qa hC [.say 25 (.b true),.n 20,.keep [4,6,16,17,18,44] [15]] rfl ⟨tt_,(congrArg V.b hc19)⟩ ?_
      cases h
      exact AK.met rfl
     ·refine Qa hC [.say 25 (.b false),.n 1,.o (.ln e15.length),.n 3] rfl ⟨⟨tt_,(congrArg V.b hc19)⟩,Qf⟩ ?_
      rcases bifE h with⟨hc20,h⟩|⟨hc20,h⟩
      ·refine Qa hC [.say 30 (.b true),.n 15,.keep [4,6,16,17,18,44] [15]] rfl ⟨tt_,(congrArg V.b hc20)⟩ ?_
       cases h
       exact AK.met rfl
      ·refine Qa hC [.say 30 (.b false),.n 1,.o (.ln e15.length),.n 2] rfl ⟨⟨tt_,(congrArg V.b hc20)⟩,Qf⟩ ?_
       rcases bifE h with⟨hc21,h⟩|⟨hc21,h⟩
       ·obtain⟨e22,he22,h⟩:=Qb h
        refine Qa hC [.say 34 (.b true),.n 2,.o (.ln e15.length),.n 1,.o (.row (Qy e22)),.n 6,.keep [4,6,16,17,18,44] [15]] rfl ⟨⟨⟨tt_,(congrArg V.b hc21)⟩,Qf⟩,(idxM he22)⟩ ?_
        cases h
        exact AK.met rfl
       ·refine Qa hC [.say 34 (.b false),.n 11,.keep [4,6,16,17,18,44] [15]] rfl ⟨tt_,(congrArg V.b hc21)⟩ ?_
        cases h
        exact AK.met rfl
    ·rintro σ rfl
     replace h:Qfo l10 e15 x9 x16=some o:=h
     unfold Qfo at h
     refine Qa hC [.n 1] rfl tt_ ?_
     rcases bifE h with⟨hc23,h⟩|⟨hc23,h⟩
     ·refine Qa hC [.br true,.n 10,.keep [2,3] []] rfl ⟨tt_,hc23⟩ ?_
      cases h
      exact rndR rfl (an_ rfl rfl)
     ·obtain⟨x24,hx24,h⟩:=Qb h
      refine Qa hC [.br false,.n 6,.o (.ln e15.length),.v (.bd []) [] (.sl 1 (([(e15.length:Int)]:List Int).map Qe)),.cm (.fn) [(100000,15)] [(15,100000)] [15] [.d,.d,.d] [(100000,.arr 1 (x24.map QaM))] (.own 100000 x24.length),.n 6,.o (.ln e15.length),.n 4,.keep [4,16,17,18,50,51,52] [15]] rfl ⟨⟨⟨⟨⟨tt_,hc23⟩,Qf⟩,rfl⟩,(QmI _ _ _ hx24)⟩,Qf⟩ ?_
      obtain⟨l30,hl34,h⟩:=Qb h
      refine AK.loop (body:=(fun st=>QcI e15 st.1 st.2)) (fun st σ=>σ=⟨[(4,.own 15 st.2.length),(16,.sl 1 (m1.map Qh)),(17,.i .i64 (m1.length:Int)),(18,.i .i64 x9),(50,.sl 2 (e15.map Qy)),(51,.i .i64 (e15.length:Int)),(52,.i .i64 st.1)],[(15,.arr 1 (st.2.map QaM))]⟩) (fun q e σ=>e=.exit 2∧σ=⟨[(4,.own 15 q.length),(16,.sl 1 (m1.map Qh)),(17,.i .i64 (m1.length:Int)),(18,.i .i64 x9)],[(15,.arr 1 (q.map QaM))]⟩) hl34 rfl ?_ ?_
      ·rintro ⟨x26,l27⟩ o σ rfl h
       replace h:QcI e15 x26 l27=some o:=h
       unfold QcI at h
       refine Qa hC [.n 6] rfl tt_ ?_
       rcases bifE h with⟨hc31,h⟩|⟨hc31,h⟩
       ·obtain⟨e32,he32,h⟩:=Qb h
        obtain⟨x33,hx33,h⟩:=Qb h
        refine Qa hC [.br true,.n 6,.o (.row (Qy e32)),.v .no [] (.agg (Qy e32)),.n 2,.sayO 8 (.var (Qy e32)),.n 8,.v (.bd []) [] (.sl 1 (([e32.1,e32.2]:List Int).map Qe)),.cm (.fn) [(100000,15)] [(15,100000)] [15] [.d,.d,.d] [(100000,.arr 1 (x33.map QaM))] (.own 100000 x33.length),.n 8,.keep [4,16,17,18,50,51,52] [15]] rfl ⟨⟨⟨⟨⟨⟨tt_,hc31⟩,(idxM he32)⟩,rfl⟩,rfl⟩,rfl⟩,(QmI _ _ _ hx33)⟩ ?_
        cases h
        exact rndN rfl rfl
       ·refine Qa hC [.br false,.n 2,.keep [4,16,17,18] [15]] rfl ⟨tt_,hc31⟩ ?_
        cases h
        exact rndX rfl (an_ rfl rfl)
      ·replace h:QhP x9 l30=some o:=h
       unfold QhP at h
       rintro e σ ⟨rfl,rfl⟩
       refine Qa hC [.n 7,.keep [4,16,17,18] [15]] rfl tt_ ?_
       cases h
       exact rndN rfl rfl
   ·refine Qa hC [.br false,.n 2,.keep [4] [15]] rfl ⟨tt_,hc14⟩ ?_
    cases h
    exact rndX rfl (an_ rfl rfl)
  ·rcases o35 with(_ | l13)
   ·replace h:Qkk=some r:=h
    unfold Qkk at h
    rintro e σ ⟨rfl,rfl⟩
    refine Qa hC [.n 2,.denil 2 [some 1],.keep [2,3] []] rfl tt_ ?_
    cases h
    exact AK.done (ex_ [_,_] (an_ (an_ rfl (an_ rfl tt_)) (gives tt_)))
   ·replace h:Qkl l13=some r:=h
    unfold Qkl at h
    rintro e σ ⟨rfl,rfl⟩
    refine Qa hC [.n 10,.frz 15 (l13.map QaM) [2] [],.keep [2,3] []] rfl ⟨tt_,⟨tt_,(frzL Qf)⟩⟩ ?_
    cases h
    exact AK.done (ex_ [_,_] (an_ (an_ rfl (an_ rfl tt_)) (gives tt_)))
def Qfp (m1:QMk):Option ByteArray:=
 (Qgd m1).bind fun x3=>
 some (Qj1 x3.1)
theorem QkQ (m1:QMk){r:ByteArray}(h:Qfp m1=some r):Qc Tryz.prog 29 [.sl 1 (m1.map Qh)] [] (Gives (.s r) []):=by
 refine Qc.walk 12 Tryz.func29 rfl Tryz.ntmps29 rfl fun C hC=>?_
 unfold Qfp at h
 obtain⟨x3,hx3,h⟩:=Qb h
 refine Qa hC [.n 8,.o (.c false [.d] (.tup [.sl 1 (x3.1.map QaM),.i .i64 x3.2])),.n 10,.o (.any (.s (Qj1 x3.1)) none),.n 4,.keep [2] []] rfl ⟨⟨tt_,(QqS _ hx3)⟩,(fun σ h1 h2 _=>Stp.b2s rfl rfl (bleN hC.n rfl) (h1 _ _ rfl) rfl QxK it_5 (Qo.sb rfl))⟩ ?_
 cases h
 exact AK.done (ex_ [_] (an_ (an_ rfl tt_) (gives tt_)))
def Qbd (s1:QMk):Option QMk:=
 (chk (decide (([]:List QBg).length+s1.length≤4294967296))).bind fun _=>
 some (([]:List QBg)++s1)
theorem QiI (s1:QMk){r:QMk}(h:Qbd s1=some r):Qc Tryz.prog 57 [.sl 1 (s1.map Qh)] [] (Gives (.own 30000 r.length) [(30000,.arr 1 (r.map Qh))]):=by
 refine Qc.walk 8 Tryz.func57 rfl Tryz.ntmps57 rfl fun C hC=>?_
 unfold Qbd at h
 refine Qa hC [.n 9] rfl tt_ ?_
 refine AK.eqNil rfl rfl rfl (bleN hC.n rfl) rfl rfl Qx4 ?_ ?_
 ·intro hz4
  replace h:some ([]:List QBg)=some r:=by simpa [chk,List.map_eq_nil_iff.1 hz4] using h
  refine Qa hC [.n 10,.adopt 2 30000 1,.sayO 30000 (.arr 1 (([]:List QBg).map Qh)),.say 2 (.own 30000 ([]:List QBg).length),.keep [2] [30000]] rfl ⟨⟨tt_,rfl⟩,rfl⟩ ?_
  cases h
  exact AK.done (ex_ [_] (an_ (an_ rfl tt_) (gives ⟨rfl,tt_⟩)))
 ·obtain⟨_,hk5,h⟩:=Qb h
  replace hk5:=chkE hk5
  refine Qa hC [.n 8,.sayO 5 (.arr 1 (([]:List QBg).map Qh)),.say 5 (.own 5 ([]:List QBg).length),.n 1,.app ((([]:List QBg)++s1).map Qh) (([]:List QBg)++s1).length,.n 4,.keep [2] [5],.ren 5 30000,.keep [2] [30000]] rfl ⟨⟨⟨tt_,rfl⟩,rfl⟩,⟨Qf,Qdf hk5 Qf,Qcc,QeV Qf⟩⟩ ?_
  cases h
  exact AK.done (ex_ [_] (an_ (an_ rfl tt_) (gives ⟨rfl,tt_⟩)))
def Qce (s1:QBg):Option QBg:=
 (chk (decide (([]:List (Int×Int)).length+s1.length≤4294967296))).bind fun _=>
 some (([]:List (Int×Int))++s1)
theorem QkI (s1:QBg){r:QBg}(h:Qce s1=some r):Qc Tryz.prog 58 [.sl 2 (s1.map Qy)] [] (Gives (.own 30000 r.length) [(30000,.arr 2 (r.map Qy))]):=by
 refine Qc.walk 8 Tryz.func58 rfl Tryz.ntmps58 rfl fun C hC=>?_
 unfold Qce at h
 refine Qa hC [.n 9] rfl tt_ ?_
 refine AK.eqNil rfl rfl rfl (bleN hC.n rfl) rfl rfl Qx6 ?_ ?_
 ·intro hz4
  replace h:some ([]:List (Int×Int))=some r:=by simpa [chk,List.map_eq_nil_iff.1 hz4] using h
  refine Qa hC [.n 10,.adopt 2 30000 2,.sayO 30000 (.arr 2 (([]:List (Int×Int)).map Qy)),.say 2 (.own 30000 ([]:List (Int×Int)).length),.keep [2] [30000]] rfl ⟨⟨tt_,rfl⟩,rfl⟩ ?_
  cases h
  exact AK.done (ex_ [_] (an_ (an_ rfl tt_) (gives ⟨rfl,tt_⟩)))
 ·obtain⟨_,hk5,h⟩:=Qb h
  replace hk5:=chkE hk5
  refine Qa hC [.n 8,.sayO 5 (.arr 2 (([]:List (Int×Int)).map Qy)),.say 5 (.own 5 ([]:List (Int×Int)).length),.n 1,.app ((([]:List (Int×Int))++s1).map Qy) (([]:List (Int×Int))++s1).length,.n 4,.keep [2] [5],.ren 5 30000,.keep [2] [30000]] rfl ⟨⟨⟨tt_,rfl⟩,rfl⟩,⟨Qf,Qdf hk5 Qf,Qcc,QeV Qf⟩⟩ ?_
  cases h
  exact AK.done (ex_ [_] (an_ (an_ rfl tt_) (gives ⟨rfl,tt_⟩)))
def QdS (x3:QMk)(x5:Int)(l6:QMk):Option ((Int×QMk)⊕QMk):=
 bif (decide (x5<(x3.length:Int)))then
 (idx l6 x5).bind fun e11=>
 (Qce e11).bind fun x12=>
 (idx l6 x5).bind fun e13=>
 some (.inl ((w64 (x5+1)),(l6.set x5.toNat x12)))
 else
 some (.inr l6)
def Qlr (l9:QMk):Option QMk:=
 some l9
def Qik (m1:QMk):Option QMk:=
 (Qbd m1).bind fun x3=>
 (QA (fun st=>QdS x3 st.1 st.2) (0,x3)).bind (fun q=>Qlr q)
theorem QnW (m1:QMk){r:QMk}(h:Qik m1=some r):Qc Tryz.prog 30 [.sl 1 (m1.map Qh)] [] (Gives (.own 30000 r.length) [(30000,.arr 1 (r.map Qh))]):=by
 refine Qc.walk 22 Tryz.func30 rfl Tryz.ntmps30 rfl fun C hC=>?_
 unfold Qik at h
 obtain⟨x3,hx3,h⟩:=Qb h
 refine Qa hC [.n 8,.o (.co false [.d] 1 (x3.map Qh) x3.length),.n 12,.keep [3,8,9,10] [7]] rfl ⟨tt_,⟨(QiI _ hx3),Qf,.inl rfl⟩⟩ ?_
 obtain⟨l9,hl14,h⟩:=Qb h
 refine AK.loop (body:=(fun st=>QdS x3 st.1 st.2)) (fun st σ=>σ=⟨[(3,.own 7 st.2.length),(8,.own 7 st.2.length),(9,.i .i64 (x3.length:Int)),(10,.i .i64 st.1)],[(7,.arr 1 (st.2.map Qh))]⟩) (fun q e σ=>e=.exit 0∧σ=⟨[(3,.own 7 q.length)],[(7,.arr 1 (q.map Qh))]⟩) hl14 rfl ?_ ?_
 ·rintro ⟨x5,l6⟩ o σ rfl h
  replace h:QdS x3 x5 l6=some o:=h
  unfold QdS at h
  refine Qa hC [.n 6] rfl tt_ ?_
  rcases bifE h with⟨hc10,h⟩|⟨hc10,h⟩
  ·obtain⟨e11,he11,h⟩:=Qb h
   obtain⟨x12,hx12,h⟩:=Qb h
   obtain⟨e13,he13,h⟩:=Qb h
   refine Qa hC [.br true,.n 8,.o (.row (Qh e11)),.n 8,.o (.co false [.d] 2 (x12.map Qy) x12.length),.n 1,.frz 18 (x12.map Qy) [18] [],.st (Qh e13) ((l6.set x5.toNat x12).map Qh),.n 7,.say 3 (.own 7 (l6.set x5.toNat x12).length),.say 8 (.own 7 (l6.set x5.toNat x12).length),.keep [3,8,9,10] [7]] rfl ⟨⟨⟨⟨⟨⟨⟨⟨⟨tt_,hc10⟩,(QdE he11 rfl)⟩,(QbZ (idxE he11).2)⟩,⟨(QkI _ hx12),Qf,.inl rfl⟩⟩,(QdE he13 rfl)⟩,⟨tt_,(frzL Qf)⟩⟩,⟨(QbZ (idxE he13).2),QkM rfl⟩⟩,(congrArg (fun n=>V.own 7 n) (by simp))⟩,(congrArg (fun n=>V.own 7 n) (by simp))⟩ ?_
   cases h
   exact rndN rfl rfl
  ·refine Qa hC [.br false,.n 2,.keep [3] [7]] rfl ⟨tt_,hc10⟩ ?_
   cases h
   exact rndX rfl (an_ rfl rfl)
 ·replace h:Qlr l9=some r:=h
  unfold Qlr at h
  rintro e σ ⟨rfl,rfl⟩
  refine Qa hC [.n 9,.keep [2] [7],.ren 7 30000,.keep [2] [30000]] rfl tt_ ?_
  cases h
  exact AK.done (ex_ [_] (an_ (an_ rfl tt_) (gives ⟨rfl,tt_⟩)))
def Qdt (l10:QLL):Option QLL:=
 some l10
def QgV (arcs2:Int)(x13:Int)(l14:(List Int)):Option ((Int×(List Int))⊕(List Int)):=
 bif (decide (x13<arcs2))then
 (chk (decide (l14.length+([x13]:List Int).length≤4294967296))).bind fun _=>
 some (.inl ((w64 (x13+1)),(l14++([x13]:List Int))))
 else
 some (.inr l14)
def Qjq (l17:(List Int)):Option QLL:=
 some ([l17]:List (List Int))
def QgW (arcs2:Int)(x23:Int)(l24:QLL):Option ((Int×QLL)⊕QLL):=
 bif (decide (x23<arcs2))then
 (chk (decide (l24.length+([([x23]:List Int)]:List (List Int)).length≤4294967296))).bind fun _=>
 some (.inl ((w64 (x23+1)),(l24++([([x23]:List Int)]:List (List Int)))))
 else
 some (.inr l24)
def Qjr (l27:QLL):Option QLL:=
 Qdt l27
def QgX (x41:Int)(l47:(List Int)):Option ((Int×(List Int))⊕(List Int)):=
 some (.inl ((w64 (x41+1)),l47))
def QgY (arcs2:Int)(set_33:Int)(x41:Int)(l42:(List Int)):Option ((Int×(List Int))⊕(List Int)):=
 bif (decide (x41<arcs2))then
 (chk (decide (0≤x41))).bind fun _=>
 bif ((andI .i64 (shrI .i64 set_33 x41) 1)==1)then
 (chk (decide (l42.length+([x41]:List Int).length≤4294967296))).bind fun _=>
 QgX x41 (l42++([x41]:List Int))
 else
 QgX x41 l42
 else
 some (.inr l42)
def Qjs (l34:QLL)(set_33:Int)(l45:(List Int)):Option ((Int×QLL)⊕QLL):=
 (chk (decide (l34.length+([l45]:List (List Int)).length≤4294967296))).bind fun _=>
 some (.inl ((w64 (set_33+1)),(l34++([l45]:List (List Int)))))
def QgZ (arcs2:Int)(set_33:Int)(l34:QLL):Option ((Int×QLL)⊕QLL):=
 (chk (decide (0≤arcs2))).bind fun _=>
 bif (decide (set_33<(shlI .i64 1 arcs2)))then
 (QA (fun st=>QgY arcs2 set_33 st.1 st.2) (0,([]:List Int))).bind (fun q=>Qjs l34 set_33 q)
 else
 some (.inr l34)
def QiR (l37:QLL):Option QLL:=
 Qdt l37
def QbI (kind1:Int)(arcs2:Int):Option QLL:=
 bif ((decide (arcs2<0))||((decide (16<arcs2))||((kind1==3)&&(decide (4<arcs2)))))then
 some ([]:List (List Int))
 else
 bif (kind1==1)then
 (QA (fun st=>QgV arcs2 st.1 st.2) (0,([]:List Int))).bind (fun q=>Qjq q)
 else
 bif (kind1==2)then
 (QA (fun st=>QgW arcs2 st.1 st.2) (0,([]:List (List Int)))).bind (fun q=>Qjr q)
 else
 bif (kind1==3)then
 (QA (fun st=>QgZ arcs2 st.1 st.2) (1,([]:List (List Int)))).bind (fun q=>QiR q)
 else
 Qdt ([]:List (List Int))
theorem Qjt (kind1:Int)(arcs2:Int){r:QLL}(h:QbI kind1 arcs2=some r):Qc Tryz.prog 76 [.i .i64 kind1,.i .i64 arcs2] [] (Gives (.own 30000 r.length) [(30000,.arr 1 (r.map Qz))]):=by
 refine Qc.walk 79 Tryz.func76 rfl Tryz.ntmps76 rfl fun C hC=>?_
 unfold QbI at h
 refine Qa hC [.n 7] rfl tt_ ?_
 refine AK.meetX (fun σ=>σ=⟨[(0,.i .i64 kind1),(1,.i .i64 arcs2),(25,.b ((decide (arcs2<0))||((decide (16<arcs2))||((kind1==3)&&(decide (4<arcs2))))))],[]⟩) ?_ ?_
 ·refine Qa hC [.n 4] rfl tt_ ?_
  rcases QN (decide (arcs2<0))with hc6 | hc6
  ·refine Qa hC [.say 14 (.b true),.n 12,.say 25 (.b ((decide (arcs2<0))||((decide (16<arcs2))||((kind1==3)&&(decide (4<arcs2)))))),.keep [0,1,25] []] rfl ⟨⟨tt_,(congrArg V.b hc6)⟩,(congrArg V.b (orT hc6 rfl))⟩ ?_
   exact AK.met rfl
  ·refine Qa hC [.say 14 (.b false),.n 4] rfl ⟨tt_,(congrArg V.b hc6)⟩ ?_
   rcases QN (decide (16<arcs2))with hc7 | hc7
   ·refine Qa hC [.say 18 (.b true),.n 8,.say 25 (.b ((decide (arcs2<0))||((decide (16<arcs2))||((kind1==3)&&(decide (4<arcs2)))))),.keep [0,1,25] []] rfl ⟨⟨tt_,(congrArg V.b hc7)⟩,(congrArg V.b (orF hc6 (orT hc7 rfl)))⟩ ?_
    exact AK.met rfl
   ·refine Qa hC [.say 18 (.b false),.n 3] rfl ⟨tt_,(congrArg V.b hc7)⟩ ?_
    rcases QN (kind1==3)with hc8 | hc8
    ·refine Qa hC [.say 21 (.b true),.n 5,.say 25 (.b ((decide (arcs2<0))||((decide (16<arcs2))||((kind1==3)&&(decide (4<arcs2)))))),.keep [0,1,25] []] rfl ⟨⟨tt_,(congrArg V.b hc8)⟩,(congrArg V.b (orF hc6 (orF hc7 (andT hc8 rfl))))⟩ ?_
     exact AK.met rfl
    ·refine Qa hC [.say 21 (.b false),.n 5,.say 25 (.b ((decide (arcs2<0))||((decide (16<arcs2))||((kind1==3)&&(decide (4<arcs2)))))),.keep [0,1,25] []] rfl ⟨⟨tt_,(congrArg V.b hc8)⟩,(congrArg V.b (orF hc6 (orF hc7 (andF hc8 rfl))))⟩ ?_
     exact AK.met rfl
 ·rintro σ rfl
  refine Qa hC [.n 1] rfl tt_ ?_
  rcases bifE h with⟨hc9,h⟩|⟨hc9,h⟩
  ·refine Qa hC [.br true,.n 7,.adopt 4 30000 1,.sayO 30000 (.arr 1 (([]:List (List Int)).map Qz)),.say 4 (.own 30000 ([]:List (List Int)).length),.keep [4] [30000]] rfl ⟨⟨⟨tt_,hc9⟩,rfl⟩,rfl⟩ ?_
   cases h
   exact AK.done (ex_ [_] (an_ (an_ rfl tt_) (gives ⟨rfl,tt_⟩)))
  ·refine Qa hC [.br false,.n 7] rfl ⟨tt_,hc9⟩ ?_
   refine AK.meet (fun σ=>∃l10:QLL,σ=⟨[(5,.own 40005 l10.length)],[(40005,.arr 1 (l10.map Qz))]⟩∧Qdt l10=some r) ?_ ?_
   ·refine Qa hC [.n 12] rfl tt_ ?_
    rcases bifE h with⟨hc11,h⟩|⟨hc11,h⟩
    ·refine Qa hC [.br true,.n 13,.adopt 6 33 1,.sayO 33 (.arr 1 (([]:List Int).map Qe)),.say 6 (.own 33 ([]:List Int).length),.keep [6,29,30] [33]] rfl ⟨⟨⟨tt_,hc11⟩,rfl⟩,(congrArg (fun n=>V.own 33 n) (by simp))⟩ ?_
     obtain⟨l17,hl20,h⟩:=Qb h
     refine AK.loop (body:=(fun st=>QgV arcs2 st.1 st.2)) (fun st σ=>σ=⟨[(6,.own 33 st.2.length),(29,.i .i64 arcs2),(30,.i .i64 st.1)],[(33,.arr 1 (st.2.map Qe))]⟩) (fun q e σ=>e=.exit 1∧σ=⟨[(6,.own 33 q.length)],[(33,.arr 1 (q.map Qe))]⟩) hl20 rfl ?_ ?_
     ·rintro ⟨x13,l14⟩ o σ rfl h
      replace h:QgV arcs2 x13 l14=some o:=h
      unfold QgV at h
      refine Qa hC [.n 6] rfl tt_ ?_
      rcases bifE h with⟨hc18,h⟩|⟨hc18,h⟩
      ·obtain⟨_,hk19,h⟩:=Qb h
       replace hk19:=chkE hk19
       refine Qa hC [.br true,.n 13,.v (.bd []) [] (.sl 1 (([x13]:List Int).map Qe)),.app ((l14++([x13]:List Int)).map Qe) (l14++([x13]:List Int)).length,.n 8,.keep [6,29,30] [33]] rfl ⟨⟨⟨tt_,hc18⟩,rfl⟩,⟨Qf,Qdf hk19 Qf,Qcc,QeV Qf⟩⟩ ?_
       cases h
       exact rndN rfl rfl
      ·refine Qa hC [.br false,.n 2,.keep [6] [33]] rfl ⟨tt_,hc18⟩ ?_
       cases h
       exact rndX rfl (an_ rfl rfl)
     ·replace h:Qjq l17=some r:=h
      unfold Qjq at h
      rintro e σ ⟨rfl,rfl⟩
      refine Qa hC [.n 5,.frz 33 (l17.map Qe) [6,38] [],.n 1,.sayO 39 (.arr 1 (([l17]:List (List Int)).map Qz)),.say 39 (.own 39 ([l17]:List (List Int)).length),.n 6,.keep [4] [39],.ren 39 30000,.keep [4] [30000]] rfl ⟨⟨⟨tt_,⟨⟨tt_,(frzL Qf)⟩,(frzL Qf)⟩⟩,rfl⟩,rfl⟩ ?_
      cases h
      exact AK.done (ex_ [_] (an_ (an_ rfl tt_) (gives ⟨rfl,tt_⟩)))
    ·refine Qa hC [.br false,.n 6] rfl ⟨tt_,hc11⟩ ?_
     rcases bifE h with⟨hc21,h⟩|⟨hc21,h⟩
     ·refine Qa hC [.br true,.n 7,.adopt 5 46 1,.sayO 46 (.arr 1 (([]:List (List Int)).map Qz)),.say 5 (.own 46 ([]:List (List Int)).length),.keep [5,42,43] [46]] rfl ⟨⟨⟨tt_,hc21⟩,rfl⟩,(congrArg (fun n=>V.own 46 n) (by simp))⟩ ?_
      obtain⟨l27,hl30,h⟩:=Qb h
      refine AK.loop (body:=(fun st=>QgW arcs2 st.1 st.2)) (fun st σ=>σ=⟨[(5,.own 46 st.2.length),(42,.i .i64 arcs2),(43,.i .i64 st.1)],[(46,.arr 1 (st.2.map Qz))]⟩) (fun q e σ=>e=.exit 3∧σ=⟨[(5,.own 46 q.length)],[(46,.arr 1 (q.map Qz))]⟩) hl30 rfl ?_ ?_
      ·rintro ⟨x23,l24⟩ o σ rfl h
       replace h:QgW arcs2 x23 l24=some o:=h
       unfold QgW at h
       refine Qa hC [.n 6] rfl tt_ ?_
       rcases bifE h with⟨hc28,h⟩|⟨hc28,h⟩
       ·obtain⟨_,hk29,h⟩:=Qb h
        replace hk29:=chkE hk29
        refine Qa hC [.br true,.n 13,.v (.bd []) [] (.sl 1 (([x23]:List Int).map Qe)),.v (.bd []) [] (.sl 1 (([([x23]:List Int)]:List (List Int)).map Qz)),.app ((l24++([([x23]:List Int)]:List (List Int))).map Qz) (l24++([([x23]:List Int)]:List (List Int))).length,.n 8,.keep [5,42,43] [46]] rfl ⟨⟨⟨⟨tt_,hc28⟩,rfl⟩,rfl⟩,⟨Qf,Qdf hk29 Qf,Qcc,QeV Qf⟩⟩ ?_
        cases h
        exact rndN rfl rfl
       ·refine Qa hC [.br false,.n 2,.keep [5] [46]] rfl ⟨tt_,hc28⟩ ?_
        cases h
        exact rndX rfl (an_ rfl rfl)
      ·replace h:Qjr l27=some r:=h
       unfold Qjr at h
       rintro e σ ⟨rfl,rfl⟩
       refine Qa hC [.n 2,.ren 46 40005,.keep [5] [40005]] rfl tt_ ?_
       exact AK.met (ex_ _ (an_ rfl h))
     ·refine Qa hC [.br false,.n 6] rfl ⟨tt_,hc21⟩ ?_
      rcases bifE h with⟨hc31,h⟩|⟨hc31,h⟩
      ·refine Qa hC [.br true,.n 6,.adopt 5 74 1,.sayO 74 (.arr 1 (([]:List (List Int)).map Qz)),.say 5 (.own 74 ([]:List (List Int)).length),.keep [1,5,9] [74]] rfl ⟨⟨⟨tt_,hc31⟩,rfl⟩,(congrArg (fun n=>V.own 74 n) (by simp))⟩ ?_
       obtain⟨l37,hl53,h⟩:=Qb h
       refine AK.loop (body:=(fun st=>QgZ arcs2 st.1 st.2)) (fun st σ=>σ=⟨[(1,.i .i64 arcs2),(5,.own 74 st.2.length),(9,.i .i64 st.1)],[(74,.arr 1 (st.2.map Qz))]⟩) (fun q e σ=>e=.exit 5∧σ=⟨[(5,.own 74 q.length)],[(74,.arr 1 (q.map Qz))]⟩) hl53 rfl ?_ ?_
       ·rintro ⟨set_33,l34⟩ o σ rfl h
        replace h:QgZ arcs2 set_33 l34=some o:=h
        unfold QgZ at h
        obtain⟨_,hk38,h⟩:=Qb h
        replace hk38:=chkE hk38
        refine Qa hC [.n 5,.o (.any (.i .i64 (shlI .i64 1 arcs2)) none),.n 3] rfl ⟨tt_,(fun σ h1 h2 _=>Stp.shl rfl rfl (bleN hC.n rfl) (h1 _ _ rfl) (h1 _ _ rfl) (of_decide_eq_true hk38))⟩ ?_
        rcases bifE h with⟨hc39,h⟩|⟨hc39,h⟩
        ·refine Qa hC [.br true,.n 17,.adopt 10 69 1,.sayO 69 (.arr 1 (([]:List Int).map Qe)),.say 10 (.own 69 ([]:List Int).length),.keep [1,5,9,10,60,61] [69,74]] rfl ⟨⟨⟨tt_,hc39⟩,rfl⟩,(congrArg (fun n=>V.own 69 n) (by simp))⟩ ?_
         obtain⟨l45,hl51,h⟩:=Qb h
         refine AK.loop (body:=(fun st=>QgY arcs2 set_33 st.1 st.2)) (fun st σ=>σ=⟨[(1,.i .i64 arcs2),(5,.own 74 l34.length),(9,.i .i64 set_33),(10,.own 69 st.2.length),(60,.i .i64 arcs2),(61,.i .i64 st.1)],[(69,.arr 1 (st.2.map Qe)),(74,.arr 1 (l34.map Qz))]⟩) (fun q e σ=>e=.exit 7∧σ=⟨[(1,.i .i64 arcs2),(5,.own 74 l34.length),(9,.i .i64 set_33),(10,.own 69 q.length)],[(69,.arr 1 (q.map Qe)),(74,.arr 1 (l34.map Qz))]⟩) hl51 rfl ?_ ?_
         ·rintro ⟨x41,l42⟩ o σ rfl h
          replace h:QgY arcs2 set_33 x41 l42=some o:=h
          unfold QgY at h
          refine Qa hC [.n 6] rfl tt_ ?_
          rcases bifE h with⟨hc46,h⟩|⟨hc46,h⟩
          ·refine Qa hC [.br true,.n 2] rfl ⟨tt_,hc46⟩ ?_
           refine AK.meet (fun σ=>∃l47:(List Int),σ=⟨[(1,.i .i64 arcs2),(5,.own 74 l34.length),(9,.i .i64 set_33),(10,.own 69 l47.length),(60,.i .i64 arcs2),(61,.i .i64 x41)],[(69,.arr 1 (l47.map Qe)),(74,.arr 1 (l34.map Qz))]⟩∧QgX x41 l47=some o) ?_ ?_
           ·obtain⟨_,hk48,h⟩:=Qb h
            replace hk48:=chkE hk48
            refine Qa hC [.n 11,.o (.any (.i .i64 (shrI .i64 set_33 x41)) none),.o (.any (.i .i64 (andI .i64 (shrI .i64 set_33 x41) 1)) none),.n 3] rfl ⟨⟨tt_,(fun σ h1 h2 _=>Stp.shr rfl rfl (bleN hC.n rfl) (h1 _ _ rfl) (h1 _ _ rfl) (of_decide_eq_true hk48))⟩,(fun σ h1 h2 _=>Stp.andB rfl rfl (bleN hC.n rfl) (h1 _ _ rfl) (h1 _ _ rfl))⟩ ?_
            rcases bifE h with⟨hc49,h⟩|⟨hc49,h⟩
            ·obtain⟨_,hk50,h⟩:=Qb h
             replace hk50:=chkE hk50
             refine Qa hC [.br true,.n 3,.v (.bd []) [] (.sl 1 (([x41]:List Int).map Qe)),.app ((l42++([x41]:List Int)).map Qe) (l42++([x41]:List Int)).length,.n 3,.keep [1,5,9,10,60,61] [69,74]] rfl ⟨⟨⟨tt_,hc49⟩,rfl⟩,⟨Qf,Qdf hk50 Qf,Qcc,QeV Qf⟩⟩ ?_
             exact AK.met (ex_ _ (an_ rfl h))
            ·refine Qa hC [.br false,.n 2,.keep [1,5,9,10,60,61] [69,74]] rfl ⟨tt_,hc49⟩ ?_
             exact AK.met (ex_ _ (an_ rfl h))
           ·rintro σ ⟨l47,rfl,h⟩
            unfold QgX at h
            refine Qa hC [.n 4,.keep [1,5,9,10,60,61] [69,74]] rfl tt_ ?_
            cases h
            exact rndN rfl rfl
          ·refine Qa hC [.br false,.n 2,.keep [1,5,9,10] [69,74]] rfl ⟨tt_,hc46⟩ ?_
           cases h
           exact rndX rfl (an_ rfl rfl)
         ·replace h:Qjs l34 set_33 l45=some o:=h
          unfold Qjs at h
          rintro e σ ⟨rfl,rfl⟩
          obtain⟨_,hk52,h⟩:=Qb h
          replace hk52:=chkE hk52
          refine Qa hC [.n 5,.frz 69 (l45.map Qe) [10,75] [],.v (.bd []) [] (.sl 1 (([l45]:List (List Int)).map Qz)),.app ((l34++([l45]:List (List Int))).map Qz) (l34++([l45]:List (List Int))).length,.n 9,.keep [1,5,9] [74]] rfl ⟨⟨⟨tt_,⟨⟨tt_,(frzL Qf)⟩,(frzL Qf)⟩⟩,rfl⟩,⟨Qf,Qdf hk52 Qf,Qcc,QeV Qf⟩⟩ ?_
          cases h
          exact rndN rfl rfl
        ·refine Qa hC [.br false,.n 2,.keep [5] [74]] rfl ⟨tt_,hc39⟩ ?_
         cases h
         exact rndX rfl (an_ rfl rfl)
       ·replace h:QiR l37=some r:=h
        unfold QiR at h
        rintro e σ ⟨rfl,rfl⟩
        refine Qa hC [.n 2,.ren 74 40005,.keep [5] [40005]] rfl tt_ ?_
        exact AK.met (ex_ _ (an_ rfl h))
      ·refine Qa hC [.br false,.n 2,.adopt 5 40005 1,.sayO 40005 (.arr 1 (([]:List (List Int)).map Qz)),.say 5 (.own 40005 ([]:List (List Int)).length),.keep [5] [40005]] rfl ⟨⟨⟨tt_,hc31⟩,rfl⟩,(congrArg (fun n=>V.own 40005 n) (by simp))⟩ ?_
       exact AK.met (ex_ _ (an_ rfl h))
   ·rintro σ ⟨l10,rfl,h⟩
    unfold Qdt at h
    refine Qa hC [.n 7,.keep [4] [40005],.ren 40005 30000,.keep [4] [30000]] rfl tt_ ?_
    cases h
    exact AK.done (ex_ [_] (an_ (an_ rfl tt_) (gives ⟨rfl,tt_⟩)))
def QkR (n1:TNet)(t2:Qr):Option (TNet×Qr):=
 some (n1,t2)
theorem Qpv (n1:TNet)(t2:Qr){r:(TNet×Qr)}(h:QkR n1 t2=some r):Qc Tryz.prog 77 [.agg (Qd n1),.agg (Qi t2)] [] (Gives (.clo (.func 136) [] [.loc 3 0 0,.loc 2 0 0]) [(2,.var (Qd r.1)),(3,.var (Qi r.2))]):=by
 refine Qc.walk 6 Tryz.func77 rfl Tryz.ntmps77 rfl fun C hC=>?_
 unfold QkR at h
 refine Qa hC [.n 14,.keep [4] [2,3]] rfl tt_ ?_
 cases h
 exact AK.done (ex_ [_] (an_ (an_ rfl tt_) (gives ⟨rfl,rfl,tt_⟩)))
def Qau (s1:(List Int)):Option (List Int):=
 (chk (decide (([]:List Int).length+s1.length≤4294967296))).bind fun _=>
 some (([]:List Int)++s1)
theorem QbO (s1:(List Int)){r:(List Int)}(h:Qau s1=some r):Qc Tryz.prog 81 [.sl 1 (s1.map Qe)] [] (Gives (.own 30000 r.length) [(30000,.arr 1 (r.map Qe))]):=by
 refine Qc.walk 8 Tryz.func81 rfl Tryz.ntmps81 rfl fun C hC=>?_
 unfold Qau at h
 refine Qa hC [.n 9] rfl tt_ ?_
 refine AK.eqNil rfl rfl rfl (bleN hC.n rfl) rfl rfl Qx5 ?_ ?_
 ·intro hz4
  replace h:some ([]:List Int)=some r:=by simpa [chk,List.map_eq_nil_iff.1 hz4] using h
  refine Qa hC [.n 10,.adopt 2 30000 1,.sayO 30000 (.arr 1 (([]:List Int).map Qe)),.say 2 (.own 30000 ([]:List Int).length),.keep [2] [30000]] rfl ⟨⟨tt_,rfl⟩,rfl⟩ ?_
  cases h
  exact AK.done (ex_ [_] (an_ (an_ rfl tt_) (gives ⟨rfl,tt_⟩)))
 ·obtain⟨_,hk5,h⟩:=Qb h
  replace hk5:=chkE hk5
  refine Qa hC [.n 8,.sayO 5 (.arr 1 (([]:List Int).map Qe)),.say 5 (.own 5 ([]:List Int).length),.n 1,.app ((([]:List Int)++s1).map Qe) (([]:List Int)++s1).length,.n 4,.keep [2] [5],.ren 5 30000,.keep [2] [30000]] rfl ⟨⟨⟨tt_,rfl⟩,rfl⟩,⟨Qf,Qdf hk5 Qf,Qcc,QeV Qf⟩⟩ ?_
  cases h
  exact AK.done (ex_ [_] (an_ (an_ rfl tt_) (gives ⟨rfl,tt_⟩)))
def Qh4 (lo1:Int)(hi2:Int):Option Int:=
 bif (decide (hi2<lo1))then
 some 0
 else
 some (w64 ((w64 (min2 (IntKind.u64.wrap ((IntKind.u64.wrap hi2)-(IntKind.u64.wrap lo1))) 1024))+1))
theorem QqT (lo1:Int)(hi2:Int){r:Int}(h:Qh4 lo1 hi2=some r):Qc Tryz.prog 264 [.i .i64 lo1,.i .i64 hi2] [] (Gives (.i .i64 r) []):=by
 refine Qc.walk 16 Tryz.func264 rfl Tryz.ntmps264 rfl fun C hC=>?_
 unfold Qh4 at h
 refine Qa hC [.n 13] rfl tt_ ?_
 rcases bifE h with⟨hc5,h⟩|⟨hc5,h⟩
 ·refine Qa hC [.br true,.n 7,.keep [4] []] rfl ⟨tt_,hc5⟩ ?_
  cases h
  exact AK.done (ex_ [_] (an_ (an_ rfl tt_) (gives tt_)))
 ·refine Qa hC [.br false,.n 5,.o (.any (.i .u64 (IntKind.u64.wrap hi2)) none),.n 1,.o (.any (.i .u64 (IntKind.u64.wrap lo1)) none),.n 2,.o (.any (.i .i64 (w64 (min2 (IntKind.u64.wrap ((IntKind.u64.wrap hi2)-(IntKind.u64.wrap lo1))) 1024))) none),.n 5,.keep [4] []] rfl ⟨⟨⟨⟨tt_,hc5⟩,(fun σ h1 h2 _=>Stp.convI rfl rfl (bleN hC.n rfl) (h1 _ _ rfl) it_3 Qpu)⟩,(fun σ h1 h2 _=>Stp.convI rfl rfl (bleN hC.n rfl) (h1 _ _ rfl) it_3 Qpu)⟩,(fun σ h1 h2 _=>Stp.convI rfl rfl (bleN hC.n rfl) (h1 _ _ rfl) Qpu it_3)⟩ ?_
  cases h
  exact AK.done (ex_ [_] (an_ (an_ rfl tt_) (gives tt_)))
def Qeh (c1:Int):Option Bool:=
 some (bif (decide (97≤c1))then((decide (c1≤122))||((decide (65≤c1))&&(decide (c1≤90))))else((decide (65≤c1))&&(decide (c1≤90))))
theorem QlR (c1:Int){r:Bool}(h:Qeh c1=some r):Qc Tryz.prog 251 [.i .u8 c1] [] (Gives (.b r) []):=by
 refine Qc.walk 17 Tryz.func251 rfl Tryz.ntmps251 rfl fun C hC=>?_
 unfold Qeh at h
 refine Qa hC [.n 6] rfl tt_ ?_
 refine AK.meetX (fun σ=>σ=⟨[(2,.b (bif (decide (97≤c1))then((decide (c1≤122))||((decide (65≤c1))&&(decide (c1≤90))))else((decide (65≤c1))&&(decide (c1≤90)))))],[]⟩) ?_ ?_
 ·refine Qa hC [.n 4] rfl tt_ ?_
  rcases QN (decide (97≤c1))with hc4 | hc4
  ·refine Qa hC [.say 5 (.b true),.n 4] rfl ⟨tt_,(congrArg V.b hc4)⟩ ?_
   rcases QN (decide (c1≤122))with hc5 | hc5
   ·refine Qa hC [.say 9 (.b true),.n 9,.say 2 (.b (bif (decide (97≤c1))then((decide (c1≤122))||((decide (65≤c1))&&(decide (c1≤90))))else((decide (65≤c1))&&(decide (c1≤90))))),.keep [2] []] rfl ⟨⟨tt_,(congrArg V.b hc5)⟩,(congrArg V.b (bifT hc4 (orT hc5 rfl)))⟩ ?_
    exact AK.met rfl
   ·refine Qa hC [.say 9 (.b false),.n 3] rfl ⟨tt_,(congrArg V.b hc5)⟩ ?_
    rcases QN (decide (65≤c1))with hc6 | hc6
    ·refine Qa hC [.say 12 (.b true),.n 6,.say 2 (.b (bif (decide (97≤c1))then((decide (c1≤122))||((decide (65≤c1))&&(decide (c1≤90))))else((decide (65≤c1))&&(decide (c1≤90))))),.keep [2] []] rfl ⟨⟨tt_,(congrArg V.b hc6)⟩,(congrArg V.b (bifT hc4 (orF hc5 (andT hc6 rfl))))⟩ ?_
     exact AK.met rfl
    ·refine Qa hC [.say 12 (.b false),.n 6,.say 2 (.b (bif (decide (97≤c1))then((decide (c1≤122))||((decide (65≤c1))&&(decide (c1≤90))))else((decide (65≤c1))&&(decide (c1≤90))))),.keep [2] []] rfl ⟨⟨tt_,(congrArg V.b hc6)⟩,(congrArg V.b (bifT hc4 (orF hc5 (andF hc6 rfl))))⟩ ?_
     exact AK.met rfl
  ·refine Qa hC [.say 5 (.b false),.n 7] rfl ⟨tt_,(congrArg V.b hc4)⟩ ?_
   rcases QN (decide (65≤c1))with hc7 | hc7
   ·refine Qa hC [.say 12 (.b true),.n 6,.say 2 (.b (bif (decide (97≤c1))then((decide (c1≤122))||((decide (65≤c1))&&(decide (c1≤90))))else((decide (65≤c1))&&(decide (c1≤90))))),.keep [2] []] rfl ⟨⟨tt_,(congrArg V.b hc7)⟩,(congrArg V.b (bifF hc4 (andT hc7 rfl)))⟩ ?_
    exact AK.met rfl
   ·refine Qa hC [.say 12 (.b false),.n 6,.say 2 (.b (bif (decide (97≤c1))then((decide (c1≤122))||((decide (65≤c1))&&(decide (c1≤90))))else((decide (65≤c1))&&(decide (c1≤90))))),.keep [2] []] rfl ⟨⟨tt_,(congrArg V.b hc7)⟩,(congrArg V.b (bifF hc4 (andF hc7 rfl)))⟩ ?_
    exact AK.met rfl
 ·rintro σ rfl
  refine Qa hC [.n 2,.keep [2] []] rfl tt_ ?_
  cases h
  exact AK.done (ex_ [_] (an_ (an_ rfl tt_) (gives tt_)))
def Qkm (s1:ByteArray):Option Bool:=
 bif (QhI s1 (⟨#[]⟩:ByteArray))then
 some true
 else
 bif (decide (32<(s1.size:Int)))then
 some true
 else
 (sidx s1 0).bind fun c8=>
 (Qeh c8).bind fun x9=>
 some (!x9)
def Qkn (c14:Int):Option Bool:=
 (Qeh c14).bind fun x17=>
 bif (!x17)then
 bif (decide (c14<48))then
 some (c14 != 95)
 else
 bif (decide (57<c14))then
 some (c14 != 95)
 else
 some false
 else
 some false
def Qfq (x11:Int)(x15:Bool):Option (Int⊕(Unit⊕Unit)):=
 bif x15 then
 some (.inr (.inl ()))
 else
 some (.inl (w64 (x11+1)))
def QdT (s1:ByteArray)(x11:Int):Option (Int⊕(Unit⊕Unit)):=
 bif (decide (x11<(s1.size:Int)))then
 (sidx s1 x11).bind fun c14=>
 (Qkn c14).bind (fun x15=>Qfq x11 x15)
 else
 some (.inr (.inr ()))
def Qfr : Option Bool:=
 some false
def Qfs : Option Bool:=
 some true
def Qft (s1:ByteArray)(x4:Bool):Option Bool:=
 bif x4 then
 some false
 else
 (QA (fun st=>QdT s1 st) 0).bind (Sum.elim (fun q=>Qfr) (fun q=>Qfs))
def Qex (s1:ByteArray):Option Bool:=
 (Qkm s1).bind (fun x4=>Qft s1 x4)
theorem Qko (s1:ByteArray){r:Bool}(h:Qex s1=some r):Qc Tryz.prog 208 [.s s1] [] (Gives (.b r) []):=by
 refine Qc.walk 42 Tryz.func208 rfl Tryz.ntmps208 rfl fun C hC=>?_
 unfold Qex at h
 refine Qa hC [.n 7] rfl tt_ ?_
 obtain⟨x4,hv5,h⟩:=Qb h
 replace h:Qft s1 x4=some r:=h
 refine AK.meetX (fun σ=>σ=⟨[(0,.s s1),(17,.b x4)],[]⟩) ?_ ?_
 ·replace h:=hv5
  unfold Qkm at h
  refine Qa hC [.n 4] rfl tt_ ?_
  rcases bifE h with⟨hc6,h⟩|⟨hc6,h⟩
  ·refine Qa hC [.say 7 (.b true),.n 11,.keep [0,17] []] rfl ⟨tt_,(congrArg V.b hc6)⟩ ?_
   cases h
   exact AK.met rfl
  ·refine Qa hC [.say 7 (.b false),.n 5] rfl ⟨tt_,(congrArg V.b hc6)⟩ ?_
   rcases bifE h with⟨hc7,h⟩|⟨hc7,h⟩
   ·refine Qa hC [.say 12 (.b true),.n 6,.keep [0,17] []] rfl ⟨tt_,(congrArg V.b hc7)⟩ ?_
    cases h
    exact AK.met rfl
   ·obtain⟨c8,hc8,h⟩:=Qb h
    obtain⟨x9,hx9,h⟩:=Qb h
    refine Qa hC [.say 12 (.b false),.n 1,.o (.num c8),.o (.c false [.d] (.b x9)),.n 3,.keep [0,17] []] rfl ⟨⟨⟨tt_,(congrArg V.b hc7)⟩,hc8⟩,(QlR _ hx9)⟩ ?_
    cases h
    exact AK.met rfl
 ·rintro σ rfl
  replace h:Qft s1 x4=some r:=h
  unfold Qft at h
  refine Qa hC [.n 1] rfl tt_ ?_
  rcases bifE h with⟨hc10,h⟩|⟨hc10,h⟩
  ·refine Qa hC [.br true,.n 7,.keep [2] []] rfl ⟨tt_,hc10⟩ ?_
   cases h
   exact AK.done (ex_ [_] (an_ (an_ rfl tt_) (gives tt_)))
  ·refine Qa hC [.br false,.n 11,.keep [0,19,20] []] rfl ⟨tt_,hc10⟩ ?_
   obtain⟨o22,hl22,h⟩:=Qb h
   refine AK.loop (body:=(fun st=>QdT s1 st)) (fun st σ=>σ=⟨[(0,.s s1),(19,.i .i64 (s1.size:Int)),(20,.i .i64 st)],[]⟩) (Sum.elim (fun q e σ=>e=.ret∧σ=⟨[(2,.b false)],[]⟩) (fun q e σ=>e=.exit 0∧σ=⟨[],[]⟩)) hl22 rfl ?_ ?_
   ·rintro x11 o σ rfl h
    replace h:QdT s1 x11=some o:=h
    unfold QdT at h
    refine Qa hC [.n 6] rfl tt_ ?_
    rcases bifE h with⟨hc13,h⟩|⟨hc13,h⟩
    ·obtain⟨c14,hc14,h⟩:=Qb h
     refine Qa hC [.br true,.n 14,.o (.num c14),.n 4] rfl ⟨⟨tt_,hc13⟩,hc14⟩ ?_
     obtain⟨x15,hv16,h⟩:=Qb h
     replace h:Qfq x11 x15=some o:=h
     refine AK.meetX (fun σ=>σ=⟨[(0,.s s1),(19,.i .i64 (s1.size:Int)),(20,.i .i64 x11),(40,.b x15)],[]⟩) ?_ ?_
     ·replace h:=hv16
      unfold Qkn at h
      obtain⟨x17,hx17,h⟩:=Qb h
      refine Qa hC [.n 2,.o (.c false [.d] (.b x17)),.n 2] rfl ⟨tt_,(QlR _ hx17)⟩ ?_
      rcases bifE h with⟨hc18,h⟩|⟨hc18,h⟩
      ·refine Qa hC [.say 29 (.b true),.n 3] rfl ⟨tt_,(congrArg V.b hc18)⟩ ?_
       rcases bifE h with⟨hc19,h⟩|⟨hc19,h⟩
       ·refine Qa hC [.say 32 (.b true),.n 9,.keep [0,19,20,40] []] rfl ⟨tt_,(congrArg V.b hc19)⟩ ?_
        cases h
        exact AK.met rfl
       ·refine Qa hC [.say 32 (.b false),.n 5] rfl ⟨tt_,(congrArg V.b hc19)⟩ ?_
        rcases bifE h with⟨hc20,h⟩|⟨hc20,h⟩
        ·refine Qa hC [.say 37 (.b true),.n 4,.keep [0,19,20,40] []] rfl ⟨tt_,(congrArg V.b hc20)⟩ ?_
         cases h
         exact AK.met rfl
        ·refine Qa hC [.say 37 (.b false),.n 4,.keep [0,19,20,40] []] rfl ⟨tt_,(congrArg V.b hc20)⟩ ?_
         cases h
         exact AK.met rfl
      ·refine Qa hC [.say 29 (.b false),.n 12,.keep [0,19,20,40] []] rfl ⟨tt_,(congrArg V.b hc18)⟩ ?_
       cases h
       exact AK.met rfl
     ·rintro σ rfl
      replace h:Qfq x11 x15=some o:=h
      unfold Qfq at h
      refine Qa hC [.n 1] rfl tt_ ?_
      rcases bifE h with⟨hc21,h⟩|⟨hc21,h⟩
      ·refine Qa hC [.br true,.n 8,.keep [2] []] rfl ⟨tt_,hc21⟩ ?_
       cases h
       exact rndR rfl (an_ rfl rfl)
      ·refine Qa hC [.br false,.n 7,.keep [0,19,20] []] rfl ⟨tt_,hc21⟩ ?_
       cases h
       exact rndN rfl rfl
    ·refine Qa hC [.br false,.n 2,.keep [] []] rfl ⟨tt_,hc13⟩ ?_
     cases h
     exact rndX rfl (an_ rfl rfl)
   ·rcases o22 with(_ | _)
    ·replace h:Qfr=some r:=h
     unfold Qfr at h
     rintro e σ ⟨rfl,rfl⟩
     refine Qa hC [.n 2,.keep [2] []] rfl tt_ ?_
     cases h
     exact AK.done (ex_ [_] (an_ (an_ rfl tt_) (gives tt_)))
    ·replace h:Qfs=some r:=h
     unfold Qfs at h
     rintro e σ ⟨rfl,rfl⟩
     refine Qa hC [.n 8,.keep [2] []] rfl tt_ ?_
     cases h
     exact AK.done (ex_ [_] (an_ (an_ rfl tt_) (gives tt_)))
def Qju (e10:ByteArray)(m6:QSB):Option Bool:=
 (Qex e10).bind fun x13=>
 bif (!x13)then
 some true
 else
 some ((mget m6 e10).getD false)
def QeC (x5:Int)(m6:QSB)(e10:ByteArray)(x11:Bool):Option ((Int×QSB)⊕(Unit⊕Unit)):=
 bif x11 then
 some (.inr (.inl ()))
 else
 some (.inl ((w64 (x5+1)),(mset ltS m6 e10 true)))
def Qdu (l1:(List ByteArray))(x5:Int)(m6:QSB):Option ((Int×QSB)⊕(Unit⊕Unit)):=
 bif (decide (x5<(l1.length:Int)))then
 (idx l1 x5).bind fun e10=>
 (Qju e10 m6).bind (fun x11=>QeC x5 m6 e10 x11)
 else
 some (.inr (.inr ()))
def QeD : Option Bool:=
 some false
def QeE : Option Bool:=
 some true
def Qhd (l1:(List ByteArray)):Option Bool:=
 (QA (fun st=>Qdu l1 st.1 st.2) (0,([]:QSB))).bind (Sum.elim (fun q=>QeD) (fun q=>QeE))
theorem Qqd (l1:(List ByteArray)){r:Bool}(h:Qhd l1=some r):Qc Tryz.prog 265 [.sl 1 (l1.map QdF)] [] (Gives (.b r) []):=by
 refine Qc.walk 24 Tryz.func265 rfl Tryz.ntmps265 rfl fun C hC=>?_
 unfold Qhd at h
 refine Qa hC [.n 8,.sayO 6 (.map (mapV V.s V.b ([]:QSB))),.n 7,.o (.ln l1.length),.n 4,.keep [3,7,8,9] [6]] rfl ⟨⟨tt_,rfl⟩,Qf⟩ ?_
 obtain⟨o16,hl16,h⟩:=Qb h
 refine AK.loop (body:=(fun st=>Qdu l1 st.1 st.2)) (fun st σ=>σ=⟨[(3,.map 6),(7,.sl 1 (l1.map QdF)),(8,.i .i64 (l1.length:Int)),(9,.i .i64 st.1)],[(6,.map (mapV V.s V.b st.2))]⟩) (Sum.elim (fun q e σ=>e=.ret∧σ=⟨[(2,.b false)],[]⟩) (fun q e σ=>e=.exit 0∧σ=⟨[],[]⟩)) hl16 rfl ?_ ?_
 ·rintro ⟨x5,m6⟩ o σ rfl h
  replace h:Qdu l1 x5 m6=some o:=h
  unfold Qdu at h
  refine Qa hC [.n 6] rfl tt_ ?_
  rcases bifE h with⟨hc9,h⟩|⟨hc9,h⟩
  ·obtain⟨e10,he10,h⟩:=Qb h
   refine Qa hC [.br true,.n 6,.o (.row (QdF e10)),.n 6] rfl ⟨⟨tt_,hc9⟩,(idxM he10)⟩ ?_
   obtain⟨x11,hv12,h⟩:=Qb h
   replace h:QeC x5 m6 e10 x11=some o:=h
   refine AK.meetX (fun σ=>σ=⟨[(3,.map 6),(5,.s e10),(7,.sl 1 (l1.map QdF)),(8,.i .i64 (l1.length:Int)),(9,.i .i64 x5),(20,.b x11)],[(6,.map (mapV V.s V.b m6))]⟩) ?_ ?_
   ·replace h:=hv12
    unfold Qju at h
    obtain⟨x13,hx13,h⟩:=Qb h
    refine Qa hC [.n 2,.o (.c false [.d] (.b x13)),.n 2] rfl ⟨tt_,(Qko _ hx13)⟩ ?_
    rcases bifE h with⟨hc14,h⟩|⟨hc14,h⟩
    ·refine Qa hC [.say 16 (.b true),.n 5,.keep [3,5,7,8,9,20] [6]] rfl ⟨tt_,(congrArg V.b hc14)⟩ ?_
     cases h
     exact AK.met rfl
    ·refine Qa hC [.say 16 (.b false),.n 2,.o (.any (.b ((mget m6 e10).getD false)) none),.n 2,.keep [3,5,7,8,9,20] [6]] rfl ⟨⟨tt_,(congrArg V.b hc14)⟩,(fun σ h1 h2 _=>Stp.lookup (e:=V.s) (f:=V.b) (l:=m6) (k:=e10) (z:=false) rfl rfl (bleN hC.n rfl) (h1 _ _ rfl) (h2 _ _ rfl) (h1 _ _ rfl) Qox ky_9 zi_4 rfl)⟩ ?_
     cases h
     exact AK.met rfl
   ·rintro σ rfl
    replace h:QeC x5 m6 e10 x11=some o:=h
    unfold QeC at h
    refine Qa hC [.n 1] rfl tt_ ?_
    rcases bifE h with⟨hc15,h⟩|⟨hc15,h⟩
    ·refine Qa hC [.br true,.n 9,.keep [2] []] rfl ⟨tt_,hc15⟩ ?_
     cases h
     exact rndR rfl (an_ rfl rfl)
    ·refine Qa hC [.br false,.n 5,.x (fun σ=>σ.set 6 (.map (mapV V.s V.b (mset ltS m6 e10 true)))),.n 7,.keep [3,7,8,9] [6]] rfl ⟨⟨tt_,hc15⟩,(Stp.mapUpdate (e:=V.s) (f:=V.b) (l:=m6) (k:=e10) (v:=true) ltS rfl rfl rfl rfl rfl rfl Qox ky_9 rfl)⟩ ?_
     cases h
     exact rndN rfl rfl
  ·refine Qa hC [.br false,.n 2,.keep [] []] rfl ⟨tt_,hc9⟩ ?_
   cases h
   exact rndX rfl (an_ rfl rfl)
 ·rcases o16 with(_ | _)
  ·replace h:QeD=some r:=h
   unfold QeD at h
   rintro e σ ⟨rfl,rfl⟩
   refine Qa hC [.n 2,.keep [2] []] rfl tt_ ?_
   cases h
   exact AK.done (ex_ [_] (an_ (an_ rfl tt_) (gives tt_)))
  ·replace h:QeE=some r:=h
   unfold QeE at h
   rintro e σ ⟨rfl,rfl⟩
   refine Qa hC [.n 8,.keep [2] []] rfl tt_ ?_
   cases h
   exact AK.done (ex_ [_] (an_ (an_ rfl tt_) (gives tt_)))
def Qb1 : Option Int:=
 some 0
def Qh5 (c1:QB)(ahead2:(List Int)):Option Int:=
 bif (c1.Kind==1)then
 (Qh4 c1.Lo c1.Hi).bind fun x6=>
 some x6
 else
 bif (c1.Kind==2)then
 (Qhd c1.Names).bind fun x8=>
 bif x8 then
 some (c1.Names.length:Int)
 else
 Qb1
 else
 bif (c1.Kind==3)then
 bif ((decide (0≤(min2 c1.First c1.Then)))&&(decide ((max2 c1.First c1.Then)<(ahead2.length:Int))))then
 (idx ahead2 c1.First).bind fun e14=>
 (idx ahead2 c1.Then).bind fun e15=>
 some (w64 (e14*e15))
 else
 Qb1
 else
 Qb1
theorem QqU (c1:QB)(ahead2:(List Int)){r:Int}(h:Qh5 c1 ahead2=some r):Qc Tryz.prog 254 [.agg (Qw c1),.sl 1 (ahead2.map Qe)] [] (Gives (.i .i64 r) []):=by
 refine Qc.walk 51 Tryz.func254 rfl Tryz.ntmps254 rfl fun C hC=>?_
 unfold Qh5 at h
 refine Qa hC [.n 6] rfl tt_ ?_
 refine AK.meet (fun σ=>σ=⟨[],[]⟩∧Qb1=some r) ?_ ?_
 ·refine Qa hC [.n 13] rfl tt_ ?_
  rcases bifE h with⟨hc5,h⟩|⟨hc5,h⟩
  ·obtain⟨x6,hx6,h⟩:=Qb h
   refine Qa hC [.br true,.n 6,.o (.c false [.d,.d] (.i .i64 x6)),.n 6,.keep [4] []] rfl ⟨⟨tt_,hc5⟩,(QqT _ _ hx6)⟩ ?_
   cases h
   exact AK.done (ex_ [_] (an_ (an_ rfl tt_) (gives tt_)))
  ·refine Qa hC [.br false,.n 6] rfl ⟨tt_,hc5⟩ ?_
   rcases bifE h with⟨hc7,h⟩|⟨hc7,h⟩
   ·obtain⟨x8,hx8,h⟩:=Qb h
    refine Qa hC [.br true,.n 4,.o (.c false [.d] (.b x8)),.n 2] rfl ⟨⟨tt_,hc7⟩,(Qqd _ hx8)⟩ ?_
    rcases bifE h with⟨hc9,h⟩|⟨hc9,h⟩
    ·refine Qa hC [.br true,.n 4,.o (.ln c1.Names.length),.n 6,.keep [4] []] rfl ⟨⟨tt_,hc9⟩,Qf⟩ ?_
     cases h
     exact AK.done (ex_ [_] (an_ (an_ rfl tt_) (gives tt_)))
    ·refine Qa hC [.br false,.n 2,.keep [] []] rfl ⟨tt_,hc9⟩ ?_
     exact AK.met (an_ rfl h)
   ·refine Qa hC [.br false,.n 6] rfl ⟨tt_,hc7⟩ ?_
    rcases bifE h with⟨hc10,h⟩|⟨hc10,h⟩
    ·refine Qa hC [.br true,.n 1] rfl ⟨tt_,hc10⟩ ?_
     refine AK.meetX (fun σ=>σ=⟨[(1,.sl 1 (ahead2.map Qe)),(2,.loc 2 0 0),(39,.b ((decide (0≤(min2 c1.First c1.Then)))&&(decide ((max2 c1.First c1.Then)<(ahead2.length:Int)))))],[(2,.var (Qw c1))]⟩) ?_ ?_
     ·refine Qa hC [.n 8] rfl tt_ ?_
      rcases QN (decide (0≤(min2 c1.First c1.Then)))with hc12 | hc12
      ·refine Qa hC [.say 30 (.b true),.n 6,.o (.ln ahead2.length),.n 3,.say 39 (.b ((decide (0≤(min2 c1.First c1.Then)))&&(decide ((max2 c1.First c1.Then)<(ahead2.length:Int))))),.keep [1,2,39] [2]] rfl ⟨⟨⟨tt_,(congrArg V.b hc12)⟩,Qf⟩,(congrArg V.b (andT hc12 rfl))⟩ ?_
       exact AK.met rfl
      ·refine Qa hC [.say 30 (.b false),.n 10,.say 39 (.b ((decide (0≤(min2 c1.First c1.Then)))&&(decide ((max2 c1.First c1.Then)<(ahead2.length:Int))))),.keep [1,2,39] [2]] rfl ⟨⟨tt_,(congrArg V.b hc12)⟩,(congrArg V.b (andF hc12 rfl))⟩ ?_
       exact AK.met rfl
     ·rintro σ rfl
      refine Qa hC [.n 1] rfl tt_ ?_
      rcases bifE h with⟨hc13,h⟩|⟨hc13,h⟩
      ·obtain⟨e14,he14,h⟩:=Qb h
       obtain⟨e15,he15,h⟩:=Qb h
       refine Qa hC [.br true,.n 1,.keep [1,2] [2]] rfl ⟨tt_,hc13⟩ ?_
       refine AK.draw2 Qo hC mixed [.a .no none false,.a .no none false,.a .no none false,.a (.row (Qe e14)) none false,.a .no none false,.a .no none false,.a .no none false,.a .no none false,.a (.row (Qe e15)) none false,.a .no none false,.a .no none false,.a .no none false] [] [] [4] [] rfl rfl rfl ⟨⟨tt_,(idxM he14)⟩,(idxM he15)⟩ rfl (by kernel_rfl) rfl rfl rfl ?_
       refine Qa hC [.n 4,.keep [4] []] rfl tt_ ?_
       cases h
       exact AK.done (ex_ [_] (an_ (an_ rfl tt_) (gives tt_)))
      ·refine Qa hC [.br false,.n 2,.keep [] []] rfl ⟨tt_,hc13⟩ ?_
       exact AK.met (an_ rfl h)
    ·refine Qa hC [.br false,.n 2,.keep [] []] rfl ⟨tt_,hc10⟩ ?_
     exact AK.met (an_ rfl h)
 ·rintro σ ⟨rfl,h⟩
  unfold Qb1 at h
  refine Qa hC [.n 6,.keep [4] []] rfl tt_ ?_
  cases h
  exact AK.done (ex_ [_] (an_ (an_ rfl tt_) (gives tt_)))
def Qjv (e16:QB)(m9:QSB)(x17:Int):Option Bool:=
 (Qex e16.Name).bind fun x20=>
 bif (!x20)then
 some true
 else
 bif ((mget m9 e16.Name).getD false)then
 some true
 else
 bif (decide (x17<1))then
 some true
 else
 some (decide (1024<x17))
def QeF (l10:(List Int))(x17:Int)(x8:Int)(m9:QSB)(e16:QB)(x18:Bool):Option ((Int×QSB×(List Int))⊕(Unit⊕(List Int))):=
 bif x18 then
 some (.inr (.inl ()))
 else
 (chk (decide (l10.length+([x17]:List Int).length≤4294967296))).bind fun _=>
 some (.inl ((w64 (x8+1)),(mset ltS m9 e16.Name true),(l10++([x17]:List Int))))
def Qdv (l1:(List QB))(x8:Int)(m9:QSB)(l10:(List Int)):Option ((Int×QSB×(List Int))⊕(Unit⊕(List Int))):=
 bif (decide (x8<(l1.length:Int)))then
 (idx l1 x8).bind fun e16=>
 (Qh5 e16 l10).bind fun x17=>
 (Qjv e16 m9 x17).bind (fun x18=>QeF l10 x17 x8 m9 e16 x18)
 else
 some (.inr (.inr l10))
def Qjw : Option ((List Int)×Bool):=
 some (([]:List Int),false)
def Qjx (l14:(List Int)):Option ((List Int)×Bool):=
 some (l14,true)
def Qe7 (l1:(List QB)):Option ((List Int)×Bool):=
 bif (decide (32<(l1.length:Int)))then
 some (([]:List Int),false)
 else
 (QA (fun st=>Qdv l1 st.1 st.2.1 st.2.2) (0,([]:QSB),([]:List Int))).bind (Sum.elim (fun q=>Qjw) (fun q=>Qjx q))
theorem Qmd (l1:(List QB)){r:((List Int)×Bool)}(h:Qe7 l1=some r):Qc Tryz.prog 211 [.sl 7 (l1.map Qw)] [] (Gives (.tup [.sl 1 (r.1.map Qe),.b r.2]) []):=by
 refine Qc.walk 49 Tryz.func211 rfl Tryz.ntmps211 rfl fun C hC=>?_
 unfold Qe7 at h
 refine Qa hC [.n 10,.o (.ln l1.length),.n 3] rfl ⟨tt_,Qf⟩ ?_
 rcases bifE h with⟨hc6,h⟩|⟨hc6,h⟩
 ·refine Qa hC [.br true,.n 8,.denil 2 [some 1],.keep [2,3] []] rfl ⟨tt_,hc6⟩ ?_
  cases h
  exact AK.done (ex_ [_,_] (an_ (an_ rfl (an_ rfl tt_)) (gives tt_)))
 ·refine Qa hC [.br false,.n 5,.sayO 12 (.map (mapV V.s V.b ([]:QSB))),.n 12,.o (.ln l1.length),.n 4,.adopt 5 43 1,.sayO 43 (.arr 1 (([]:List Int).map Qe)),.say 5 (.own 43 ([]:List Int).length),.keep [4,5,13,14,15] [12,43]] rfl ⟨⟨⟨⟨⟨tt_,hc6⟩,rfl⟩,Qf⟩,rfl⟩,(congrArg (fun n=>V.own 43 n) (by simp))⟩ ?_
  obtain⟨o26,hl26,h⟩:=Qb h
  refine AK.loop (body:=(fun st=>Qdv l1 st.1 st.2.1 st.2.2)) (fun st σ=>σ=⟨[(4,.map 12),(5,.own 43 st.2.2.length),(13,.sl 7 (l1.map Qw)),(14,.i .i64 (l1.length:Int)),(15,.i .i64 st.1)],[(12,.map (mapV V.s V.b st.2.1)),(43,.arr 1 (st.2.2.map Qe))]⟩) (Sum.elim (fun q e σ=>e=.ret∧σ=⟨[(2,.lit (.slice none 0 0)),(3,.b false)],[]⟩) (fun q e σ=>e=.exit 0∧σ=⟨[(5,.own 43 q.length)],[(43,.arr 1 (q.map Qe))]⟩)) hl26 rfl ?_ ?_
  ·rintro ⟨x8,m9,l10⟩ o σ rfl h
   replace h:Qdv l1 x8 m9 l10=some o:=h
   unfold Qdv at h
   refine Qa hC [.n 6] rfl tt_ ?_
   rcases bifE h with⟨hc15,h⟩|⟨hc15,h⟩
   ·obtain⟨e16,he16,h⟩:=Qb h
    obtain⟨x17,hx17,h⟩:=Qb h
    refine Qa hC [.br true,.n 6,.o (.row (Qw e16)),.v .no [] (.agg (Qw e16)),.n 2,.sayO 7 (.var (Qw e16)),.n 4,.v .no [] (.agg (Qw e16)),.n 1,.o (.c true [.d,.o (l10.map Qe)] (.i .i64 x17)),.n 5] rfl ⟨⟨⟨⟨⟨⟨tt_,hc15⟩,(idxM he16)⟩,rfl⟩,rfl⟩,rfl⟩,⟨(Qp7 rfl),(QqU _ _ hx17)⟩⟩ ?_
    obtain⟨x18,hv19,h⟩:=Qb h
    replace h:QeF l10 x17 x8 m9 e16 x18=some o:=h
    refine AK.meetX (fun σ=>σ=⟨[(4,.map 12),(5,.own 43 l10.length),(7,.loc 7 0 0),(8,.i .i64 x17),(13,.sl 7 (l1.map Qw)),(14,.i .i64 (l1.length:Int)),(15,.i .i64 x8),(39,.b x18)],[(7,.var (Qw e16)),(12,.map (mapV V.s V.b m9)),(43,.arr 1 (l10.map Qe))]⟩) ?_ ?_
    ·replace h:=hv19
     unfold Qjv at h
     obtain⟨x20,hx20,h⟩:=Qb h
     refine Qa hC [.n 3,.o (.c false [.d] (.b x20)),.n 2] rfl ⟨tt_,(Qko _ hx20)⟩ ?_
     rcases bifE h with⟨hc21,h⟩|⟨hc21,h⟩
     ·refine Qa hC [.say 26 (.b true),.n 14,.keep [4,5,7,8,13,14,15,39] [7,12,43]] rfl ⟨tt_,(congrArg V.b hc21)⟩ ?_
      cases h
      exact AK.met rfl
     ·refine Qa hC [.say 26 (.b false),.n 3,.o (.any (.b ((mget m9 e16.Name).getD false)) none),.n 2] rfl ⟨⟨tt_,(congrArg V.b hc21)⟩,(fun σ h1 h2 _=>Stp.lookup (e:=V.s) (f:=V.b) (l:=m9) (k:=e16.Name) (z:=false) rfl rfl (bleN hC.n rfl) (h1 _ _ rfl) (h2 _ _ rfl) (h1 _ _ rfl) Qox ky_9 zi_4 rfl)⟩ ?_
      rcases bifE h with⟨hc22,h⟩|⟨hc22,h⟩
      ·refine Qa hC [.say 32 (.b true),.n 8,.keep [4,5,7,8,13,14,15,39] [7,12,43]] rfl ⟨tt_,(congrArg V.b hc22)⟩ ?_
       cases h
       exact AK.met rfl
      ·refine Qa hC [.say 32 (.b false),.n 4] rfl ⟨tt_,(congrArg V.b hc22)⟩ ?_
       rcases bifE h with⟨hc23,h⟩|⟨hc23,h⟩
       ·refine Qa hC [.say 36 (.b true),.n 4,.keep [4,5,7,8,13,14,15,39] [7,12,43]] rfl ⟨tt_,(congrArg V.b hc23)⟩ ?_
        cases h
        exact AK.met rfl
       ·refine Qa hC [.say 36 (.b false),.n 4,.keep [4,5,7,8,13,14,15,39] [7,12,43]] rfl ⟨tt_,(congrArg V.b hc23)⟩ ?_
        cases h
        exact AK.met rfl
    ·rintro σ rfl
     replace h:QeF l10 x17 x8 m9 e16 x18=some o:=h
     unfold QeF at h
     refine Qa hC [.n 1] rfl tt_ ?_
     rcases bifE h with⟨hc24,h⟩|⟨hc24,h⟩
     ·refine Qa hC [.br true,.n 10,.keep [2,3] []] rfl ⟨tt_,hc24⟩ ?_
      cases h
      exact rndR rfl (an_ rfl rfl)
     ·obtain⟨_,hk25,h⟩:=Qb h
      replace hk25:=chkE hk25
      refine Qa hC [.br false,.n 7,.x (fun σ=>σ.set 12 (.map (mapV V.s V.b (mset ltS m9 e16.Name true)))),.n 5,.v (.bd []) [] (.sl 1 (([x17]:List Int).map Qe)),.app ((l10++([x17]:List Int)).map Qe) (l10++([x17]:List Int)).length,.n 8,.keep [4,5,13,14,15] [12,43]] rfl ⟨⟨⟨⟨tt_,hc24⟩,(Stp.mapUpdate (e:=V.s) (f:=V.b) (l:=m9) (k:=e16.Name) (v:=true) ltS rfl rfl rfl rfl rfl rfl Qox ky_9 rfl)⟩,rfl⟩,⟨Qf,Qdf hk25 Qf,Qcc,QeV Qf⟩⟩ ?_
      cases h
      exact rndN rfl rfl
   ·refine Qa hC [.br false,.n 2,.keep [5] [43]] rfl ⟨tt_,hc15⟩ ?_
    cases h
    exact rndX rfl (an_ rfl rfl)
  ·rcases o26 with(_ | l14)
   ·replace h:Qjw=some r:=h
    unfold Qjw at h
    rintro e σ ⟨rfl,rfl⟩
    refine Qa hC [.n 2,.denil 2 [some 1],.keep [2,3] []] rfl tt_ ?_
    cases h
    exact AK.done (ex_ [_,_] (an_ (an_ rfl (an_ rfl tt_)) (gives tt_)))
   ·replace h:Qjx l14=some r:=h
    unfold Qjx at h
    rintro e σ ⟨rfl,rfl⟩
    refine Qa hC [.n 10,.frz 43 (l14.map Qe) [2] [],.keep [2,3] []] rfl ⟨tt_,⟨tt_,(frzL Qf)⟩⟩ ?_
    cases h
    exact AK.done (ex_ [_,_] (an_ (an_ rfl (an_ rfl tt_)) (gives tt_)))
def Qd1 (l1:(List QB))(k2:Int):Option (Bool×Qah):=
 (Qe7 l1).bind fun x7=>
 bif ((!x7.2)||((decide (k2<0))||(decide ((l1.length:Int)≤k2))))then
 some (false,(Qah.mk ([]:(List QB)) ([]:(List Int)) 0))
 else
 some (true,(Qah.mk l1 x7.1 k2))
theorem Qls (l1:(List QB))(k2:Int){r:(Bool×Qah)}(h:Qd1 l1 k2=some r):Qc Tryz.prog 184 [.sl 7 (l1.map Qw),.i .i64 k2] [] (Gives (.tup [.agg (QL r.2),.b r.1]) []):=by
 refine Qc.walk 30 Tryz.func184 rfl Tryz.ntmps184 rfl fun C hC=>?_
 unfold Qd1 at h
 obtain⟨x7,hx7,h⟩:=Qb h
 refine Qa hC [.n 9,.o (.c false [.d] (.tup [.sl 1 (x7.1.map Qe),.b x7.2])),.n 9] rfl ⟨tt_,(Qmd _ hx7)⟩ ?_
 refine AK.meetX (fun σ=>σ=⟨[(0,.sl 7 (l1.map Qw)),(1,.i .i64 k2),(4,.loc 4 0 0),(6,.sl 1 (x7.1.map Qe)),(24,.b ((!x7.2)||((decide (k2<0))||(decide ((l1.length:Int)≤k2)))))],[(4,.var [.lit (.slice none 0 0),.lit (.slice none 0 0),.i .i64 0])]⟩) ?_ ?_
 ·refine Qa hC [.n 4] rfl tt_ ?_
  rcases QN (!x7.2)with hc9 | hc9
  ·refine Qa hC [.say 15 (.b true),.n 10,.say 24 (.b ((!x7.2)||((decide (k2<0))||(decide ((l1.length:Int)≤k2))))),.keep [0,1,4,6,24] [4]] rfl ⟨⟨tt_,(congrArg V.b hc9)⟩,(congrArg V.b (orT hc9 rfl))⟩ ?_
   exact AK.met rfl
  ·refine Qa hC [.say 15 (.b false),.n 4] rfl ⟨tt_,(congrArg V.b hc9)⟩ ?_
   rcases QN (decide (k2<0))with hc10 | hc10
   ·refine Qa hC [.say 19 (.b true),.n 6,.say 24 (.b ((!x7.2)||((decide (k2<0))||(decide ((l1.length:Int)≤k2))))),.keep [0,1,4,6,24] [4]] rfl ⟨⟨tt_,(congrArg V.b hc10)⟩,(congrArg V.b (orF hc9 (orT hc10 rfl)))⟩ ?_
    exact AK.met rfl
   ·refine Qa hC [.say 19 (.b false),.n 2,.o (.ln l1.length),.n 3,.say 24 (.b ((!x7.2)||((decide (k2<0))||(decide ((l1.length:Int)≤k2))))),.keep [0,1,4,6,24] [4]] rfl ⟨⟨⟨tt_,(congrArg V.b hc10)⟩,Qf⟩,(congrArg V.b (orF hc9 (orF hc10 rfl)))⟩ ?_
    exact AK.met rfl
 ·rintro σ rfl
  refine Qa hC [.n 1] rfl tt_ ?_
  rcases bifE h with⟨hc11,h⟩|⟨hc11,h⟩
  ·refine Qa hC [.br true,.n 2,.v .no [some 7,some 1,none] (.agg (QL (Qah.mk ([]:(List QB)) ([]:(List Int)) 0))),.n 1,.sayO 4 (.var (QL (Qah.mk ([]:(List QB)) ([]:(List Int)) 0))),.n 5,.keep [4,5] [4]] rfl ⟨⟨⟨tt_,hc11⟩,rfl⟩,rfl⟩ ?_
   cases h
   exact AK.done (ex_ [_,_] (an_ (an_ (ex_ _ (ex_ _ (an_ rfl (an_ rfl (Or.inl (an_ (Qo.ag rfl) (an_ (Qo.sz rfl) rfl))))))) (an_ rfl tt_)) (gives tt_)))
  ·refine Qa hC [.br false,.n 7,.v .no [] (.agg (QL (Qah.mk l1 x7.1 k2))),.n 1,.sayO 4 (.var (QL (Qah.mk l1 x7.1 k2))),.n 4,.keep [4,5] [4]] rfl ⟨⟨⟨tt_,hc11⟩,rfl⟩,rfl⟩ ?_
   cases h
   exact AK.done (ex_ [_,_] (an_ (an_ (ex_ _ (ex_ _ (an_ rfl (an_ rfl (Or.inl (an_ (Qo.ag rfl) (an_ (Qo.sz rfl) rfl))))))) (an_ rfl tt_)) (gives tt_)))
def QdH (m2:Int)(s1:Qah):Option Bool:=
 bif (decide (0≤m2))then
 (idx s1.sizes s1.k).bind fun e7=>
 some (decide (m2<e7))
 else
 some false
def QfX (x4:Bool):Option Bool:=
 some x4
def Qb2 (s1:Qah)(m2:Int):Option Bool:=
 (QdH m2 s1).bind (fun x4=>QfX x4)
theorem Qlp (s1:Qah)(m2:Int){r:Bool}(h:Qb2 s1 m2=some r):Qc Tryz.prog 200 [.agg (QL s1),.i .i64 m2] [] (Gives (.b r) []):=by
 refine Qc.walk 17 Tryz.func200 rfl Tryz.ntmps200 rfl fun C hC=>?_
 unfold Qb2 at h
 refine Qa hC [.n 7] rfl tt_ ?_
 obtain⟨x4,hv5,h⟩:=Qb h
 replace h:QfX x4=some r:=h
 refine AK.meetX (fun σ=>σ=⟨[(4,.b x4)],[]⟩) ?_ ?_
 ·replace h:=hv5
  unfold QdH at h
  refine Qa hC [.n 4] rfl tt_ ?_
  rcases bifE h with⟨hc6,h⟩|⟨hc6,h⟩
  ·obtain⟨e7,he7,h⟩:=Qb h
   refine Qa hC [.say 7 (.b true),.n 5,.o (.row (Qe e7)),.n 5,.keep [4] []] rfl ⟨⟨tt_,(congrArg V.b hc6)⟩,(idxM he7)⟩ ?_
   cases h
   exact AK.met rfl
  ·refine Qa hC [.say 7 (.b false),.n 11,.keep [4] []] rfl ⟨tt_,(congrArg V.b hc6)⟩ ?_
   cases h
   exact AK.met rfl
 ·rintro σ rfl
  replace h:QfX x4=some r:=h
  unfold QfX at h
  refine Qa hC [.n 2,.keep [4] []] rfl tt_ ?_
  cases h
  exact AK.done (ex_ [_] (an_ (an_ rfl tt_) (gives tt_)))
def QbN (s1:Qah):Option QB:=
 (idx s1.all s1.k).bind fun e3=>
 some e3
theorem QgK (s1:Qah){r:QB}(h:QbN s1=some r):Qc Tryz.prog 201 [.agg (QL s1)] [] (Gives (.agg (Qw r)) []):=by
 refine Qc.walk 9 Tryz.func201 rfl Tryz.ntmps201 rfl fun C hC=>?_
 unfold QbN at h
 obtain⟨e3,he3,h⟩:=Qb h
 refine Qa hC [.n 12,.o (.row (Qw e3)),.v .no [] (.agg (Qw e3)),.n 1,.sayO 2 (.var (Qw e3)),.n 3,.keep [2] [2]] rfl ⟨⟨⟨tt_,(idxM he3)⟩,rfl⟩,rfl⟩ ?_
 cases h
 exact AK.done (ex_ [_] (an_ (an_ (ex_ _ (ex_ _ (an_ rfl (an_ rfl (Or.inl (an_ (Qo.ag rfl) (an_ (Qo.sz rfl) rfl))))))) tt_) (gives tt_)))
def Qgn (x8:(Bool×Qah))(m3:Int):Option Bool:=
 bif (!x8.1)then
 some true
 else
 (Qb2 x8.2 m3).bind fun x12=>
 some (!x12)
def QcW (x8:(Bool×Qah))(m3:Int)(x9:Bool):Option (Int×Bool):=
 bif x9 then
 some (0,false)
 else
 (QbN x8.2).bind fun x14=>
 bif (x14.Kind==1)then
 (QbN x8.2).bind fun x16=>
 some ((w64 (x16.Lo+m3)),true)
 else
 some (m3,true)
def Qdg (l1:(List QB))(k2:Int)(m3:Int):Option (Int×Bool):=
 (Qd1 l1 k2).bind fun x8=>
 (Qgn x8 m3).bind (fun x9=>QcW x8 m3 x9)
theorem Qpw (l1:(List QB))(k2:Int)(m3:Int){r:(Int×Bool)}(h:Qdg l1 k2 m3=some r):Qc Tryz.prog 138 [.sl 7 (l1.map Qw),.i .i64 k2,.i .i64 m3] [] (Gives (.tup [.i .i64 r.1,.b r.2]) []):=by
 refine Qc.walk 36 Tryz.func138 rfl Tryz.ntmps138 rfl fun C hC=>?_
 unfold Qdg at h
 obtain⟨x8,hx8,h⟩:=Qb h
 refine Qa hC [.n 10,.o (.c false [.d,.d] (.tup [.agg (QL x8.2),.b x8.1])),.n 5,.sayO 8 (.var (QL x8.2)),.n 6] rfl ⟨⟨tt_,(Qls _ _ hx8)⟩,rfl⟩ ?_
 obtain⟨x9,hv10,h⟩:=Qb h
 replace h:QcW x8 m3 x9=some r:=h
 refine AK.meetX (fun σ=>σ=⟨[(2,.i .i64 m3),(8,.loc 8 0 0),(16,.b x9)],[(8,.var (QL x8.2))]⟩) ?_ ?_
 ·replace h:=hv10
  unfold Qgn at h
  refine Qa hC [.n 4] rfl tt_ ?_
  rcases bifE h with⟨hc11,h⟩|⟨hc11,h⟩
  ·refine Qa hC [.say 19 (.b true),.n 7,.keep [2,8,16] [8]] rfl ⟨tt_,(congrArg V.b hc11)⟩ ?_
   cases h
   exact AK.met rfl
  ·obtain⟨x12,hx12,h⟩:=Qb h
   refine Qa hC [.say 19 (.b false),.v .no [] (.agg (QL x8.2)),.n 1,.o (.c false [.d,.d] (.b x12)),.n 4,.keep [2,8,16] [8]] rfl ⟨⟨⟨tt_,(congrArg V.b hc11)⟩,rfl⟩,(Qlp _ _ hx12)⟩ ?_
   cases h
   exact AK.met rfl
 ·rintro σ rfl
  replace h:QcW x8 m3 x9=some r:=h
  unfold QcW at h
  refine Qa hC [.n 1] rfl tt_ ?_
  rcases bifE h with⟨hc13,h⟩|⟨hc13,h⟩
  ·refine Qa hC [.br true,.n 9,.keep [6,7] []] rfl ⟨tt_,hc13⟩ ?_
   cases h
   exact AK.done (ex_ [_,_] (an_ (an_ rfl (an_ rfl tt_)) (gives tt_)))
  ·obtain⟨x14,hx14,h⟩:=Qb h
   refine Qa hC [.br false,.n 2,.v .no [] (.agg (QL x8.2)),.o (.c false [.d] (.agg (Qw x14))),.o (.any (.i .i64 x14.Kind) none),.n 4] rfl ⟨⟨⟨⟨tt_,hc13⟩,rfl⟩,(QgK _ hx14)⟩,(fun σ h1 h2 _=>Stp.field rfl rfl (bleN hC.n rfl) (h1 _ _ rfl) Qxj rfl)⟩ ?_
   rcases bifE h with⟨hc15,h⟩|⟨hc15,h⟩
   ·obtain⟨x16,hx16,h⟩:=Qb h
    refine Qa hC [.br true,.n 2,.v .no [] (.agg (QL x8.2)),.o (.c false [.d] (.agg (Qw x16))),.o (.any (.i .i64 x16.Lo) none),.n 9,.keep [6,7] []] rfl ⟨⟨⟨⟨tt_,hc15⟩,rfl⟩,(QgK _ hx16)⟩,(fun σ h1 h2 _=>Stp.field rfl rfl (bleN hC.n rfl) (h1 _ _ rfl) Qxk rfl)⟩ ?_
    cases h
    exact AK.done (ex_ [_,_] (an_ (an_ rfl (an_ rfl tt_)) (gives tt_)))
   ·refine Qa hC [.br false,.n 11,.keep [6,7] []] rfl ⟨tt_,hc15⟩ ?_
    cases h
    exact AK.done (ex_ [_,_] (an_ (an_ rfl (an_ rfl tt_)) (gives tt_)))
def Qdy (e11:Qr)(vars3:(List Int))(n1:TNet)(x15:Int)(l16:(List Int)):Option ((Int×(List Int))⊕(Unit⊕(List Int))):=
 bif (decide (x15<(e11.Vars.length:Int)))then
 (idx e11.Vars x15).bind fun e21=>
 (idx vars3 x15).bind fun e22=>
 (Qdg n1.Colours e21.Colour e22).bind fun x23=>
 bif (!x23.2)then
 some (.inr (.inl ()))
 else
 (idx l16 x15).bind fun e25=>
 some (.inl ((w64 (x15+1)),(l16.set x15.toNat x23.1)))
 else
 some (.inr (.inr l16))
def QlZ : Option ((List Int)×Int):=
 some (([]:List Int),1)
def Ql0 (l19:(List Int)):Option ((List Int)×Int):=
 some (l19,0)
def Qd2 (n1:TNet)(task2:Int)(vars3:(List Int)):Option ((List Int)×Int):=
 bif ((decide (task2<0))||(decide ((n1.Tasks.length:Int)≤task2)))then
 some (([]:List Int),3)
 else
 (idx n1.Tasks task2).bind fun e11=>
 bif ((vars3.length:Int) != (e11.Vars.length:Int))then
 some (([]:List Int),1)
 else
 (chk (decide (0≤(e11.Vars.length:Int))&&decide ((e11.Vars.length:Int)≤(e11.Vars.length:Int))&&decide ((e11.Vars.length:Int)≤4294967296))).bind fun _=>
 (QA (fun st=>Qdy e11 vars3 n1 st.1 st.2) (0,(List.replicate (e11.Vars.length:Int).toNat (0:Int)))).bind (Sum.elim (fun q=>QlZ) (fun q=>Ql0 q))
theorem Ql1 (n1:TNet)(task2:Int)(vars3:(List Int)){r:((List Int)×Int)}(h:Qd2 n1 task2 vars3=some r):Qc Tryz.prog 82 [.agg (Qd n1),.i .i64 task2,.sl 1 (vars3.map Qe)] [] (Gives (.tup [.sl 1 (r.1.map Qe),.i .i64 r.2]) []):=by
 refine Qc.walk 64 Tryz.func82 rfl Tryz.ntmps82 rfl fun C hC=>?_
 unfold Qd2 at h
 refine Qa hC [.n 9] rfl tt_ ?_
 refine AK.meetX (fun σ=>σ=⟨[(1,.i .i64 task2),(2,.sl 1 (vars3.map Qe)),(3,.loc 3 0 0),(22,.b ((decide (task2<0))||(decide ((n1.Tasks.length:Int)≤task2))))],[(3,.var (Qd n1))]⟩) ?_ ?_
 ·refine Qa hC [.n 4] rfl tt_ ?_
  rcases QN (decide (task2<0))with hc9 | hc9
  ·refine Qa hC [.say 16 (.b true),.n 7,.say 22 (.b ((decide (task2<0))||(decide ((n1.Tasks.length:Int)≤task2)))),.keep [1,2,3,22] [3]] rfl ⟨⟨tt_,(congrArg V.b hc9)⟩,(congrArg V.b (orT hc9 rfl))⟩ ?_
   exact AK.met rfl
  ·refine Qa hC [.say 16 (.b false),.n 3,.o (.ln n1.Tasks.length),.n 3,.say 22 (.b ((decide (task2<0))||(decide ((n1.Tasks.length:Int)≤task2)))),.keep [1,2,3,22] [3]] rfl ⟨⟨⟨tt_,(congrArg V.b hc9)⟩,Qf⟩,(congrArg V.b (orF hc9 rfl))⟩ ?_
   exact AK.met rfl
 ·rintro σ rfl
  refine Qa hC [.n 1] rfl tt_ ?_
  rcases bifE h with⟨hc10,h⟩|⟨hc10,h⟩
  ·refine Qa hC [.br true,.n 8,.denil 6 [some 1],.keep [6,7] []] rfl ⟨tt_,hc10⟩ ?_
   cases h
   exact AK.done (ex_ [_,_] (an_ (an_ rfl (an_ rfl tt_)) (gives tt_)))
  ·obtain⟨e11,he11,h⟩:=Qb h
   refine Qa hC [.br false,.n 7,.o (.row (Qi e11)),.n 9,.o (.ln vars3.length),.n 1,.o (.ln e11.Vars.length),.n 3] rfl ⟨⟨⟨⟨tt_,hc10⟩,(idxM he11)⟩,Qf⟩,Qf⟩ ?_
   rcases bifE h with⟨hc12,h⟩|⟨hc12,h⟩
   ·refine Qa hC [.br true,.n 8,.denil 6 [some 1],.keep [6,7] []] rfl ⟨tt_,hc12⟩ ?_
    cases h
    exact AK.done (ex_ [_,_] (an_ (an_ rfl (an_ rfl tt_)) (gives tt_)))
   ·obtain⟨_,hk13,h⟩:=Qb h
    replace hk13:=chkE hk13
    refine Qa hC [.br false,.n 5,.o (.ln e11.Vars.length),.o (.rows ((List.replicate (e11.Vars.length:Int).toNat (0:Int)).map Qe)),.say 36 (.own 36 (List.replicate (e11.Vars.length:Int).toNat (0:Int)).length),.n 7,.o (.ln e11.Vars.length),.n 4,.keep [2,3,9,37,38,39] [3,36]] rfl ⟨⟨⟨⟨⟨tt_,hc12⟩,Qf⟩,⟨hk13,Qvx rfl⟩⟩,(by simp)⟩,Qf⟩ ?_
    obtain⟨o26,hl26,h⟩:=Qb h
    refine AK.loop (body:=(fun st=>Qdy e11 vars3 n1 st.1 st.2)) (fun st σ=>σ=⟨[(2,.sl 1 (vars3.map Qe)),(3,.loc 3 0 0),(9,.own 36 st.2.length),(37,.sl 2 (e11.Vars.map QE)),(38,.i .i64 (e11.Vars.length:Int)),(39,.i .i64 st.1)],[(3,.var (Qd n1)),(36,.arr 1 (st.2.map Qe))]⟩) (Sum.elim (fun q e σ=>e=.ret∧σ=⟨[(6,.lit (.slice none 0 0)),(7,.i .i64 1)],[]⟩) (fun q e σ=>e=.exit 0∧σ=⟨[(9,.own 36 q.length)],[(36,.arr 1 (q.map Qe))]⟩)) hl26 rfl ?_ ?_
    ·rintro ⟨x15,l16⟩ o σ rfl h
     replace h:Qdy e11 vars3 n1 x15 l16=some o:=h
     unfold Qdy at h
     refine Qa hC [.n 6] rfl tt_ ?_
     rcases bifE h with⟨hc20,h⟩|⟨hc20,h⟩
     ·obtain⟨e21,he21,h⟩:=Qb h
      obtain⟨e22,he22,h⟩:=Qb h
      obtain⟨x23,hx23,h⟩:=Qb h
      refine Qa hC [.br true,.n 7,.o (.row (QE e21)),.v .no [] (.agg (QE e21)),.n 3,.sayO 11 (.var (QE e21)),.n 3,.keep [2,3,9,10,11,37,38,39] [3,11,36]] rfl ⟨⟨⟨⟨tt_,hc20⟩,(idxM he21)⟩,rfl⟩,rfl⟩ ?_
      refine AK.draw2 Qo hC mixed [.a .no none false,.a .no none false,.a .no none false,.a .no none false,.a .no none false,.a .no none false,.a (.row (Qe e22)) none false,.a .no none false,.a (.c false [.d,.d,.d] (.tup [.i .i64 x23.1,.b x23.2])) none false,.a .no none false,.a .no none false,.a .no none false,.a .no none false,.a .no none false] [] [] [2,3,9,10,12,13,37,38,39] [3,36] rfl rfl rfl ⟨⟨tt_,(idxM he22)⟩,(Qpw _ _ _ hx23)⟩ rfl (by kernel_rfl) rfl rfl rfl ?_
      refine Qa hC [.n 8] rfl tt_ ?_
      rcases bifE h with⟨hc24,h⟩|⟨hc24,h⟩
      ·refine Qa hC [.br true,.n 10,.keep [6,7] []] rfl ⟨tt_,hc24⟩ ?_
       cases h
       exact rndR rfl (an_ rfl rfl)
      ·obtain⟨e25,he25,h⟩:=Qb h
       refine Qa hC [.br false,.n 7,.st (Qe e25) ((l16.set x15.toNat x23.1).map Qe),.n 7,.say 9 (.own 36 (l16.set x15.toNat x23.1).length),.keep [2,3,9,37,38,39] [3,36]] rfl ⟨⟨⟨⟨tt_,hc24⟩,(QdE he25 rfl)⟩,⟨(QbZ (idxE he25).2),QkM rfl⟩⟩,(congrArg (fun n=>V.own 36 n) (by simp))⟩ ?_
       cases h
       exact rndN rfl rfl
     ·refine Qa hC [.br false,.n 2,.keep [9] [36]] rfl ⟨tt_,hc20⟩ ?_
      cases h
      exact rndX rfl (an_ rfl rfl)
    ·rcases o26 with(_ | l19)
     ·replace h:QlZ=some r:=h
      unfold QlZ at h
      rintro e σ ⟨rfl,rfl⟩
      refine Qa hC [.n 2,.denil 6 [some 1],.keep [6,7] []] rfl tt_ ?_
      cases h
      exact AK.done (ex_ [_,_] (an_ (an_ rfl (an_ rfl tt_)) (gives tt_)))
     ·replace h:Ql0 l19=some r:=h
      unfold Ql0 at h
      rintro e σ ⟨rfl,rfl⟩
      refine Qa hC [.n 10,.frz 36 (l19.map Qe) [6] [],.keep [6,7] []] rfl ⟨tt_,⟨tt_,(frzL Qf)⟩⟩ ?_
      cases h
      exact AK.done (ex_ [_,_] (an_ (an_ rfl (an_ rfl tt_)) (gives tt_)))
def Qbj (n1:TNet)(m2:QMk)(task3:Int)(vars4:(List Int)):Option (Int×QD):=
 (Qd2 n1 task3 vars4).bind fun x9=>
 bif (x9.2 != 0)then
 some (x9.2,(QD.mk (TNet.mk ([]:(List QB)) ([]:(List QC)) ([]:(List Qr)) 0 0) ([]:QMk) (Qr.mk (⟨#[]⟩:ByteArray) ([]:(List TVar)) (Qg.mk 0 0 ([]:(List Qg))) 0 0 ([]:(List TArc)) ([]:(List TArc)) ([]:(List Int)) 0 (0,0,0)) ([]:(List Int))))
 else
 (idx n1.Tasks task3).bind fun e11=>
 some (0,(QD.mk n1 m2 e11 x9.1))
theorem Qnv (n1:TNet)(m2:QMk)(task3:Int)(vars4:(List Int)){r:(Int×QD)}(h:Qbj n1 m2 task3 vars4=some r):Qc Tryz.prog 41 [.agg (Qd n1),.sl 1 (m2.map Qh),.i .i64 task3,.sl 1 (vars4.map Qe)] [] (Gives (.tup [.agg (Qq r.2),.i .i64 r.1]) []):=by
 refine Qc.walk 32 Tryz.func41 rfl Tryz.ntmps41 rfl fun C hC=>?_
 unfold Qbj at h
 obtain⟨x9,hx9,h⟩:=Qb h
 refine Qa hC [.n 9,.v .no [] (.agg (Qd n1)),.n 2,.o (.c false [.d,.d,.d] (.tup [.sl 1 (x9.1.map Qe),.i .i64 x9.2])),.n 14] rfl ⟨⟨tt_,rfl⟩,(Ql1 _ _ _ hx9)⟩ ?_
 rcases bifE h with⟨hc10,h⟩|⟨hc10,h⟩
 ·refine Qa hC [.br true,.n 2,.v .no [some 7,some 3,some 14,none,none,some 1,none,some 2,none,none,some 3,none,none,some 4,some 4,some 1,none,none,none,none,some 1] (.agg (Qq (QD.mk (TNet.mk ([]:(List QB)) ([]:(List QC)) ([]:(List Qr)) 0 0) ([]:QMk) (Qr.mk (⟨#[]⟩:ByteArray) ([]:(List TVar)) (Qg.mk 0 0 ([]:(List Qg))) 0 0 ([]:(List TArc)) ([]:(List TArc)) ([]:(List Int)) 0 (0,0,0)) ([]:(List Int))))),.n 2,.sayO 8 (.var (Qq (QD.mk (TNet.mk ([]:(List QB)) ([]:(List QC)) ([]:(List Qr)) 0 0) ([]:QMk) (Qr.mk (⟨#[]⟩:ByteArray) ([]:(List TVar)) (Qg.mk 0 0 ([]:(List Qg))) 0 0 ([]:(List TArc)) ([]:(List TArc)) ([]:(List Int)) 0 (0,0,0)) ([]:(List Int))))),.n 5,.keep [8,9] [8]] rfl ⟨⟨⟨tt_,hc10⟩,rfl⟩,rfl⟩ ?_
  cases h
  exact AK.done (ex_ [_,_] (an_ (an_ (ex_ _ (ex_ _ (an_ rfl (an_ rfl (Or.inl (an_ (Qo.ag rfl) (an_ (Qo.sz rfl) rfl))))))) (an_ rfl tt_)) (gives tt_)))
 ·obtain⟨e11,he11,h⟩:=Qb h
  refine Qa hC [.br false,.n 3,.keep [1,2,4,8,9,10] [4,8]] rfl ⟨tt_,hc10⟩ ?_
  refine AK.draw2 Qo hC mixed [.a .no (some ([],.agg (Qd n1))) false,.a .no none false,.a .no none false,.a .no none false,.a .no none false,.a (.row (Qi e11)) none false,.a .no (some ([],.agg (Qi e11))) false,.a .no none false,.a .no (some ([],.agg (Qq (QD.mk n1 m2 e11 x9.1)))) false,.m .s,.m .s] [] [] [8,9] [8] rfl rfl rfl ⟨⟨⟨⟨tt_,rfl⟩,(idxM he11)⟩,rfl⟩,rfl⟩ rfl (by kernel_rfl) rfl rfl rfl ?_
  refine Qa hC [.sayO 8 (.var (Qq (QD.mk n1 m2 e11 x9.1))),.n 2,.keep [8,9] [8]] rfl ⟨tt_,rfl⟩ ?_
  cases h
  exact AK.done (ex_ [_,_] (an_ (an_ (ex_ _ (ex_ _ (an_ rfl (an_ rfl (Or.inl (an_ (Qo.ag rfl) (an_ (Qo.sz rfl) rfl))))))) (an_ rfl tt_)) (gives tt_)))
def Qei (e1:Qg)(rec_expr_Depth:Qg→Option Int)(n3:Int)(x4:Int):Option ((Int×Int)⊕Int):=
 bif (decide (x4<(e1.Kids.length:Int)))then
 (idx e1.Kids x4).bind fun e9=>
 (rec_expr_Depth e9).bind fun x10=>
 some (.inl ((max2 n3 x10),(w64 (x4+1))))
 else
 some (.inr n3)
def QiB (n7:Int):Option Int:=
 some (w64 (n7+1))
def Qje (rec_expr_Depth:Qg→Option Int)(e1:Qg):Option Int:=
 (QA (fun st=>Qei e1 rec_expr_Depth st.1 st.2) (0,0)).bind (fun q=>QiB q)
def QdU : Nat→Qg→Option Int
 | 0,_=>none
 | n+1,e1=>Qje (QdU n) e1
def QmJ (e1:Qg):Option Int:=QdU (SizeOf.sizeOf e1) e1
theorem Qqe (rec_expr_Depth:Qg→Option Int)(hrec_expr_Depth:∀(e1:Qg) {r:Int},rec_expr_Depth e1=some r→Qc Tryz.prog 202 [.agg (Qm e1)] [] (Gives (.i .i64 r) []))(e1:Qg){r:Int}(h:Qje rec_expr_Depth e1=some r):Qc Tryz.prog 202 [.agg (Qm e1)] [] (Gives (.i .i64 r) []):=by
 refine Qc.walk 20 Tryz.func202 rfl Tryz.ntmps202 rfl fun C hC=>?_
 unfold Qje at h
 refine Qa hC [.n 16,.o (.ln e1.Kids.length),.n 4,.keep [3,7,8,9] []] rfl ⟨tt_,Qjd _⟩ ?_
 obtain⟨n7,hl11,h⟩:=Qb h
 refine AK.loop (body:=(fun st=>Qei e1 rec_expr_Depth st.1 st.2)) (fun st σ=>σ=⟨[(3,.i .i64 st.1),(7,.sl 3 (Qa1 e1.Kids)),(8,.i .i64 (e1.Kids.length:Int)),(9,.i .i64 st.2)],[]⟩) (fun q e σ=>e=.exit 0∧σ=⟨[(3,.i .i64 q)],[]⟩) hl11 rfl ?_ ?_
 ·rintro ⟨n3,x4⟩ o σ rfl h
  replace h:Qei e1 rec_expr_Depth n3 x4=some o:=h
  unfold Qei at h
  refine Qa hC [.n 6] rfl tt_ ?_
  rcases bifE h with⟨hc8,h⟩|⟨hc8,h⟩
  ·obtain⟨e9,he9,h⟩:=Qb h
   obtain⟨x10,hx10,h⟩:=Qb h
   refine Qa hC [.br true,.n 6,.o (.row (Qm e9)),.v .no [] (.agg (Qm e9)),.n 2,.sayO 5 (.var (Qm e9)),.n 4,.v .no [] (.agg (Qm e9)),.o (.c false [.d] (.i .i64 x10)),.n 9,.keep [3,7,8,9] []] rfl ⟨⟨⟨⟨⟨⟨tt_,hc8⟩,(Qd0 he9)⟩,rfl⟩,rfl⟩,rfl⟩,(hrec_expr_Depth _ hx10)⟩ ?_
   cases h
   exact rndN rfl rfl
  ·refine Qa hC [.br false,.n 2,.keep [3] []] rfl ⟨tt_,hc8⟩ ?_
   cases h
   exact rndX rfl (an_ rfl rfl)
 ·replace h:QiB n7=some r:=h
  unfold QiB at h
  rintro e σ ⟨rfl,rfl⟩
  refine Qa hC [.n 10,.keep [2] []] rfl tt_ ?_
  cases h
  exact AK.done (ex_ [_] (an_ (an_ rfl tt_) (gives tt_)))
theorem Qme : ∀(fuel:Nat) (e1:Qg) {r:Int},QdU fuel e1=some r→Qc Tryz.prog 202 [.agg (Qm e1)] [] (Gives (.i .i64 r) [])
 | 0,_,_,h=>by cases h
 | n+1,e1,_,h=>Qqe (QdU n) (fun _ _ h=>Qme n _ h) e1 h
theorem QrI (e1:Qg){r:Int}(h:QmJ e1=some r):Qc Tryz.prog 202 [.agg (Qm e1)] [] (Gives (.i .i64 r) []):=Qme _ e1 h
def Qe8 (e1:Qg)(rec_expr_Size:Qg→Option Int)(n3:Int)(x4:Int):Option ((Int×Int)⊕Int):=
 bif (decide (x4<(e1.Kids.length:Int)))then
 (idx e1.Kids x4).bind fun e9=>
 (rec_expr_Size e9).bind fun x10=>
 some (.inl ((w64 (n3+x10)),(w64 (x4+1))))
 else
 some (.inr n3)
def Qjf (n7:Int):Option Int:=
 some n7
def Qj3 (rec_expr_Size:Qg→Option Int)(e1:Qg):Option Int:=
 (QA (fun st=>Qe8 e1 rec_expr_Size st.1 st.2) (1,0)).bind (fun q=>Qjf q)
def Qey : Nat→Qg→Option Int
 | 0,_=>none
 | n+1,e1=>Qj3 (Qey n) e1
def QnF (e1:Qg):Option Int:=Qey (SizeOf.sizeOf e1) e1
theorem QqV (rec_expr_Size:Qg→Option Int)(hrec_expr_Size:∀(e1:Qg) {r:Int},rec_expr_Size e1=some r→Qc Tryz.prog 203 [.agg (Qm e1)] [] (Gives (.i .i64 r) []))(e1:Qg){r:Int}(h:Qj3 rec_expr_Size e1=some r):Qc Tryz.prog 203 [.agg (Qm e1)] [] (Gives (.i .i64 r) []):=by
 refine Qc.walk 19 Tryz.func203 rfl Tryz.ntmps203 rfl fun C hC=>?_
 unfold Qj3 at h
 refine Qa hC [.n 16,.o (.ln e1.Kids.length),.n 4,.keep [3,7,8,9] []] rfl ⟨tt_,Qjd _⟩ ?_
 obtain⟨n7,hl11,h⟩:=Qb h
 refine AK.loop (body:=(fun st=>Qe8 e1 rec_expr_Size st.1 st.2)) (fun st σ=>σ=⟨[(3,.i .i64 st.1),(7,.sl 3 (Qa1 e1.Kids)),(8,.i .i64 (e1.Kids.length:Int)),(9,.i .i64 st.2)],[]⟩) (fun q e σ=>e=.exit 0∧σ=⟨[(3,.i .i64 q)],[]⟩) hl11 rfl ?_ ?_
 ·rintro ⟨n3,x4⟩ o σ rfl h
  replace h:Qe8 e1 rec_expr_Size n3 x4=some o:=h
  unfold Qe8 at h
  refine Qa hC [.n 6] rfl tt_ ?_
  rcases bifE h with⟨hc8,h⟩|⟨hc8,h⟩
  ·obtain⟨e9,he9,h⟩:=Qb h
   obtain⟨x10,hx10,h⟩:=Qb h
   refine Qa hC [.br true,.n 6,.o (.row (Qm e9)),.v .no [] (.agg (Qm e9)),.n 2,.sayO 5 (.var (Qm e9)),.n 4,.v .no [] (.agg (Qm e9)),.o (.c false [.d] (.i .i64 x10)),.n 9,.keep [3,7,8,9] []] rfl ⟨⟨⟨⟨⟨⟨tt_,hc8⟩,(Qd0 he9)⟩,rfl⟩,rfl⟩,rfl⟩,(hrec_expr_Size _ hx10)⟩ ?_
   cases h
   exact rndN rfl rfl
  ·refine Qa hC [.br false,.n 2,.keep [3] []] rfl ⟨tt_,hc8⟩ ?_
   cases h
   exact rndX rfl (an_ rfl rfl)
 ·replace h:Qjf n7=some r:=h
  unfold Qjf at h
  rintro e σ ⟨rfl,rfl⟩
  refine Qa hC [.n 9,.keep [2] []] rfl tt_ ?_
  cases h
  exact AK.done (ex_ [_] (an_ (an_ rfl tt_) (gives tt_)))
theorem QmK : ∀(fuel:Nat) (e1:Qg) {r:Int},Qey fuel e1=some r→Qc Tryz.prog 203 [.agg (Qm e1)] [] (Gives (.i .i64 r) [])
 | 0,_,_,h=>by cases h
 | n+1,e1,_,h=>QqV (Qey n) (fun _ _ h=>QmK n _ h) e1 h
theorem Qsq (e1:Qg){r:Int}(h:QnF e1=some r):Qc Tryz.prog 203 [.agg (Qm e1)] [] (Gives (.i .i64 r) []):=QmK _ e1 h
def Qe9 (kind1:Int)(x6:Bool):Option Int:=
 bif x6 then
 some 1
 else
 bif (kind1==5)then
 some 2
 else
 bif (kind1==6)then
 some 3
 else
 some (-1)
def Qfa (kind1:Int)(x4:Bool):Option Int:=
 bif x4 then
 some 0
 else
 bif (kind1==3)then
 Qe9 kind1 (kind1==3)
 else
 Qe9 kind1 (kind1==4)
def QjN (kind1:Int):Option Int:=
 bif (kind1==1)then
 Qfa kind1 (kind1==1)
 else
 Qfa kind1 (kind1==2)
theorem Qsr (kind1:Int){r:Int}(h:QjN kind1=some r):Qc Tryz.prog 240 [.i .i64 kind1] [] (Gives (.i .i64 r) []):=by
 refine Qc.walk 14 Tryz.func240 rfl Tryz.ntmps240 rfl fun C hC=>?_
 unfold QjN at h
 refine Qa hC [.n 12] rfl tt_ ?_
 refine AK.meet (fun σ=>∃x4:Bool,σ=⟨[(3,.i .i64 kind1),(4,.b x4)],[]⟩∧Qfa kind1 x4=some r) ?_ ?_
 ·refine Qa hC [.n 6] rfl tt_ ?_
  rcases bifE h with⟨hc11,h⟩|⟨hc11,h⟩
  ·refine Qa hC [.br true,.n 1,.keep [3,4] []] rfl ⟨tt_,hc11⟩ ?_
   exact AK.met (ex_ _ (an_ rfl h))
  ·refine Qa hC [.br false,.n 4,.keep [3,4] []] rfl ⟨tt_,hc11⟩ ?_
   exact AK.met (ex_ _ (an_ rfl h))
 ·rintro σ ⟨x4,rfl,h⟩
  unfold Qfa at h
  rcases bifE h with⟨hc5,h⟩|⟨hc5,h⟩
  ·refine Qa hC [.br true,.n 8,.keep [2] []] rfl ⟨tt_,hc5⟩ ?_
   cases h
   exact AK.done (ex_ [_] (an_ (an_ rfl tt_) (gives tt_)))
  ·refine Qa hC [.br false] rfl ⟨tt_,hc5⟩ ?_
   refine AK.meet (fun σ=>∃x6:Bool,σ=⟨[(3,.i .i64 kind1),(7,.b x6)],[]⟩∧Qe9 kind1 x6=some r) ?_ ?_
   ·refine Qa hC [.n 6] rfl tt_ ?_
    rcases bifE h with⟨hc10,h⟩|⟨hc10,h⟩
    ·refine Qa hC [.br true,.n 1,.keep [3,7] []] rfl ⟨tt_,hc10⟩ ?_
     exact AK.met (ex_ _ (an_ rfl h))
    ·refine Qa hC [.br false,.n 4,.keep [3,7] []] rfl ⟨tt_,hc10⟩ ?_
     exact AK.met (ex_ _ (an_ rfl h))
   ·rintro σ ⟨x6,rfl,h⟩
    unfold Qe9 at h
    rcases bifE h with⟨hc7,h⟩|⟨hc7,h⟩
    ·refine Qa hC [.br true,.n 8,.keep [2] []] rfl ⟨tt_,hc7⟩ ?_
     cases h
     exact AK.done (ex_ [_] (an_ (an_ rfl tt_) (gives tt_)))
    ·refine Qa hC [.br false,.n 6] rfl ⟨tt_,hc7⟩ ?_
     rcases bifE h with⟨hc8,h⟩|⟨hc8,h⟩
     ·refine Qa hC [.br true,.n 8,.keep [2] []] rfl ⟨tt_,hc8⟩ ?_
      cases h
      exact AK.done (ex_ [_] (an_ (an_ rfl tt_) (gives tt_)))
     ·refine Qa hC [.br false,.n 6] rfl ⟨tt_,hc8⟩ ?_
      rcases bifE h with⟨hc9,h⟩|⟨hc9,h⟩
      ·refine Qa hC [.br true,.n 8,.keep [2] []] rfl ⟨tt_,hc9⟩ ?_
       cases h
       exact AK.done (ex_ [_] (an_ (an_ rfl tt_) (gives tt_)))
      ·refine Qa hC [.br false,.n 9,.keep [2] []] rfl ⟨tt_,hc9⟩ ?_
       cases h
       exact AK.done (ex_ [_] (an_ (an_ rfl tt_) (gives tt_)))
def QiS (op1:Int):Option Bool:=
 some ((decide (1≤op1))&&(decide (op1≤11)))
theorem QrJ (op1:Int){r:Bool}(h:QiS op1=some r):Qc Tryz.prog 241 [.i .i64 op1] [] (Gives (.b r) []):=by
 refine Qc.walk 9 Tryz.func241 rfl Tryz.ntmps241 rfl fun C hC=>?_
 unfold QiS at h
 refine Qa hC [.n 6] rfl tt_ ?_
 refine AK.meetX (fun σ=>σ=⟨[(2,.b ((decide (1≤op1))&&(decide (op1≤11))))],[]⟩) ?_ ?_
 ·refine Qa hC [.n 4] rfl tt_ ?_
  rcases QN (decide (1≤op1))with hc4 | hc4
  ·refine Qa hC [.say 5 (.b true),.n 5,.say 2 (.b ((decide (1≤op1))&&(decide (op1≤11)))),.keep [2] []] rfl ⟨⟨tt_,(congrArg V.b hc4)⟩,(congrArg V.b (andT hc4 rfl))⟩ ?_
   exact AK.met rfl
  ·refine Qa hC [.say 5 (.b false),.n 5,.say 2 (.b ((decide (1≤op1))&&(decide (op1≤11)))),.keep [2] []] rfl ⟨⟨tt_,(congrArg V.b hc4)⟩,(congrArg V.b (andF hc4 rfl))⟩ ?_
   exact AK.met rfl
 ·rintro σ rfl
  refine Qa hC [.n 2,.keep [2] []] rfl tt_ ?_
  cases h
  exact AK.done (ex_ [_] (an_ (an_ rfl tt_) (gives tt_)))
def Qjg (rec_expr_parts:Qg→Int→Option Bool)(k1:Qg)(v2:Int):Option Bool:=
 (rec_expr_parts k1 v2).bind fun x4=>
 some (!x4)
theorem Qqf (rec_expr_parts:Qg→Int→Option Bool)(hrec_expr_parts:∀(e1:Qg) (vars2:Int) {r:Bool},rec_expr_parts e1 vars2=some r→Qc Tryz.prog 204 [.agg (Qm e1),.i .i64 vars2] [] (Gives (.b r) []))(k1:Qg)(v2:Int){r:Bool}(h:Qjg rec_expr_parts k1 v2=some r):Qc Tryz.prog 243 [.agg (Qm k1),.loc 200000 0 0] [(200000,.var (Qe v2))] (Gives (.b r) [(200000,.var (Qe v2))]):=by
 refine Qc.walk 8 Tryz.func243 rfl Tryz.ntmps243 rfl fun C hC=>?_
 unfold Qjg at h
 obtain⟨x4,hx4,h⟩:=Qb h
 refine Qa hC [.n 8,.v .no [] (.agg (Qm k1)),.n 1,.o (.c false [.d,.d] (.b x4)),.n 5,.keep [3] [200000]] rfl ⟨⟨tt_,rfl⟩,(hrec_expr_parts _ _ hx4)⟩ ?_
 cases h
 exact AK.done (ex_ [_] (an_ (an_ rfl tt_) (gives ⟨rfl,tt_⟩)))
def QU (s1:(List Qg))(rec_expr_parts:Qg→Int→Option Bool)(v2:Int)(x5:Int):Option (Int⊕(Int⊕Unit)):=
 bif (decide (x5<(s1.length:Int)))then
 (idx s1 x5).bind fun e9=>
 (Qjg rec_expr_parts e9 v2).bind fun x10=>
 bif x10 then
 some (.inr (.inl x5))
 else
 some (.inl (w64 (x5+1)))
 else
 some (.inr (.inr ()))
def QbD (x7:Int):Option Int:=
 some x7
def QbE : Option Int:=
 some (-1)
def Qa2 (rec_expr_parts:Qg→Int→Option Bool)(s1:(List Qg))(v2:Int):Option Int:=
 (QA (fun st=>QU s1 rec_expr_parts v2 st) 0).bind (Sum.elim (fun q=>QbD q) (fun q=>QbE))
theorem Qh6 (rec_expr_parts:Qg→Int→Option Bool)(hrec_expr_parts:∀(e1:Qg) (vars2:Int) {r:Bool},rec_expr_parts e1 vars2=some r→Qc Tryz.prog 204 [.agg (Qm e1),.i .i64 vars2] [] (Gives (.b r) []))(s1:(List Qg))(v2:Int){r:Int}(h:Qa2 rec_expr_parts s1 v2=some r):Qc Tryz.prog 258 [.sl 3 (Qa1 s1),.clo (.func 243) [] [.loc 200000 0 0]] [(200000,.var (Qe v2))] (Gives (.i .i64 r) [(200000,.var (Qe v2))]):=by
 refine Qc.walk 19 Tryz.func258 rfl Tryz.ntmps258 rfl fun C hC=>?_
 unfold Qa2 at h
 refine Qa hC [.n 9,.o (.ln s1.length),.n 4,.keep [0,1,7,8] [200000]] rfl ⟨tt_,Qjd _⟩ ?_
 obtain⟨o12,hl12,h⟩:=Qb h
 refine AK.loop (body:=(fun st=>QU s1 rec_expr_parts v2 st)) (fun st σ=>σ=⟨[(0,.sl 3 (Qa1 s1)),(1,.clo (.func 243) [] [.loc 200000 0 0]),(7,.i .i64 (s1.length:Int)),(8,.i .i64 st)],[(200000,.var (Qe v2))]⟩) (Sum.elim (fun q e σ=>e=.ret∧σ=⟨[(4,.i .i64 q)],[(200000,.var (Qe v2))]⟩) (fun q e σ=>e=.exit 0∧σ=⟨[],[(200000,.var (Qe v2))]⟩)) hl12 rfl ?_ ?_
 ·rintro x5 o σ rfl h
  replace h:QU s1 rec_expr_parts v2 x5=some o:=h
  unfold QU at h
  refine Qa hC [.n 6] rfl tt_ ?_
  rcases bifE h with⟨hc8,h⟩|⟨hc8,h⟩
  ·obtain⟨e9,he9,h⟩:=Qb h
   obtain⟨x10,hx10,h⟩:=Qb h
   refine Qa hC [.br true,.n 15,.o (.row (Qm e9)),.v .no [] (.agg (Qm e9)),.cm (.clo) [(200000,200000)] [(200000,200000)] [] [.d,.d] [(200000,.var (Qe v2))] (.b x10),.n 2] rfl ⟨⟨⟨⟨tt_,hc8⟩,(Qd0 he9)⟩,rfl⟩,(Qqf rec_expr_parts hrec_expr_parts _ _ hx10)⟩ ?_
   rcases bifE h with⟨hc11,h⟩|⟨hc11,h⟩
   ·refine Qa hC [.br true,.n 9,.keep [4] [200000]] rfl ⟨tt_,hc11⟩ ?_
    cases h
    exact rndR rfl (an_ rfl rfl)
   ·refine Qa hC [.br false,.n 7,.keep [0,1,7,8] [200000]] rfl ⟨tt_,hc11⟩ ?_
    cases h
    exact rndN rfl rfl
  ·refine Qa hC [.br false,.n 2,.keep [] [200000]] rfl ⟨tt_,hc8⟩ ?_
   cases h
   exact rndX rfl (an_ rfl rfl)
 ·rcases o12 with(x7 | _)
  ·replace h:QbD x7=some r:=h
   unfold QbD at h
   rintro e σ ⟨rfl,rfl⟩
   refine Qa hC [.n 2,.keep [4] [200000]] rfl tt_ ?_
   cases h
   exact AK.done (ex_ [_] (an_ (an_ rfl tt_) (gives ⟨rfl,tt_⟩)))
  ·replace h:QbE=some r:=h
   unfold QbE at h
   rintro e σ ⟨rfl,rfl⟩
   refine Qa hC [.n 8,.keep [4] [200000]] rfl tt_ ?_
   cases h
   exact AK.done (ex_ [_] (an_ (an_ rfl tt_) (gives ⟨rfl,tt_⟩)))
def Qad (rec_expr_parts:Qg→Int→Option Bool)(s1:(List Qg))(v2:Int):Option Bool:=
 (Qa2 rec_expr_parts s1 v2).bind fun x4=>
 some (decide (0≤x4))
theorem Qhe (rec_expr_parts:Qg→Int→Option Bool)(hrec_expr_parts:∀(e1:Qg) (vars2:Int) {r:Bool},rec_expr_parts e1 vars2=some r→Qc Tryz.prog 204 [.agg (Qm e1),.i .i64 vars2] [] (Gives (.b r) []))(s1:(List Qg))(v2:Int){r:Bool}(h:Qad rec_expr_parts s1 v2=some r):Qc Tryz.prog 242 [.sl 3 (Qa1 s1),.clo (.func 243) [] [.loc 200000 0 0]] [(200000,.var (Qe v2))] (Gives (.b r) [(200000,.var (Qe v2))]):=by
 refine Qc.walk 9 Tryz.func242 rfl Tryz.ntmps242 rfl fun C hC=>?_
 unfold Qad at h
 obtain⟨x4,hx4,h⟩:=Qb h
 refine Qa hC [.n 9,.cm (.fn) [(200000,200000)] [(200000,200000)] [] [.d,.d] [(200000,.var (Qe v2))] (.i .i64 x4),.n 5,.keep [4] [200000]] rfl ⟨tt_,(Qh6 rec_expr_parts hrec_expr_parts _ _ hx4)⟩ ?_
 cases h
 exact AK.done (ex_ [_] (an_ (an_ rfl tt_) (gives ⟨rfl,tt_⟩)))
def QkS (e1:Qg):Option Bool:=
 bif (e1.Kind==5)then
 (QiS e1.Num).bind fun x14=>
 some (!x14)
 else
 some false
def Qgo (rec_expr_parts:Qg→Int→Option Bool)(e1:Qg)(vars2:Int)(x11:Bool):Option Bool:=
 bif x11 then
 some false
 else
 (Qad rec_expr_parts e1.Kids vars2).bind fun x16=>
 some (!x16)
def Qjh (rec_expr_parts:Qg→Int→Option Bool)(e1:Qg)(vars2:Int):Option Bool:=
 (QjN e1.Kind).bind fun x5=>
 bif ((e1.Kids.length:Int) != x5)then
 some false
 else
 bif ((e1.Kind==2)&&((decide (e1.Num<0))||(decide (vars2≤e1.Num))))then
 some false
 else
 (QkS e1).bind (fun x11=>Qgo rec_expr_parts e1 vars2 x11)
def QdV : Nat→Qg→Int→Option Bool
 | 0,_,_=>none
 | n+1,e1,vars2=>Qjh (QdV n) e1 vars2
def QmL (e1:Qg)(vars2:Int):Option Bool:=QdV (SizeOf.sizeOf e1) e1 vars2
theorem Qqg (rec_expr_parts:Qg→Int→Option Bool)(hrec_expr_parts:∀(e1:Qg) (vars2:Int) {r:Bool},rec_expr_parts e1 vars2=some r→Qc Tryz.prog 204 [.agg (Qm e1),.i .i64 vars2] [] (Gives (.b r) []))(e1:Qg)(vars2:Int){r:Bool}(h:Qjh rec_expr_parts e1 vars2=some r):Qc Tryz.prog 204 [.agg (Qm e1),.i .i64 vars2] [] (Gives (.b r) []):=by
 refine Qc.walk 43 Tryz.func204 rfl Tryz.ntmps204 rfl fun C hC=>?_
 unfold Qjh at h
 obtain⟨x5,hx5,h⟩:=Qb h
 refine Qa hC [.n 10,.keep [2,3] [2,3]] rfl tt_ ?_
 refine AK.draw2 Qo hC mixed [.a .no none false,.a .no none false,.a (.ln e1.Kids.length) none false,.a .no none false,.a .no none false,.a (.c false [.d] (.i .i64 x5)) none false,.a .no none false,.a .no none false] [] [] [2,3,5] [2,3] rfl rfl rfl ⟨⟨tt_,Qjd _⟩,(Qsr _ hx5)⟩ rfl (by kernel_rfl) rfl rfl rfl ?_
 refine Qa hC [.n 1] rfl tt_ ?_
 rcases bifE h with⟨hc6,h⟩|⟨hc6,h⟩
 ·refine Qa hC [.br true,.n 8,.keep [4] []] rfl ⟨tt_,hc6⟩ ?_
  cases h
  exact AK.done (ex_ [_] (an_ (an_ rfl tt_) (gives tt_)))
 ·refine Qa hC [.br false,.n 1] rfl ⟨tt_,hc6⟩ ?_
  refine AK.meetX (fun σ=>σ=⟨[(2,.loc 2 0 0),(3,.loc 3 0 0),(13,.b ((e1.Kind==2)&&((decide (e1.Num<0))||(decide (vars2≤e1.Num)))))],[(2,.var (Qm e1)),(3,.var (Qe vars2))]⟩) ?_ ?_
  ·refine Qa hC [.n 5] rfl tt_ ?_
   rcases QN (e1.Kind==2)with hc8 | hc8
   ·refine Qa hC [.say 17 (.b true),.n 4] rfl ⟨tt_,(congrArg V.b hc8)⟩ ?_
    rcases QN (decide (e1.Num<0))with hc9 | hc9
    ·refine Qa hC [.say 21 (.b true),.n 8,.say 13 (.b ((e1.Kind==2)&&((decide (e1.Num<0))||(decide (vars2≤e1.Num))))),.keep [2,3,13] [2,3]] rfl ⟨⟨tt_,(congrArg V.b hc9)⟩,(congrArg V.b (andT hc8 (orT hc9 rfl)))⟩ ?_
     exact AK.met rfl
    ·refine Qa hC [.say 21 (.b false),.n 8,.say 13 (.b ((e1.Kind==2)&&((decide (e1.Num<0))||(decide (vars2≤e1.Num))))),.keep [2,3,13] [2,3]] rfl ⟨⟨tt_,(congrArg V.b hc9)⟩,(congrArg V.b (andT hc8 (orF hc9 rfl)))⟩ ?_
     exact AK.met rfl
   ·refine Qa hC [.say 17 (.b false),.n 12,.say 13 (.b ((e1.Kind==2)&&((decide (e1.Num<0))||(decide (vars2≤e1.Num))))),.keep [2,3,13] [2,3]] rfl ⟨⟨tt_,(congrArg V.b hc8)⟩,(congrArg V.b (andF hc8 rfl))⟩ ?_
    exact AK.met rfl
  ·rintro σ rfl
   refine Qa hC [.n 1] rfl tt_ ?_
   rcases bifE h with⟨hc10,h⟩|⟨hc10,h⟩
   ·refine Qa hC [.br true,.n 8,.keep [4] []] rfl ⟨tt_,hc10⟩ ?_
    cases h
    exact AK.done (ex_ [_] (an_ (an_ rfl tt_) (gives tt_)))
   ·refine Qa hC [.br false,.n 1] rfl ⟨tt_,hc10⟩ ?_
    obtain⟨x11,hv12,h⟩:=Qb h
    replace h:Qgo rec_expr_parts e1 vars2 x11=some r:=h
    refine AK.meetX (fun σ=>σ=⟨[(2,.loc 2 0 0),(3,.loc 3 0 0),(28,.b x11)],[(2,.var (Qm e1)),(3,.var (Qe vars2))]⟩) ?_ ?_
    ·replace h:=hv12
     unfold QkS at h
     refine Qa hC [.n 5] rfl tt_ ?_
     rcases bifE h with⟨hc13,h⟩|⟨hc13,h⟩
     ·obtain⟨x14,hx14,h⟩:=Qb h
      refine Qa hC [.say 32 (.b true),.n 2,.o (.c false [.d] (.b x14)),.n 4,.keep [2,3,28] [2,3]] rfl ⟨⟨tt_,(congrArg V.b hc13)⟩,(QrJ _ hx14)⟩ ?_
      cases h
      exact AK.met rfl
     ·refine Qa hC [.say 32 (.b false),.n 7,.keep [2,3,28] [2,3]] rfl ⟨tt_,(congrArg V.b hc13)⟩ ?_
      cases h
      exact AK.met rfl
    ·rintro σ rfl
     replace h:Qgo rec_expr_parts e1 vars2 x11=some r:=h
     unfold Qgo at h
     refine Qa hC [.n 1] rfl tt_ ?_
     rcases bifE h with⟨hc15,h⟩|⟨hc15,h⟩
     ·refine Qa hC [.br true,.n 8,.keep [4] []] rfl ⟨tt_,hc15⟩ ?_
      cases h
      exact AK.done (ex_ [_] (an_ (an_ rfl tt_) (gives tt_)))
     ·obtain⟨x16,hx16,h⟩:=Qb h
      refine Qa hC [.br false,.n 8,.cm (.fn) [(200000,3)] [(3,200000)] [] [.d,.d] [(200000,.var (Qe vars2))] (.b x16),.n 5,.keep [4] []] rfl ⟨⟨tt_,hc15⟩,(Qhe rec_expr_parts hrec_expr_parts _ _ hx16)⟩ ?_
      cases h
      exact AK.done (ex_ [_] (an_ (an_ rfl tt_) (gives tt_)))
theorem Qmf : ∀(fuel:Nat) (e1:Qg) (vars2:Int) {r:Bool},QdV fuel e1 vars2=some r→Qc Tryz.prog 204 [.agg (Qm e1),.i .i64 vars2] [] (Gives (.b r) [])
 | 0,_,_,_,h=>by cases h
 | n+1,e1,vars2,_,h=>Qqg (QdV n) (fun _ _ _ h=>Qmf n _ _ h) e1 vars2 h
theorem QrK (e1:Qg)(vars2:Int){r:Bool}(h:QmL e1 vars2=some r):Qc Tryz.prog 204 [.agg (Qm e1),.i .i64 vars2] [] (Gives (.b r) []):=Qmf _ e1 vars2 h
def QkT (e1:Qg)(vars2:Int):Option Bool:=
 (QmJ e1).bind fun x6=>
 bif (decide (x6≤40))then
 (QnF e1).bind fun x8=>
 bif (decide (x8≤400))then
 (QmL e1 vars2).bind fun x10=>
 some x10
 else
 some false
 else
 some false
def QiC (x4:Bool):Option Bool:=
 some x4
def Qfu (e1:Qg)(vars2:Int):Option Bool:=
 (QkT e1 vars2).bind (fun x4=>QiC x4)
theorem QkU (e1:Qg)(vars2:Int){r:Bool}(h:Qfu e1 vars2=some r):Qc Tryz.prog 139 [.agg (Qm e1),.i .i64 vars2] [] (Gives (.b r) []):=by
 refine Qc.walk 18 Tryz.func139 rfl Tryz.ntmps139 rfl fun C hC=>?_
 unfold Qfu at h
 refine Qa hC [.n 7] rfl tt_ ?_
 obtain⟨x4,hv5,h⟩:=Qb h
 replace h:QiC x4=some r:=h
 refine AK.meetX (fun σ=>σ=⟨[(4,.b x4)],[]⟩) ?_ ?_
 ·replace h:=hv5
  unfold QkT at h
  obtain⟨x6,hx6,h⟩:=Qb h
  refine Qa hC [.n 1,.v .no [] (.agg (Qm e1)),.o (.c false [.d] (.i .i64 x6)),.n 2] rfl ⟨⟨tt_,rfl⟩,(QrI _ hx6)⟩ ?_
  rcases bifE h with⟨hc7,h⟩|⟨hc7,h⟩
  ·obtain⟨x8,hx8,h⟩:=Qb h
   refine Qa hC [.say 8 (.b true),.v .no [] (.agg (Qm e1)),.o (.c false [.d] (.i .i64 x8)),.n 3] rfl ⟨⟨⟨tt_,(congrArg V.b hc7)⟩,rfl⟩,(Qsq _ hx8)⟩ ?_
   rcases bifE h with⟨hc9,h⟩|⟨hc9,h⟩
   ·obtain⟨x10,hx10,h⟩:=Qb h
    refine Qa hC [.say 13 (.b true),.v .no [] (.agg (Qm e1)),.n 1,.o (.c false [.d,.d] (.b x10)),.n 3,.keep [4] []] rfl ⟨⟨⟨tt_,(congrArg V.b hc9)⟩,rfl⟩,(QrK _ _ hx10)⟩ ?_
    cases h
    exact AK.met rfl
   ·refine Qa hC [.say 13 (.b false),.n 6,.keep [4] []] rfl ⟨tt_,(congrArg V.b hc9)⟩ ?_
    cases h
    exact AK.met rfl
  ·refine Qa hC [.say 8 (.b false),.n 11,.keep [4] []] rfl ⟨tt_,(congrArg V.b hc7)⟩ ?_
   cases h
   exact AK.met rfl
 ·rintro σ rfl
  replace h:QiC x4=some r:=h
  unfold QiC at h
  refine Qa hC [.n 2,.keep [4] []] rfl tt_ ?_
  cases h
  exact AK.done (ex_ [_] (an_ (an_ rfl tt_) (gives tt_)))
def Qbt (v1:(List Int))(kind2:Int)(x10:Bool):Option ((List Int)⊕((List Int)⊕((List Int)⊕((List Int)⊕(List Int))))):=
 bif x10 then
 some (.inr (.inr (.inl v1)))
 else
 bif (kind2==5)then
 some (.inr (.inr (.inr (.inl v1))))
 else
 some (.inr (.inr (.inr (.inr v1))))
def QbP (v1:(List Int))(kind2:Int):Option ((List Int)⊕((List Int)⊕((List Int)⊕((List Int)⊕(List Int))))):=
 bif (kind2==1)then
 some (.inl v1)
 else
 bif (kind2==2)then
 some (.inr (.inl v1))
 else
 bif (kind2==3)then
 Qbt v1 kind2 (kind2==3)
 else
 Qbt v1 kind2 (kind2==4)
theorem Qd8 (v1:(List Int))(kind2:Int){r:((List Int)⊕((List Int)⊕((List Int)⊕((List Int)⊕(List Int)))))}(h:QbP v1 kind2=some r):Qc Tryz.prog 205 [.sl 1 (v1.map Qe),.i .i64 kind2] [] ((Sum.elim (fun q=>(Gives (.clo (.func 244) [.sl 1 (q.map Qe)] []) [])) (Sum.elim (fun q=>(Gives (.clo (.func 245) [.sl 1 (q.map Qe)] []) [])) (Sum.elim (fun q=>(Gives (.clo (.func 246) [.sl 1 (q.map Qe)] []) [])) (Sum.elim (fun q=>(Gives (.clo (.func 247) [.sl 1 (q.map Qe)] []) [])) (fun q=>(Gives (.clo (.func 248) [.sl 1 (q.map Qe)] []) [])))))) r):=by
 refine Qc.walk 25 Tryz.func205 rfl Tryz.ntmps205 rfl fun C hC=>?_
 unfold QbP at h
 refine Qa hC [.n 18] rfl tt_ ?_
 rcases bifE h with⟨hc8,h⟩|⟨hc8,h⟩
 ·refine Qa hC [.br true,.n 10,.keep [4] []] rfl ⟨tt_,hc8⟩ ?_
  cases h
  exact AK.done (ex_ [_] (an_ (an_ rfl tt_) (gives tt_)))
 ·refine Qa hC [.br false,.n 6] rfl ⟨tt_,hc8⟩ ?_
  rcases bifE h with⟨hc9,h⟩|⟨hc9,h⟩
  ·refine Qa hC [.br true,.n 10,.keep [4] []] rfl ⟨tt_,hc9⟩ ?_
   cases h
   exact AK.done (ex_ [_] (an_ (an_ rfl tt_) (gives tt_)))
  ·refine Qa hC [.br false] rfl ⟨tt_,hc9⟩ ?_
   refine AK.meet (fun σ=>∃x10:Bool,σ=⟨[(0,.sl 1 (v1.map Qe)),(5,.i .i64 kind2),(14,.b x10)],[]⟩∧Qbt v1 kind2 x10=some r) ?_ ?_
   ·refine Qa hC [.n 6] rfl tt_ ?_
    rcases bifE h with⟨hc13,h⟩|⟨hc13,h⟩
    ·refine Qa hC [.br true,.n 1,.keep [0,5,14] []] rfl ⟨tt_,hc13⟩ ?_
     exact AK.met (ex_ _ (an_ rfl h))
    ·refine Qa hC [.br false,.n 4,.keep [0,5,14] []] rfl ⟨tt_,hc13⟩ ?_
     exact AK.met (ex_ _ (an_ rfl h))
   ·rintro σ ⟨x10,rfl,h⟩
    unfold Qbt at h
    rcases bifE h with⟨hc11,h⟩|⟨hc11,h⟩
    ·refine Qa hC [.br true,.n 10,.keep [4] []] rfl ⟨tt_,hc11⟩ ?_
     cases h
     exact AK.done (ex_ [_] (an_ (an_ rfl tt_) (gives tt_)))
    ·refine Qa hC [.br false,.n 6] rfl ⟨tt_,hc11⟩ ?_
     rcases bifE h with⟨hc12,h⟩|⟨hc12,h⟩
     ·refine Qa hC [.br true,.n 10,.keep [4] []] rfl ⟨tt_,hc12⟩ ?_
      cases h
      exact AK.done (ex_ [_] (an_ (an_ rfl tt_) (gives tt_)))
     ·refine Qa hC [.br false,.n 11,.keep [4] []] rfl ⟨tt_,hc12⟩ ?_
      cases h
      exact AK.done (ex_ [_] (an_ (an_ rfl tt_) (gives tt_)))
def Qjy (v1:(List Int))(e2:Qg):Option (Int×Int):=
 some (e2.Num,0)
theorem Qoy (v1:(List Int))(e2:Qg){r:(Int×Int)}(h:Qjy v1 e2=some r):Qc Tryz.prog 244 [.sl 1 (v1.map Qe),.agg (Qm e2)] [] (Gives (.tup [.i .i64 r.1,.i .i64 r.2]) []):=by
 refine Qc.walk 8 Tryz.func244 rfl Tryz.ntmps244 rfl fun C hC=>?_
 unfold Qjy at h
 refine Qa hC [.n 16,.keep [4,5] []] rfl tt_ ?_
 cases h
 exact AK.done (ex_ [_,_] (an_ (an_ rfl (an_ rfl tt_)) (gives tt_)))
def QfY (v1:(List Int))(e2:Qg):Option (Int×Int):=
 (idx v1 e2.Num).bind fun e5=>
 some (e5,0)
theorem QnG (v1:(List Int))(e2:Qg){r:(Int×Int)}(h:QfY v1 e2=some r):Qc Tryz.prog 245 [.sl 1 (v1.map Qe),.agg (Qm e2)] [] (Gives (.tup [.i .i64 r.1,.i .i64 r.2]) []):=by
 refine Qc.walk 11 Tryz.func245 rfl Tryz.ntmps245 rfl fun C hC=>?_
 unfold QfY at h
 obtain⟨e5,he5,h⟩:=Qb h
 refine Qa hC [.n 12,.o (.row (Qe e5)),.n 6,.keep [4,5] []] rfl ⟨tt_,(idxM he5)⟩ ?_
 cases h
 exact AK.done (ex_ [_,_] (an_ (an_ rfl (an_ rfl tt_)) (gives tt_)))
def QkV (a1:Int)(b2:Int):Option (Int×Int):=
 bif (((decide (a1<0))==(decide (b2<0)))&&((decide ((w64 (a1+b2))<0)) != (decide (a1<0))))then
 some (0,6)
 else
 some ((w64 (a1+b2)),0)
theorem Qs6 (a1:Int)(b2:Int){r:(Int×Int)}(h:QkV a1 b2=some r):Qc Tryz.prog 266 [.i .i64 a1,.i .i64 b2] [] (Gives (.tup [.i .i64 r.1,.i .i64 r.2]) []):=by
 refine Qc.walk 23 Tryz.func266 rfl Tryz.ntmps266 rfl fun C hC=>?_
 unfold QkV at h
 refine Qa hC [.n 16] rfl tt_ ?_
 refine AK.meetX (fun σ=>σ=⟨[(6,.i .i64 (w64 (a1+b2))),(21,.b (((decide (a1<0))==(decide (b2<0)))&&((decide ((w64 (a1+b2))<0)) != (decide (a1<0)))))],[]⟩) ?_ ?_
 ·refine Qa hC [.n 7] rfl tt_ ?_
  rcases QN ((decide (a1<0))==(decide (b2<0)))with hc8 | hc8
  ·refine Qa hC [.say 15 (.b true),.n 7,.say 21 (.b (((decide (a1<0))==(decide (b2<0)))&&((decide ((w64 (a1+b2))<0)) != (decide (a1<0))))),.keep [6,21] []] rfl ⟨⟨tt_,(congrArg V.b hc8)⟩,(congrArg V.b (andT hc8 rfl))⟩ ?_
   exact AK.met rfl
  ·refine Qa hC [.say 15 (.b false),.n 7,.say 21 (.b (((decide (a1<0))==(decide (b2<0)))&&((decide ((w64 (a1+b2))<0)) != (decide (a1<0))))),.keep [6,21] []] rfl ⟨⟨tt_,(congrArg V.b hc8)⟩,(congrArg V.b (andF hc8 rfl))⟩ ?_
   exact AK.met rfl
 ·rintro σ rfl
  refine Qa hC [.n 1] rfl tt_ ?_
  rcases bifE h with⟨hc9,h⟩|⟨hc9,h⟩
  ·refine Qa hC [.br true,.n 8,.keep [4,5] []] rfl ⟨tt_,hc9⟩ ?_
   cases h
   exact AK.done (ex_ [_,_] (an_ (an_ rfl (an_ rfl tt_)) (gives tt_)))
  ·refine Qa hC [.br false,.n 10,.keep [4,5] []] rfl ⟨tt_,hc9⟩ ?_
   cases h
   exact AK.done (ex_ [_,_] (an_ (an_ rfl (an_ rfl tt_)) (gives tt_)))
def QeG (a1:Int)(b2:Int):Option (Int×Int):=
 bif (((decide (a1<0)) != (decide (b2<0)))&&((decide ((w64 (a1-b2))<0)) != (decide (a1<0))))then
 some (0,6)
 else
 some ((w64 (a1-b2)),0)
theorem Qoz (a1:Int)(b2:Int){r:(Int×Int)}(h:QeG a1 b2=some r):Qc Tryz.prog 267 [.i .i64 a1,.i .i64 b2] [] (Gives (.tup [.i .i64 r.1,.i .i64 r.2]) []):=by
 refine Qc.walk 23 Tryz.func267 rfl Tryz.ntmps267 rfl fun C hC=>?_
 unfold QeG at h
 refine Qa hC [.n 16] rfl tt_ ?_
 refine AK.meetX (fun σ=>σ=⟨[(6,.i .i64 (w64 (a1-b2))),(21,.b (((decide (a1<0)) != (decide (b2<0)))&&((decide ((w64 (a1-b2))<0)) != (decide (a1<0)))))],[]⟩) ?_ ?_
 ·refine Qa hC [.n 7] rfl tt_ ?_
  rcases QN ((decide (a1<0)) != (decide (b2<0)))with hc8 | hc8
  ·refine Qa hC [.say 15 (.b true),.n 7,.say 21 (.b (((decide (a1<0)) != (decide (b2<0)))&&((decide ((w64 (a1-b2))<0)) != (decide (a1<0))))),.keep [6,21] []] rfl ⟨⟨tt_,(congrArg V.b hc8)⟩,(congrArg V.b (andT hc8 rfl))⟩ ?_
   exact AK.met rfl
  ·refine Qa hC [.say 15 (.b false),.n 7,.say 21 (.b (((decide (a1<0)) != (decide (b2<0)))&&((decide ((w64 (a1-b2))<0)) != (decide (a1<0))))),.keep [6,21] []] rfl ⟨⟨tt_,(congrArg V.b hc8)⟩,(congrArg V.b (andF hc8 rfl))⟩ ?_
   exact AK.met rfl
 ·rintro σ rfl
  refine Qa hC [.n 1] rfl tt_ ?_
  rcases bifE h with⟨hc9,h⟩|⟨hc9,h⟩
  ·refine Qa hC [.br true,.n 8,.keep [4,5] []] rfl ⟨tt_,hc9⟩ ?_
   cases h
   exact AK.done (ex_ [_,_] (an_ (an_ rfl (an_ rfl tt_)) (gives tt_)))
  ·refine Qa hC [.br false,.n 10,.keep [4,5] []] rfl ⟨tt_,hc9⟩ ?_
   cases h
   exact AK.done (ex_ [_,_] (an_ (an_ rfl (an_ rfl tt_)) (gives tt_)))
def Qil (a1:Int):Option Int:=
 bif (decide (a1<0))then
 some (IntKind.u64.wrap (0-(IntKind.u64.wrap a1)))
 else
 some (IntKind.u64.wrap a1)
theorem QnX (a1:Int){r:Int}(h:Qil a1=some r):Qc Tryz.prog 274 [.i .i64 a1] [] (Gives (.i .u64 r) []):=by
 refine Qc.walk 10 Tryz.func274 rfl Tryz.ntmps274 rfl fun C hC=>?_
 unfold Qil at h
 refine Qa hC [.n 12] rfl tt_ ?_
 rcases bifE h with⟨hc4,h⟩|⟨hc4,h⟩
 ·refine Qa hC [.br true,.n 3,.o (.any (.i .u64 (IntKind.u64.wrap a1)) none),.n 6,.keep [2] []] rfl ⟨⟨tt_,hc4⟩,(fun σ h1 h2 _=>Stp.convI rfl rfl (bleN hC.n rfl) (h1 _ _ rfl) it_3 Qpu)⟩ ?_
  cases h
  exact AK.done (ex_ [_] (an_ (an_ rfl tt_) (gives tt_)))
 ·refine Qa hC [.br false,.n 5,.o (.any (.i .u64 (IntKind.u64.wrap a1)) none),.n 4,.keep [2] []] rfl ⟨⟨tt_,hc4⟩,(fun σ h1 h2 _=>Stp.convI rfl rfl (bleN hC.n rfl) (h1 _ _ rfl) it_3 Qpu)⟩ ?_
  cases h
  exact AK.done (ex_ [_] (an_ (an_ rfl tt_) (gives tt_)))
def QeH (p1:Int)(y2:Int):Option (Int×Int):=
 some ((IntKind.u64.wrap ((IntKind.u64.wrap ((IntKind.u64.wrap ((shrI .u64 p1 32)*(shrI .u64 y2 32)))+(shrI .u64 (IntKind.u64.wrap ((IntKind.u64.wrap ((shrI .u64 p1 32)*(andI .u64 y2 4294967295)))+(shrI .u64 (IntKind.u64.wrap ((andI .u64 p1 4294967295)*(andI .u64 y2 4294967295))) 32))) 32)))+(shrI .u64 (IntKind.u64.wrap ((andI .u64 (IntKind.u64.wrap ((IntKind.u64.wrap ((shrI .u64 p1 32)*(andI .u64 y2 4294967295)))+(shrI .u64 (IntKind.u64.wrap ((andI .u64 p1 4294967295)*(andI .u64 y2 4294967295))) 32))) 4294967295)+(IntKind.u64.wrap ((andI .u64 p1 4294967295)*(shrI .u64 y2 32))))) 32))),(IntKind.u64.wrap (p1*y2)))
theorem QoA (p1:Int)(y2:Int){r:(Int×Int)}(h:QeH p1 y2=some r):Qc Tryz.prog 273 [.i .u64 p1,.i .u64 y2] [] (Gives (.tup [.i .u64 r.1,.i .u64 r.2]) []):=by
 refine Qc.walk 51 Tryz.func273 rfl Tryz.ntmps273 rfl fun C hC=>?_
 unfold QeH at h
 refine Qa hC [.n 9,.o (.any (.i .u64 (andI .u64 p1 4294967295)) none),.n 6,.o (.any (.i .u64 (shrI .u64 p1 32)) none),.n 6,.o (.any (.i .u64 (andI .u64 y2 4294967295)) none),.n 6,.o (.any (.i .u64 (shrI .u64 y2 32)) none),.n 17,.o (.any (.i .u64 (shrI .u64 (IntKind.u64.wrap ((andI .u64 p1 4294967295)*(andI .u64 y2 4294967295))) 32)) none),.n 7,.o (.any (.i .u64 (andI .u64 (IntKind.u64.wrap ((IntKind.u64.wrap ((shrI .u64 p1 32)*(andI .u64 y2 4294967295)))+(shrI .u64 (IntKind.u64.wrap ((andI .u64 p1 4294967295)*(andI .u64 y2 4294967295))) 32))) 4294967295)) none),.n 6,.o (.any (.i .u64 (shrI .u64 (IntKind.u64.wrap ((IntKind.u64.wrap ((shrI .u64 p1 32)*(andI .u64 y2 4294967295)))+(shrI .u64 (IntKind.u64.wrap ((andI .u64 p1 4294967295)*(andI .u64 y2 4294967295))) 32))) 32)) none),.n 21,.o (.any (.i .u64 (shrI .u64 (IntKind.u64.wrap ((andI .u64 (IntKind.u64.wrap ((IntKind.u64.wrap ((shrI .u64 p1 32)*(andI .u64 y2 4294967295)))+(shrI .u64 (IntKind.u64.wrap ((andI .u64 p1 4294967295)*(andI .u64 y2 4294967295))) 32))) 4294967295)+(IntKind.u64.wrap ((andI .u64 p1 4294967295)*(shrI .u64 y2 32))))) 32)) none),.n 13,.keep [4,5] []] rfl ⟨⟨⟨⟨⟨⟨⟨⟨tt_,(fun σ h1 h2 _=>Stp.andB rfl rfl (bleN hC.n rfl) (h1 _ _ rfl) (h1 _ _ rfl))⟩,(fun σ h1 h2 _=>Stp.shr rfl rfl (bleN hC.n rfl) (h1 _ _ rfl) (h1 _ _ rfl) (by decide))⟩,(fun σ h1 h2 _=>Stp.andB rfl rfl (bleN hC.n rfl) (h1 _ _ rfl) (h1 _ _ rfl))⟩,(fun σ h1 h2 _=>Stp.shr rfl rfl (bleN hC.n rfl) (h1 _ _ rfl) (h1 _ _ rfl) (by decide))⟩,(fun σ h1 h2 _=>Stp.shr rfl rfl (bleN hC.n rfl) (h1 _ _ rfl) (h1 _ _ rfl) (by decide))⟩,(fun σ h1 h2 _=>Stp.andB rfl rfl (bleN hC.n rfl) (h1 _ _ rfl) (h1 _ _ rfl))⟩,(fun σ h1 h2 _=>Stp.shr rfl rfl (bleN hC.n rfl) (h1 _ _ rfl) (h1 _ _ rfl) (by decide))⟩,(fun σ h1 h2 _=>Stp.shr rfl rfl (bleN hC.n rfl) (h1 _ _ rfl) (h1 _ _ rfl) (by decide))⟩ ?_
 cases h
 exact AK.done (ex_ [_,_] (an_ (an_ rfl (an_ rfl tt_)) (gives tt_)))
def Qdw (x9:(Int×Int))(a1:Int)(b2:Int)(most10:Int):Option (Int×Int):=
 bif ((decide (0<x9.1))||(decide (most10<x9.2)))then
 some (0,6)
 else
 some ((w64 (a1*b2)),0)
def Qhf (a1:Int)(b2:Int):Option (Int×Int):=
 (Qil a1).bind fun x7=>
 (Qil b2).bind fun x8=>
 (QeH x7 x8).bind fun x9=>
 bif ((decide (a1<0)) != (decide (b2<0)))then
 Qdw x9 a1 b2 (IntKind.u64.wrap (9223372036854775807+1))
 else
 Qdw x9 a1 b2 9223372036854775807
theorem Qqh (a1:Int)(b2:Int){r:(Int×Int)}(h:Qhf a1 b2=some r):Qc Tryz.prog 268 [.i .i64 a1,.i .i64 b2] [] (Gives (.tup [.i .i64 r.1,.i .i64 r.2]) []):=by
 refine Qc.walk 34 Tryz.func268 rfl Tryz.ntmps268 rfl fun C hC=>?_
 unfold Qhf at h
 obtain⟨x7,hx7,h⟩:=Qb h
 obtain⟨x8,hx8,h⟩:=Qb h
 obtain⟨x9,hx9,h⟩:=Qb h
 refine Qa hC [.n 9,.o (.c false [.d] (.i .u64 x7)),.n 1,.o (.c false [.d] (.i .u64 x8)),.o (.c false [.d,.d] (.tup [.i .u64 x9.1,.i .u64 x9.2])),.n 12] rfl ⟨⟨⟨tt_,(QnX _ hx7)⟩,(QnX _ hx8)⟩,(QoA _ _ hx9)⟩ ?_
 refine AK.meet (fun σ=>∃most10:Int,σ=⟨[(0,.i .i64 a1),(1,.i .i64 b2),(6,.i .u64 x9.1),(7,.i .u64 x9.2),(8,.i .u64 most10)],[]⟩∧Qdw x9 a1 b2 most10=some r) ?_ ?_
 ·refine Qa hC [.n 9] rfl tt_ ?_
  rcases bifE h with⟨hc14,h⟩|⟨hc14,h⟩
  ·refine Qa hC [.br true,.n 5,.keep [0,1,6,7,8] []] rfl ⟨tt_,hc14⟩ ?_
   exact AK.met (ex_ _ (an_ rfl h))
  ·refine Qa hC [.br false,.n 1,.keep [0,1,6,7,8] []] rfl ⟨tt_,hc14⟩ ?_
   exact AK.met (ex_ _ (an_ rfl h))
 ·rintro σ ⟨most10,rfl,h⟩
  unfold Qdw at h
  refine Qa hC [.n 2] rfl tt_ ?_
  refine AK.meetX (fun σ=>σ=⟨[(0,.i .i64 a1),(1,.i .i64 b2),(30,.b ((decide (0<x9.1))||(decide (most10<x9.2))))],[]⟩) ?_ ?_
  ·refine Qa hC [.n 4] rfl tt_ ?_
   rcases QN (decide (0<x9.1))with hc12 | hc12
   ·refine Qa hC [.say 26 (.b true),.n 5,.say 30 (.b ((decide (0<x9.1))||(decide (most10<x9.2)))),.keep [0,1,30] []] rfl ⟨⟨tt_,(congrArg V.b hc12)⟩,(congrArg V.b (orT hc12 rfl))⟩ ?_
    exact AK.met rfl
   ·refine Qa hC [.say 26 (.b false),.n 5,.say 30 (.b ((decide (0<x9.1))||(decide (most10<x9.2)))),.keep [0,1,30] []] rfl ⟨⟨tt_,(congrArg V.b hc12)⟩,(congrArg V.b (orF hc12 rfl))⟩ ?_
    exact AK.met rfl
  ·rintro σ rfl
   refine Qa hC [.n 1] rfl tt_ ?_
   rcases bifE h with⟨hc13,h⟩|⟨hc13,h⟩
   ·refine Qa hC [.br true,.n 8,.keep [4,5] []] rfl ⟨tt_,hc13⟩ ?_
    cases h
    exact AK.done (ex_ [_,_] (an_ (an_ rfl (an_ rfl tt_)) (gives tt_)))
   ·refine Qa hC [.br false,.n 12,.keep [4,5] []] rfl ⟨tt_,hc13⟩ ?_
    cases h
    exact AK.done (ex_ [_,_] (an_ (an_ rfl (an_ rfl tt_)) (gives tt_)))
def Qej (a1:Int)(b2:Int):Option (Int×Int×Int):=
 bif (b2==0)then
 some (0,0,7)
 else
 bif ((a1==(-9223372036854775808))&&(b2==(-1)))then
 some (0,0,6)
 else
 (chk (b2 != 0)).bind fun _=>
 (chk (b2 != 0)).bind fun _=>
 some ((w64 (Int.tdiv a1 b2)),(Int.tmod a1 b2),0)
theorem QlS (a1:Int)(b2:Int){r:(Int×Int×Int)}(h:Qej a1 b2=some r):Qc Tryz.prog 269 [.i .i64 a1,.i .i64 b2] [] (Gives (.tup [.i .i64 r.1,.i .i64 r.2.1,.i .i64 r.2.2]) []):=by
 refine Qc.walk 23 Tryz.func269 rfl Tryz.ntmps269 rfl fun C hC=>?_
 unfold Qej at h
 refine Qa hC [.n 16] rfl tt_ ?_
 rcases bifE h with⟨hc9,h⟩|⟨hc9,h⟩
 ·refine Qa hC [.br true,.n 10,.keep [4,5,6] []] rfl ⟨tt_,hc9⟩ ?_
  cases h
  exact AK.done (ex_ [_,_,_] (an_ (an_ rfl (an_ rfl (an_ rfl tt_))) (gives tt_)))
 ·refine Qa hC [.br false,.n 1] rfl ⟨tt_,hc9⟩ ?_
  refine AK.meetX (fun σ=>σ=⟨[(0,.i .i64 a1),(1,.i .i64 b2),(10,.b ((a1==(-9223372036854775808))&&(b2==(-1))))],[]⟩) ?_ ?_
  ·refine Qa hC [.n 4] rfl tt_ ?_
   rcases QN (a1==(-9223372036854775808))with hc11 | hc11
   ·refine Qa hC [.say 13 (.b true),.n 5,.say 10 (.b ((a1==(-9223372036854775808))&&(b2==(-1)))),.keep [0,1,10] []] rfl ⟨⟨tt_,(congrArg V.b hc11)⟩,(congrArg V.b (andT hc11 rfl))⟩ ?_
    exact AK.met rfl
   ·refine Qa hC [.say 13 (.b false),.n 5,.say 10 (.b ((a1==(-9223372036854775808))&&(b2==(-1)))),.keep [0,1,10] []] rfl ⟨⟨tt_,(congrArg V.b hc11)⟩,(congrArg V.b (andF hc11 rfl))⟩ ?_
    exact AK.met rfl
  ·rintro σ rfl
   refine Qa hC [.n 1] rfl tt_ ?_
   rcases bifE h with⟨hc12,h⟩|⟨hc12,h⟩
   ·refine Qa hC [.br true,.n 10,.keep [4,5,6] []] rfl ⟨tt_,hc12⟩ ?_
    cases h
    exact AK.done (ex_ [_,_,_] (an_ (an_ rfl (an_ rfl (an_ rfl tt_))) (gives tt_)))
   ·obtain⟨_,hk13,h⟩:=Qb h
    replace hk13:=chkE hk13
    obtain⟨_,hk14,h⟩:=Qb h
    replace hk14:=chkE hk14
    refine Qa hC [.br false,.n 4,.keep [0,1] []] rfl ⟨tt_,hc12⟩ ?_
    refine AK.draw2 Qo hC mixed [.a .no none false,.a .no none false,.a .no none false,.a .no none false,.a .no none false,.a .no none false,.a .no none false,.a .no none false,.a .no none false] [] [] [4,5,6] [] rfl rfl rfl ⟨⟨tt_,(neZ hk13)⟩,(neZ hk14)⟩ rfl (by kernel_rfl) rfl rfl rfl ?_
    refine Qa hC [.n 2,.keep [4,5,6] []] rfl tt_ ?_
    cases h
    exact AK.done (ex_ [_,_,_] (an_ (an_ rfl (an_ rfl (an_ rfl tt_))) (gives tt_)))
def QcF (is1:Bool):Option (Int×Int):=
 bif is1 then
 some (1,0)
 else
 some (0,0)
theorem Qdz (is1:Bool){r:(Int×Int)}(h:QcF is1=some r):Qc Tryz.prog 270 [.b is1] [] (Gives (.tup [.i .i64 r.1,.i .i64 r.2]) []):=by
 refine Qc.walk 5 Tryz.func270 rfl Tryz.ntmps270 rfl fun C hC=>?_
 unfold QcF at h
 refine Qa hC [.n 12] rfl tt_ ?_
 rcases bifE h with⟨hc5,h⟩|⟨hc5,h⟩
 ·refine Qa hC [.br true,.n 8,.keep [2,3] []] rfl ⟨tt_,hc5⟩ ?_
  cases h
  exact AK.done (ex_ [_,_] (an_ (an_ rfl (an_ rfl tt_)) (gives tt_)))
 ·refine Qa hC [.br false,.n 9,.keep [2,3] []] rfl ⟨tt_,hc5⟩ ?_
  cases h
  exact AK.done (ex_ [_,_] (an_ (an_ rfl (an_ rfl tt_)) (gives tt_)))
def QmM (a2:Int)(b3:Int):Option (Int×Int):=
 bif (a2 != 0)then
 (QcF (b3 != 0)).bind fun x31=>
 some (x31.1,x31.2)
 else
 (QcF false).bind fun x32=>
 some (x32.1,x32.2)
def QiT (x27:Int)(x28:Int):Option (Int×Int):=
 some (x27,x28)
def QmN (a2:Int)(b3:Int):Option (Int×Int):=
 bif (a2 != 0)then
 (QcF true).bind fun x38=>
 some (x38.1,x38.2)
 else
 (QcF (b3 != 0)).bind fun x39=>
 some (x39.1,x39.2)
def QiU (x34:Int)(x35:Int):Option (Int×Int):=
 some (x34,x35)
def QhF (op1:Int)(a2:Int)(b3:Int):Option (Int×Int):=
 bif (op1==1)then
 (QkV a2 b3).bind fun x9=>
 some (x9.1,x9.2)
 else
 bif (op1==2)then
 (QeG a2 b3).bind fun x11=>
 some (x11.1,x11.2)
 else
 bif (op1==3)then
 (Qhf a2 b3).bind fun x13=>
 some (x13.1,x13.2)
 else
 bif (op1==4)then
 (Qej a2 b3).bind fun x15=>
 some (x15.1,x15.2.2)
 else
 bif (op1==5)then
 (Qej a2 b3).bind fun x17=>
 some (x17.2.1,x17.2.2)
 else
 bif (op1==6)then
 (QcF (a2==b3)).bind fun x19=>
 some (x19.1,x19.2)
 else
 bif (op1==7)then
 (QcF (a2 != b3)).bind fun x21=>
 some (x21.1,x21.2)
 else
 bif (op1==8)then
 (QcF (decide (a2<b3))).bind fun x23=>
 some (x23.1,x23.2)
 else
 bif (op1==9)then
 (QcF (decide (a2≤b3))).bind fun x25=>
 some (x25.1,x25.2)
 else
 bif (op1==10)then
 (QmM a2 b3).bind (fun v=>QiT v.1 v.2)
 else
 bif (op1==11)then
 (QmN a2 b3).bind (fun v=>QiU v.1 v.2)
 else
 some (0,1)
theorem QkW (op1:Int)(a2:Int)(b3:Int){r:(Int×Int)}(h:QhF op1 a2 b3=some r):Qc Tryz.prog 260 [.i .i64 op1,.i .i64 a2,.i .i64 b3] [] (Gives (.tup [.i .i64 r.1,.i .i64 r.2]) []):=by
 refine Qc.walk 112 Tryz.func260 rfl Tryz.ntmps260 rfl fun C hC=>?_
 unfold QhF at h
 refine Qa hC [.n 19] rfl tt_ ?_
 rcases bifE h with⟨hc8,h⟩|⟨hc8,h⟩
 ·obtain⟨x9,hx9,h⟩:=Qb h
  refine Qa hC [.br true,.n 4,.o (.c false [.d,.d] (.tup [.i .i64 x9.1,.i .i64 x9.2])),.n 9,.keep [6,7] []] rfl ⟨⟨tt_,hc8⟩,(Qs6 _ _ hx9)⟩ ?_
  cases h
  exact AK.done (ex_ [_,_] (an_ (an_ rfl (an_ rfl tt_)) (gives tt_)))
 ·refine Qa hC [.br false,.n 6] rfl ⟨tt_,hc8⟩ ?_
  rcases bifE h with⟨hc10,h⟩|⟨hc10,h⟩
  ·obtain⟨x11,hx11,h⟩:=Qb h
   refine Qa hC [.br true,.n 4,.o (.c false [.d,.d] (.tup [.i .i64 x11.1,.i .i64 x11.2])),.n 9,.keep [6,7] []] rfl ⟨⟨tt_,hc10⟩,(Qoz _ _ hx11)⟩ ?_
   cases h
   exact AK.done (ex_ [_,_] (an_ (an_ rfl (an_ rfl tt_)) (gives tt_)))
  ·refine Qa hC [.br false,.n 6] rfl ⟨tt_,hc10⟩ ?_
   rcases bifE h with⟨hc12,h⟩|⟨hc12,h⟩
   ·obtain⟨x13,hx13,h⟩:=Qb h
    refine Qa hC [.br true,.n 4,.o (.c false [.d,.d] (.tup [.i .i64 x13.1,.i .i64 x13.2])),.n 9,.keep [6,7] []] rfl ⟨⟨tt_,hc12⟩,(Qqh _ _ hx13)⟩ ?_
    cases h
    exact AK.done (ex_ [_,_] (an_ (an_ rfl (an_ rfl tt_)) (gives tt_)))
   ·refine Qa hC [.br false,.n 6] rfl ⟨tt_,hc12⟩ ?_
    rcases bifE h with⟨hc14,h⟩|⟨hc14,h⟩
    ·obtain⟨x15,hx15,h⟩:=Qb h
     refine Qa hC [.br true,.n 4,.o (.c false [.d,.d] (.tup [.i .i64 x15.1,.i .i64 x15.2.1,.i .i64 x15.2.2])),.n 20,.keep [6,7] []] rfl ⟨⟨tt_,hc14⟩,(QlS _ _ hx15)⟩ ?_
     cases h
     exact AK.done (ex_ [_,_] (an_ (an_ rfl (an_ rfl tt_)) (gives tt_)))
    ·refine Qa hC [.br false,.n 6] rfl ⟨tt_,hc14⟩ ?_
     rcases bifE h with⟨hc16,h⟩|⟨hc16,h⟩
     ·obtain⟨x17,hx17,h⟩:=Qb h
      refine Qa hC [.br true,.n 4,.o (.c false [.d,.d] (.tup [.i .i64 x17.1,.i .i64 x17.2.1,.i .i64 x17.2.2])),.n 20,.keep [6,7] []] rfl ⟨⟨tt_,hc16⟩,(QlS _ _ hx17)⟩ ?_
      cases h
      exact AK.done (ex_ [_,_] (an_ (an_ rfl (an_ rfl tt_)) (gives tt_)))
     ·refine Qa hC [.br false,.n 6] rfl ⟨tt_,hc16⟩ ?_
      rcases bifE h with⟨hc18,h⟩|⟨hc18,h⟩
      ·obtain⟨x19,hx19,h⟩:=Qb h
       refine Qa hC [.br true,.n 5,.o (.c false [.d] (.tup [.i .i64 x19.1,.i .i64 x19.2])),.n 9,.keep [6,7] []] rfl ⟨⟨tt_,hc18⟩,(Qdz _ hx19)⟩ ?_
       cases h
       exact AK.done (ex_ [_,_] (an_ (an_ rfl (an_ rfl tt_)) (gives tt_)))
      ·refine Qa hC [.br false,.n 6] rfl ⟨tt_,hc18⟩ ?_
       rcases bifE h with⟨hc20,h⟩|⟨hc20,h⟩
       ·obtain⟨x21,hx21,h⟩:=Qb h
        refine Qa hC [.br true,.n 5,.o (.c false [.d] (.tup [.i .i64 x21.1,.i .i64 x21.2])),.n 9,.keep [6,7] []] rfl ⟨⟨tt_,hc20⟩,(Qdz _ hx21)⟩ ?_
        cases h
        exact AK.done (ex_ [_,_] (an_ (an_ rfl (an_ rfl tt_)) (gives tt_)))
       ·refine Qa hC [.br false,.n 6] rfl ⟨tt_,hc20⟩ ?_
        rcases bifE h with⟨hc22,h⟩|⟨hc22,h⟩
        ·obtain⟨x23,hx23,h⟩:=Qb h
         refine Qa hC [.br true,.n 5,.o (.c false [.d] (.tup [.i .i64 x23.1,.i .i64 x23.2])),.n 9,.keep [6,7] []] rfl ⟨⟨tt_,hc22⟩,(Qdz _ hx23)⟩ ?_
         cases h
         exact AK.done (ex_ [_,_] (an_ (an_ rfl (an_ rfl tt_)) (gives tt_)))
        ·refine Qa hC [.br false,.n 6] rfl ⟨tt_,hc22⟩ ?_
         rcases bifE h with⟨hc24,h⟩|⟨hc24,h⟩
         ·obtain⟨x25,hx25,h⟩:=Qb h
          refine Qa hC [.br true,.n 5,.o (.c false [.d] (.tup [.i .i64 x25.1,.i .i64 x25.2])),.n 9,.keep [6,7] []] rfl ⟨⟨tt_,hc24⟩,(Qdz _ hx25)⟩ ?_
          cases h
          exact AK.done (ex_ [_,_] (an_ (an_ rfl (an_ rfl tt_)) (gives tt_)))
         ·refine Qa hC [.br false,.n 6] rfl ⟨tt_,hc24⟩ ?_
          rcases bifE h with⟨hc26,h⟩|⟨hc26,h⟩
          ·refine Qa hC [.br true,.n 1] rfl ⟨tt_,hc26⟩ ?_
           obtain⟨v,hv29,h⟩:=Qb h
           replace h:QiT v.1 v.2=some r:=h
           refine AK.meetX (fun σ=>σ=⟨[(6,.i .i64 v.1),(7,.i .i64 v.2)],[]⟩) ?_ ?_
           ·replace h:=hv29
            unfold QmM at h
            refine Qa hC [.n 4] rfl tt_ ?_
            rcases bifE h with⟨hc30,h⟩|⟨hc30,h⟩
            ·obtain⟨x31,hx31,h⟩:=Qb h
             refine Qa hC [.say 94 (.b true),.n 3,.o (.c false [.d] (.tup [.i .i64 x31.1,.i .i64 x31.2])),.n 5,.keep [6,7] []] rfl ⟨⟨tt_,(congrArg V.b hc30)⟩,(Qdz _ hx31)⟩ ?_
             cases h
             exact AK.met rfl
            ·obtain⟨x32,hx32,h⟩:=Qb h
             refine Qa hC [.say 94 (.b false),.n 3,.o (.c false [.d] (.tup [.i .i64 x32.1,.i .i64 x32.2])),.n 5,.keep [6,7] []] rfl ⟨⟨tt_,(congrArg V.b hc30)⟩,(Qdz _ hx32)⟩ ?_
             cases h
             exact AK.met rfl
           ·rintro σ rfl
            obtain⟨x27,x28⟩:=v
            replace h:QiT x27 x28=some r:=h
            unfold QiT at h
            refine Qa hC [.n 4,.keep [6,7] []] rfl tt_ ?_
            cases h
            exact AK.done (ex_ [_,_] (an_ (an_ rfl (an_ rfl tt_)) (gives tt_)))
          ·refine Qa hC [.br false,.n 6] rfl ⟨tt_,hc26⟩ ?_
           rcases bifE h with⟨hc33,h⟩|⟨hc33,h⟩
           ·refine Qa hC [.br true,.n 1] rfl ⟨tt_,hc33⟩ ?_
            obtain⟨v,hv36,h⟩:=Qb h
            replace h:QiU v.1 v.2=some r:=h
            refine AK.meetX (fun σ=>σ=⟨[(6,.i .i64 v.1),(7,.i .i64 v.2)],[]⟩) ?_ ?_
            ·replace h:=hv36
             unfold QmN at h
             refine Qa hC [.n 4] rfl tt_ ?_
             rcases bifE h with⟨hc37,h⟩|⟨hc37,h⟩
             ·obtain⟨x38,hx38,h⟩:=Qb h
              refine Qa hC [.say 105 (.b true),.n 3,.o (.c false [.d] (.tup [.i .i64 x38.1,.i .i64 x38.2])),.n 5,.keep [6,7] []] rfl ⟨⟨tt_,(congrArg V.b hc37)⟩,(Qdz _ hx38)⟩ ?_
              cases h
              exact AK.met rfl
             ·obtain⟨x39,hx39,h⟩:=Qb h
              refine Qa hC [.say 105 (.b false),.n 3,.o (.c false [.d] (.tup [.i .i64 x39.1,.i .i64 x39.2])),.n 5,.keep [6,7] []] rfl ⟨⟨tt_,(congrArg V.b hc37)⟩,(Qdz _ hx39)⟩ ?_
              cases h
              exact AK.met rfl
            ·rintro σ rfl
             obtain⟨x34,x35⟩:=v
             replace h:QiU x34 x35=some r:=h
             unfold QiU at h
             refine Qa hC [.n 4,.keep [6,7] []] rfl tt_ ?_
             cases h
             exact AK.done (ex_ [_,_] (an_ (an_ rfl (an_ rfl tt_)) (gives tt_)))
           ·refine Qa hC [.br false,.n 10,.keep [6,7] []] rfl ⟨tt_,hc33⟩ ?_
            cases h
            exact AK.done (ex_ [_,_] (an_ (an_ rfl (an_ rfl tt_)) (gives tt_)))
def QkX (a1:Int):Option (Int×Int):=
 (QhF 2 0 a1).bind fun x4=>
 some (x4.1,x4.2)
theorem Qs7 (a1:Int){r:(Int×Int)}(h:QkX a1=some r):Qc Tryz.prog 259 [.i .i64 a1] [] (Gives (.tup [.i .i64 r.1,.i .i64 r.2]) []):=by
 refine Qc.walk 8 Tryz.func259 rfl Tryz.ntmps259 rfl fun C hC=>?_
 unfold QkX at h
 obtain⟨x4,hx4,h⟩:=Qb h
 refine Qa hC [.n 9,.o (.c false [.d,.d,.d] (.tup [.i .i64 x4.1,.i .i64 x4.2])),.n 7,.keep [2,3] []] rfl ⟨tt_,(QkW _ _ _ hx4)⟩ ?_
 cases h
 exact AK.done (ex_ [_,_] (an_ (an_ rfl (an_ rfl tt_)) (gives tt_)))
def QeI (rec_expr_env_eval:(List Int)→Qg→Option (Int×Int))(v1:(List Int))(e2:Qg):Option (Int×Int):=
 (idx e2.Kids 0).bind fun e7=>
 (rec_expr_env_eval v1 e7).bind fun x8=>
 bif (x8.2 != 0)then
 some (0,x8.2)
 else
 bif (e2.Kind==3)then
 (QkX x8.1).bind fun x11=>
 some (x11.1,x11.2)
 else
 (QhF 6 x8.1 0).bind fun x12=>
 some (x12.1,x12.2)
theorem QoB (rec_expr_env_eval:(List Int)→Qg→Option (Int×Int))(hrec_expr_env_eval:∀(v1:(List Int)) (e2:Qg) {r:(Int×Int)},rec_expr_env_eval v1 e2=some r→Qc Tryz.prog 140 [.sl 1 (v1.map Qe),.agg (Qm e2)] [] (Gives (.tup [.i .i64 r.1,.i .i64 r.2]) []))(v1:(List Int))(e2:Qg){r:(Int×Int)}(h:QeI rec_expr_env_eval v1 e2=some r):Qc Tryz.prog 246 [.sl 1 (v1.map Qe),.agg (Qm e2)] [] (Gives (.tup [.i .i64 r.1,.i .i64 r.2]) []):=by
 refine Qc.walk 33 Tryz.func246 rfl Tryz.ntmps246 rfl fun C hC=>?_
 unfold QeI at h
 obtain⟨e7,he7,h⟩:=Qb h
 obtain⟨x8,hx8,h⟩:=Qb h
 refine Qa hC [.n 12,.o (.row (Qm e7)),.v .no [] (.agg (Qm e7)),.o (.c false [.d,.d] (.tup [.i .i64 x8.1,.i .i64 x8.2])),.n 16] rfl ⟨⟨⟨tt_,(Qd0 he7)⟩,rfl⟩,(hrec_expr_env_eval _ _ hx8)⟩ ?_
 rcases bifE h with⟨hc9,h⟩|⟨hc9,h⟩
 ·refine Qa hC [.br true,.n 10,.keep [4,5] []] rfl ⟨tt_,hc9⟩ ?_
  cases h
  exact AK.done (ex_ [_,_] (an_ (an_ rfl (an_ rfl tt_)) (gives tt_)))
 ·refine Qa hC [.br false,.n 8] rfl ⟨tt_,hc9⟩ ?_
  rcases bifE h with⟨hc10,h⟩|⟨hc10,h⟩
  ·obtain⟨x11,hx11,h⟩:=Qb h
   refine Qa hC [.br true,.n 3,.o (.c false [.d] (.tup [.i .i64 x11.1,.i .i64 x11.2])),.n 9,.keep [4,5] []] rfl ⟨⟨tt_,hc10⟩,(Qs7 _ hx11)⟩ ?_
   cases h
   exact AK.done (ex_ [_,_] (an_ (an_ rfl (an_ rfl tt_)) (gives tt_)))
  ·obtain⟨x12,hx12,h⟩:=Qb h
   refine Qa hC [.br false,.n 6,.o (.c false [.d,.d,.d] (.tup [.i .i64 x12.1,.i .i64 x12.2])),.n 7,.keep [4,5] []] rfl ⟨⟨tt_,hc10⟩,(QkW _ _ _ hx12)⟩ ?_
   cases h
   exact AK.done (ex_ [_,_] (an_ (an_ rfl (an_ rfl tt_)) (gives tt_)))
def Qco (x8:(Int×Int))(e2:Qg)(rec_expr_env_eval:(List Int)→Qg→Option (Int×Int))(v1:(List Int))(x10:Bool):Option (Int×Int):=
 bif x10 then
 (QhF 7 x8.1 0).bind fun x12=>
 some (x12.1,x12.2)
 else
 (idx e2.Kids 1).bind fun e13=>
 (rec_expr_env_eval v1 e13).bind fun x14=>
 bif (x14.2 != 0)then
 some (0,x14.2)
 else
 (QhF e2.Num x8.1 x14.1).bind fun x16=>
 some (x16.1,x16.2)
def Qji (rec_expr_env_eval:(List Int)→Qg→Option (Int×Int))(v1:(List Int))(e2:Qg):Option (Int×Int):=
 (idx e2.Kids 0).bind fun e7=>
 (rec_expr_env_eval v1 e7).bind fun x8=>
 bif (x8.2 != 0)then
 some (0,x8.2)
 else
 bif ((e2.Num==10)&&(x8.1==0))then
 Qco x8 e2 rec_expr_env_eval v1 ((e2.Num==10)&&(x8.1==0))
 else
 bif (e2.Num==11)then
 Qco x8 e2 rec_expr_env_eval v1 (x8.1 != 0)
 else
 Qco x8 e2 rec_expr_env_eval v1 false
theorem Qqi (rec_expr_env_eval:(List Int)→Qg→Option (Int×Int))(hrec_expr_env_eval:∀(v1:(List Int)) (e2:Qg) {r:(Int×Int)},rec_expr_env_eval v1 e2=some r→Qc Tryz.prog 140 [.sl 1 (v1.map Qe),.agg (Qm e2)] [] (Gives (.tup [.i .i64 r.1,.i .i64 r.2]) []))(v1:(List Int))(e2:Qg){r:(Int×Int)}(h:Qji rec_expr_env_eval v1 e2=some r):Qc Tryz.prog 247 [.sl 1 (v1.map Qe),.agg (Qm e2)] [] (Gives (.tup [.i .i64 r.1,.i .i64 r.2]) []):=by
 refine Qc.walk 60 Tryz.func247 rfl Tryz.ntmps247 rfl fun C hC=>?_
 unfold Qji at h
 obtain⟨e7,he7,h⟩:=Qb h
 obtain⟨x8,hx8,h⟩:=Qb h
 refine Qa hC [.n 12,.o (.row (Qm e7)),.v .no [] (.agg (Qm e7)),.o (.c false [.d,.d] (.tup [.i .i64 x8.1,.i .i64 x8.2])),.n 16] rfl ⟨⟨⟨tt_,(Qd0 he7)⟩,rfl⟩,(hrec_expr_env_eval _ _ hx8)⟩ ?_
 rcases bifE h with⟨hc9,h⟩|⟨hc9,h⟩
 ·refine Qa hC [.br true,.n 10,.keep [4,5] []] rfl ⟨tt_,hc9⟩ ?_
  cases h
  exact AK.done (ex_ [_,_] (an_ (an_ rfl (an_ rfl tt_)) (gives tt_)))
 ·refine Qa hC [.br false] rfl ⟨tt_,hc9⟩ ?_
  refine AK.meet (fun σ=>∃x10:Bool,σ=⟨[(0,.sl 1 (v1.map Qe)),(3,.loc 3 0 0),(6,.i .i64 x8.1),(22,.b x10)],[(3,.var (Qm e2))]⟩∧Qco x8 e2 rec_expr_env_eval v1 x10=some r) ?_ ?_
  ·refine Qa hC [.n 1] rfl tt_ ?_
   refine AK.meetX (fun σ=>σ=⟨[(0,.sl 1 (v1.map Qe)),(3,.loc 3 0 0),(6,.i .i64 x8.1),(22,.b ((e2.Num==10)&&(x8.1==0)))],[(3,.var (Qm e2))]⟩) ?_ ?_
   ·refine Qa hC [.n 5] rfl tt_ ?_
    rcases QN (e2.Num==10)with hc18 | hc18
    ·refine Qa hC [.say 26 (.b true),.n 5,.say 22 (.b ((e2.Num==10)&&(x8.1==0))),.keep [0,3,6,22] [3]] rfl ⟨⟨tt_,(congrArg V.b hc18)⟩,(congrArg V.b (andT hc18 rfl))⟩ ?_
     exact AK.met rfl
    ·refine Qa hC [.say 26 (.b false),.n 5,.say 22 (.b ((e2.Num==10)&&(x8.1==0))),.keep [0,3,6,22] [3]] rfl ⟨⟨tt_,(congrArg V.b hc18)⟩,(congrArg V.b (andF hc18 rfl))⟩ ?_
     exact AK.met rfl
   ·rintro σ rfl
    refine Qa hC [.n 1] rfl tt_ ?_
    rcases bifE h with⟨hc19,h⟩|⟨hc19,h⟩
    ·refine Qa hC [.br true,.n 1,.keep [0,3,6,22] [3]] rfl ⟨tt_,hc19⟩ ?_
     exact AK.met (ex_ _ (an_ rfl h))
    ·refine Qa hC [.br false,.n 5] rfl ⟨tt_,hc19⟩ ?_
     rcases bifE h with⟨hc20,h⟩|⟨hc20,h⟩
     ·refine Qa hC [.say 33 (.b true),.n 5,.keep [0,3,6,22] [3]] rfl ⟨tt_,(congrArg V.b hc20)⟩ ?_
      exact AK.met (ex_ _ (an_ rfl h))
     ·refine Qa hC [.say 33 (.b false),.n 5,.keep [0,3,6,22] [3]] rfl ⟨tt_,(congrArg V.b hc20)⟩ ?_
      exact AK.met (ex_ _ (an_ rfl h))
  ·rintro σ ⟨x10,rfl,h⟩
   unfold Qco at h
   rcases bifE h with⟨hc11,h⟩|⟨hc11,h⟩
   ·obtain⟨x12,hx12,h⟩:=Qb h
    refine Qa hC [.br true,.n 3,.o (.c false [.d,.d,.d] (.tup [.i .i64 x12.1,.i .i64 x12.2])),.n 9,.keep [4,5] []] rfl ⟨⟨tt_,hc11⟩,(QkW _ _ _ hx12)⟩ ?_
    cases h
    exact AK.done (ex_ [_,_] (an_ (an_ rfl (an_ rfl tt_)) (gives tt_)))
   ·obtain⟨e13,he13,h⟩:=Qb h
    obtain⟨x14,hx14,h⟩:=Qb h
    refine Qa hC [.br false,.n 8,.o (.row (Qm e13)),.v .no [] (.agg (Qm e13)),.o (.c false [.d,.d] (.tup [.i .i64 x14.1,.i .i64 x14.2])),.n 14] rfl ⟨⟨⟨⟨tt_,hc11⟩,(Qd0 he13)⟩,rfl⟩,(hrec_expr_env_eval _ _ hx14)⟩ ?_
    rcases bifE h with⟨hc15,h⟩|⟨hc15,h⟩
    ·refine Qa hC [.br true,.n 9,.keep [4,5] []] rfl ⟨tt_,hc15⟩ ?_
     cases h
     exact AK.done (ex_ [_,_] (an_ (an_ rfl (an_ rfl tt_)) (gives tt_)))
    ·obtain⟨x16,hx16,h⟩:=Qb h
     refine Qa hC [.br false,.n 8,.o (.c false [.d,.d,.d] (.tup [.i .i64 x16.1,.i .i64 x16.2])),.n 7,.keep [4,5] []] rfl ⟨⟨tt_,hc15⟩,(QkW _ _ _ hx16)⟩ ?_
     cases h
     exact AK.done (ex_ [_,_] (an_ (an_ rfl (an_ rfl tt_)) (gives tt_)))
def Qg0 (rec_expr_env_eval:(List Int)→Qg→Option (Int×Int))(v1:(List Int))(e2:Qg):Option (Int×Int):=
 (idx e2.Kids 0).bind fun e7=>
 (rec_expr_env_eval v1 e7).bind fun x8=>
 bif (x8.2 != 0)then
 some (0,x8.2)
 else
 bif (x8.1 != 0)then
 (idx e2.Kids 1).bind fun e11=>
 (rec_expr_env_eval v1 e11).bind fun x12=>
 some (x12.1,x12.2)
 else
 (idx e2.Kids 2).bind fun e13=>
 (rec_expr_env_eval v1 e13).bind fun x14=>
 some (x14.1,x14.2)
theorem QoC (rec_expr_env_eval:(List Int)→Qg→Option (Int×Int))(hrec_expr_env_eval:∀(v1:(List Int)) (e2:Qg) {r:(Int×Int)},rec_expr_env_eval v1 e2=some r→Qc Tryz.prog 140 [.sl 1 (v1.map Qe),.agg (Qm e2)] [] (Gives (.tup [.i .i64 r.1,.i .i64 r.2]) []))(v1:(List Int))(e2:Qg){r:(Int×Int)}(h:Qg0 rec_expr_env_eval v1 e2=some r):Qc Tryz.prog 248 [.sl 1 (v1.map Qe),.agg (Qm e2)] [] (Gives (.tup [.i .i64 r.1,.i .i64 r.2]) []):=by
 refine Qc.walk 40 Tryz.func248 rfl Tryz.ntmps248 rfl fun C hC=>?_
 unfold Qg0 at h
 obtain⟨e7,he7,h⟩:=Qb h
 obtain⟨x8,hx8,h⟩:=Qb h
 refine Qa hC [.n 12,.o (.row (Qm e7)),.v .no [] (.agg (Qm e7)),.o (.c false [.d,.d] (.tup [.i .i64 x8.1,.i .i64 x8.2])),.n 16] rfl ⟨⟨⟨tt_,(Qd0 he7)⟩,rfl⟩,(hrec_expr_env_eval _ _ hx8)⟩ ?_
 rcases bifE h with⟨hc9,h⟩|⟨hc9,h⟩
 ·refine Qa hC [.br true,.n 10,.keep [4,5] []] rfl ⟨tt_,hc9⟩ ?_
  cases h
  exact AK.done (ex_ [_,_] (an_ (an_ rfl (an_ rfl tt_)) (gives tt_)))
 ·refine Qa hC [.br false,.n 7] rfl ⟨tt_,hc9⟩ ?_
  rcases bifE h with⟨hc10,h⟩|⟨hc10,h⟩
  ·obtain⟨e11,he11,h⟩:=Qb h
   obtain⟨x12,hx12,h⟩:=Qb h
   refine Qa hC [.br true,.n 5,.o (.row (Qm e11)),.v .no [] (.agg (Qm e11)),.o (.c false [.d,.d] (.tup [.i .i64 x12.1,.i .i64 x12.2])),.n 9,.keep [4,5] []] rfl ⟨⟨⟨⟨tt_,hc10⟩,(Qd0 he11)⟩,rfl⟩,(hrec_expr_env_eval _ _ hx12)⟩ ?_
   cases h
   exact AK.done (ex_ [_,_] (an_ (an_ rfl (an_ rfl tt_)) (gives tt_)))
  ·obtain⟨e13,he13,h⟩:=Qb h
   obtain⟨x14,hx14,h⟩:=Qb h
   refine Qa hC [.br false,.n 8,.o (.row (Qm e13)),.v .no [] (.agg (Qm e13)),.o (.c false [.d,.d] (.tup [.i .i64 x14.1,.i .i64 x14.2])),.n 7,.keep [4,5] []] rfl ⟨⟨⟨⟨tt_,hc10⟩,(Qd0 he13)⟩,rfl⟩,(hrec_expr_env_eval _ _ hx14)⟩ ?_
   cases h
   exact AK.done (ex_ [_,_] (an_ (an_ rfl (an_ rfl tt_)) (gives tt_)))
def QiV (e2:Qg)(a8:(List Int)):Option (Int×Int):=
 (Qjy a8 e2).bind fun x13=>
 some (x13.1,x13.2)
def Qd9 (e2:Qg)(a9:(List Int)):Option (Int×Int):=
 (QfY a9 e2).bind fun x14=>
 some (x14.1,x14.2)
def Qb3 (rec_expr_env_eval:(List Int)→Qg→Option (Int×Int))(e2:Qg)(a10:(List Int)):Option (Int×Int):=
 (QeI rec_expr_env_eval a10 e2).bind fun x15=>
 some (x15.1,x15.2)
def Qea (rec_expr_env_eval:(List Int)→Qg→Option (Int×Int))(e2:Qg)(a11:(List Int)):Option (Int×Int):=
 (Qji rec_expr_env_eval a11 e2).bind fun x16=>
 some (x16.1,x16.2)
def Qeb (rec_expr_env_eval:(List Int)→Qg→Option (Int×Int))(e2:Qg)(a12:(List Int)):Option (Int×Int):=
 (Qg0 rec_expr_env_eval a12 e2).bind fun x17=>
 some (x17.1,x17.2)
def Qg1 (rec_expr_env_eval:(List Int)→Qg→Option (Int×Int))(v1:(List Int))(e2:Qg):Option (Int×Int):=
 (QbP v1 e2.Kind).bind fun x7=>
 (Sum.elim (fun q=>QiV e2 q) (Sum.elim (fun q=>Qd9 e2 q) (Sum.elim (fun q=>Qb3 rec_expr_env_eval e2 q) (Sum.elim (fun q=>Qea rec_expr_env_eval e2 q) (fun q=>Qeb rec_expr_env_eval e2 q))))) x7
def Qas : Nat→(List Int)→Qg→Option (Int×Int)
 | 0,_,_=>none
 | n+1,v1,e2=>Qg1 (Qas n) v1 e2
def QkY (v1:(List Int))(e2:Qg):Option (Int×Int):=Qas (SizeOf.sizeOf e2) v1 e2
theorem QoD (rec_expr_env_eval:(List Int)→Qg→Option (Int×Int))(hrec_expr_env_eval:∀(v1:(List Int)) (e2:Qg) {r:(Int×Int)},rec_expr_env_eval v1 e2=some r→Qc Tryz.prog 140 [.sl 1 (v1.map Qe),.agg (Qm e2)] [] (Gives (.tup [.i .i64 r.1,.i .i64 r.2]) []))(v1:(List Int))(e2:Qg){r:(Int×Int)}(h:Qg1 rec_expr_env_eval v1 e2=some r):Qc Tryz.prog 140 [.sl 1 (v1.map Qe),.agg (Qm e2)] [] (Gives (.tup [.i .i64 r.1,.i .i64 r.2]) []):=by
 refine Qc.walk 14 Tryz.func140 rfl Tryz.ntmps140 rfl fun C hC=>?_
 unfold Qg1 at h
 refine Qa hC [.n 8] rfl tt_ ?_
 obtain⟨x7,hx7,h⟩:=Qb h
 rcases x7 with(a8 | (a9 | (a10 | (a11 | a12))))
 ·replace h:QiV e2 a8=some r:=h
  unfold QiV at h
  obtain⟨x13,hx13,h⟩:=Qb h
  refine Qa hC [.keep [0,3,4,5] [3]] rfl tt_ ?_
  refine AK.draw2 Qo hC mixed [.a .no none false,.a .no none false,.a .no none false,.a (.any (.clo (.func 244) [.sl 1 (a8.map Qe)] []) none) none false,.a .no (some ([],.agg (Qm e2))) false,.a (.c false [.d,.d] (.tup [.i .i64 x13.1,.i .i64 x13.2])) none false,.a .no none false,.a .no none false,.m .s,.m .s] [] [] [4,5] [] rfl rfl rfl ⟨⟨⟨tt_,(fun σ h1 h2 _=>Stp.callSame (md:=.cm (.fn) [] [] [] [.d,.d] [] (.clo (.func 244) [.sl 1 (a8.map Qe)] []) []) Qo hC h1 h2 rfl ⟨tt_,(Qd8 _ _ hx7)⟩)⟩,rfl⟩,(Qoy _ _ hx13)⟩ rfl (by kernel_rfl) rfl rfl rfl ?_
  refine Qa hC [.n 2,.keep [4,5] []] rfl tt_ ?_
  cases h
  exact AK.done (ex_ [_,_] (an_ (an_ rfl (an_ rfl tt_)) (gives tt_)))
 ·replace h:Qd9 e2 a9=some r:=h
  unfold Qd9 at h
  obtain⟨x14,hx14,h⟩:=Qb h
  refine Qa hC [.keep [0,3,4,5] [3]] rfl tt_ ?_
  refine AK.draw2 Qo hC mixed [.a .no none false,.a .no none false,.a .no none false,.a (.any (.clo (.func 245) [.sl 1 (a9.map Qe)] []) none) none false,.a .no (some ([],.agg (Qm e2))) false,.a (.c false [.d,.d] (.tup [.i .i64 x14.1,.i .i64 x14.2])) none false,.a .no none false,.a .no none false,.m .s,.m .s] [] [] [4,5] [] rfl rfl rfl ⟨⟨⟨tt_,(fun σ h1 h2 _=>Stp.callSame (md:=.cm (.fn) [] [] [] [.d,.d] [] (.clo (.func 245) [.sl 1 (a9.map Qe)] []) []) Qo hC h1 h2 rfl ⟨tt_,(Qd8 _ _ hx7)⟩)⟩,rfl⟩,(QnG _ _ hx14)⟩ rfl (by kernel_rfl) rfl rfl rfl ?_
  refine Qa hC [.n 2,.keep [4,5] []] rfl tt_ ?_
  cases h
  exact AK.done (ex_ [_,_] (an_ (an_ rfl (an_ rfl tt_)) (gives tt_)))
 ·replace h:Qb3 rec_expr_env_eval e2 a10=some r:=h
  unfold Qb3 at h
  obtain⟨x15,hx15,h⟩:=Qb h
  refine Qa hC [.keep [0,3,4,5] [3]] rfl tt_ ?_
  refine AK.draw2 Qo hC mixed [.a .no none false,.a .no none false,.a .no none false,.a (.any (.clo (.func 246) [.sl 1 (a10.map Qe)] []) none) none false,.a .no (some ([],.agg (Qm e2))) false,.a (.c false [.d,.d] (.tup [.i .i64 x15.1,.i .i64 x15.2])) none false,.a .no none false,.a .no none false,.m .s,.m .s] [] [] [4,5] [] rfl rfl rfl ⟨⟨⟨tt_,(fun σ h1 h2 _=>Stp.callSame (md:=.cm (.fn) [] [] [] [.d,.d] [] (.clo (.func 246) [.sl 1 (a10.map Qe)] []) []) Qo hC h1 h2 rfl ⟨tt_,(Qd8 _ _ hx7)⟩)⟩,rfl⟩,(QoB rec_expr_env_eval hrec_expr_env_eval _ _ hx15)⟩ rfl (by kernel_rfl) rfl rfl rfl ?_
  refine Qa hC [.n 2,.keep [4,5] []] rfl tt_ ?_
  cases h
  exact AK.done (ex_ [_,_] (an_ (an_ rfl (an_ rfl tt_)) (gives tt_)))
 ·replace h:Qea rec_expr_env_eval e2 a11=some r:=h
  unfold Qea at h
  obtain⟨x16,hx16,h⟩:=Qb h
  refine Qa hC [.keep [0,3,4,5] [3]] rfl tt_ ?_
  refine AK.draw2 Qo hC mixed [.a .no none false,.a .no none false,.a .no none false,.a (.any (.clo (.func 247) [.sl 1 (a11.map Qe)] []) none) none false,.a .no (some ([],.agg (Qm e2))) false,.a (.c false [.d,.d] (.tup [.i .i64 x16.1,.i .i64 x16.2])) none false,.a .no none false,.a .no none false,.m .s,.m .s] [] [] [4,5] [] rfl rfl rfl ⟨⟨⟨tt_,(fun σ h1 h2 _=>Stp.callSame (md:=.cm (.fn) [] [] [] [.d,.d] [] (.clo (.func 247) [.sl 1 (a11.map Qe)] []) []) Qo hC h1 h2 rfl ⟨tt_,(Qd8 _ _ hx7)⟩)⟩,rfl⟩,(Qqi rec_expr_env_eval hrec_expr_env_eval _ _ hx16)⟩ rfl (by kernel_rfl) rfl rfl rfl ?_
  refine Qa hC [.n 2,.keep [4,5] []] rfl tt_ ?_
  cases h
  exact AK.done (ex_ [_,_] (an_ (an_ rfl (an_ rfl tt_)) (gives tt_)))
 ·replace h:Qeb rec_expr_env_eval e2 a12=some r:=h
  unfold Qeb at h
  obtain⟨x17,hx17,h⟩:=Qb h
  refine Qa hC [.keep [0,3,4,5] [3]] rfl tt_ ?_
  refine AK.draw2 Qo hC mixed [.a .no none false,.a .no none false,.a .no none false,.a (.any (.clo (.func 248) [.sl 1 (a12.map Qe)] []) none) none false,.a .no (some ([],.agg (Qm e2))) false,.a (.c false [.d,.d] (.tup [.i .i64 x17.1,.i .i64 x17.2])) none false,.a .no none false,.a .no none false,.m .s,.m .s] [] [] [4,5] [] rfl rfl rfl ⟨⟨⟨tt_,(fun σ h1 h2 _=>Stp.callSame (md:=.cm (.fn) [] [] [] [.d,.d] [] (.clo (.func 248) [.sl 1 (a12.map Qe)] []) []) Qo hC h1 h2 rfl ⟨tt_,(Qd8 _ _ hx7)⟩)⟩,rfl⟩,(QoC rec_expr_env_eval hrec_expr_env_eval _ _ hx17)⟩ rfl (by kernel_rfl) rfl rfl rfl ?_
  refine Qa hC [.n 2,.keep [4,5] []] rfl tt_ ?_
  cases h
  exact AK.done (ex_ [_,_] (an_ (an_ rfl (an_ rfl tt_)) (gives tt_)))
theorem QkZ : ∀(fuel:Nat) (v1:(List Int)) (e2:Qg) {r:(Int×Int)},Qas fuel v1 e2=some r→Qc Tryz.prog 140 [.sl 1 (v1.map Qe),.agg (Qm e2)] [] (Gives (.tup [.i .i64 r.1,.i .i64 r.2]) [])
 | 0,_,_,_,h=>by cases h
 | n+1,v1,e2,_,h=>QoD (Qas n) (fun _ _ _ h=>QkZ n _ _ h) v1 e2 h
theorem Qpx (v1:(List Int))(e2:Qg){r:(Int×Int)}(h:QkY v1 e2=some r):Qc Tryz.prog 140 [.sl 1 (v1.map Qe),.agg (Qm e2)] [] (Gives (.tup [.i .i64 r.1,.i .i64 r.2]) []):=QkZ _ v1 e2 h
def Qim (e1:Qg)(vars2:(List Int)):Option (Int×Int):=
 (Qfu e1 (vars2.length:Int)).bind fun x7=>
 bif (!x7)then
 some (0,1)
 else
 (QkY vars2 e1).bind fun x9=>
 some (x9.1,x9.2)
theorem QnY (e1:Qg)(vars2:(List Int)){r:(Int×Int)}(h:Qim e1 vars2=some r):Qc Tryz.prog 83 [.agg (Qm e1),.sl 1 (vars2.map Qe)] [] (Gives (.tup [.i .i64 r.1,.i .i64 r.2]) []):=by
 refine Qc.walk 16 Tryz.func83 rfl Tryz.ntmps83 rfl fun C hC=>?_
 unfold Qim at h
 obtain⟨x7,hx7,h⟩:=Qb h
 refine Qa hC [.n 10,.v .no [] (.agg (Qm e1)),.n 1,.o (.ln vars2.length),.o (.c false [.d,.d] (.b x7)),.n 3] rfl ⟨⟨⟨tt_,rfl⟩,Qf⟩,(QkU _ _ hx7)⟩ ?_
 rcases bifE h with⟨hc8,h⟩|⟨hc8,h⟩
 ·refine Qa hC [.br true,.n 8,.keep [4,5] []] rfl ⟨tt_,hc8⟩ ?_
  cases h
  exact AK.done (ex_ [_,_] (an_ (an_ rfl (an_ rfl tt_)) (gives tt_)))
 ·obtain⟨x9,hx9,h⟩:=Qb h
  refine Qa hC [.br false,.n 5,.v .no [] (.agg (Qm e1)),.o (.c false [.d,.d] (.tup [.i .i64 x9.1,.i .i64 x9.2])),.n 7,.keep [4,5] []] rfl ⟨⟨⟨tt_,hc8⟩,rfl⟩,(Qpx _ _ hx9)⟩ ?_
  cases h
  exact AK.done (ex_ [_,_] (an_ (an_ rfl (an_ rfl tt_)) (gives tt_)))
def Q2 (b1:QD):Option Int:=
 (Qim b1.task.Guard b1.env).bind fun x4=>
 bif (x4.2 != 0)then
 some x4.2
 else
 bif (x4.1==0)then
 some 9
 else
 some 0
theorem QiW (b1:QD){r:Int}(h:Q2 b1=some r):Qc Tryz.prog 42 [.agg (Qq b1)] [] (Gives (.i .i64 r) []):=by
 refine Qc.walk 21 Tryz.func42 rfl Tryz.ntmps42 rfl fun C hC=>?_
 unfold Q2 at h
 obtain⟨x4,hx4,h⟩:=Qb h
 refine Qa hC [.n 10,.v .no [] (.agg (Qm b1.task.Guard)),.n 2,.o (.c false [.d,.d] (.tup [.i .i64 x4.1,.i .i64 x4.2])),.n 16] rfl ⟨⟨tt_,rfl⟩,(QnY _ _ hx4)⟩ ?_
 rcases bifE h with⟨hc5,h⟩|⟨hc5,h⟩
 ·refine Qa hC [.br true,.n 9,.keep [2] []] rfl ⟨tt_,hc5⟩ ?_
  cases h
  exact AK.done (ex_ [_] (an_ (an_ rfl tt_) (gives tt_)))
 ·refine Qa hC [.br false,.n 7] rfl ⟨tt_,hc5⟩ ?_
  rcases bifE h with⟨hc6,h⟩|⟨hc6,h⟩
  ·refine Qa hC [.br true,.n 8,.keep [2] []] rfl ⟨tt_,hc6⟩ ?_
   cases h
   exact AK.done (ex_ [_] (an_ (an_ rfl tt_) (gives tt_)))
  ·refine Qa hC [.br false,.n 9,.keep [2] []] rfl ⟨tt_,hc6⟩ ?_
   cases h
   exact AK.done (ex_ [_] (an_ (an_ rfl tt_) (gives tt_)))
def Qc8 (s1:QLL):Option QLL:=
 (chk (decide (([]:List (List Int)).length+s1.length≤4294967296))).bind fun _=>
 some (([]:List (List Int))++s1)
theorem Qlt (s1:QLL){r:QLL}(h:Qc8 s1=some r):Qc Tryz.prog 79 [.sl 1 (s1.map Qz)] [] (Gives (.own 30000 r.length) [(30000,.arr 1 (r.map Qz))]):=by
 refine Qc.walk 8 Tryz.func79 rfl Tryz.ntmps79 rfl fun C hC=>?_
 unfold Qc8 at h
 refine Qa hC [.n 9] rfl tt_ ?_
 refine AK.eqNil rfl rfl rfl (bleN hC.n rfl) rfl rfl QxL ?_ ?_
 ·intro hz4
  replace h:some ([]:List (List Int))=some r:=by simpa [chk,List.map_eq_nil_iff.1 hz4] using h
  refine Qa hC [.n 10,.adopt 2 30000 1,.sayO 30000 (.arr 1 (([]:List (List Int)).map Qz)),.say 2 (.own 30000 ([]:List (List Int)).length),.keep [2] [30000]] rfl ⟨⟨tt_,rfl⟩,rfl⟩ ?_
  cases h
  exact AK.done (ex_ [_] (an_ (an_ rfl tt_) (gives ⟨rfl,tt_⟩)))
 ·obtain⟨_,hk5,h⟩:=Qb h
  replace hk5:=chkE hk5
  refine Qa hC [.n 8,.sayO 5 (.arr 1 (([]:List (List Int)).map Qz)),.say 5 (.own 5 ([]:List (List Int)).length),.n 1,.app ((([]:List (List Int))++s1).map Qz) (([]:List (List Int))++s1).length,.n 4,.keep [2] [5],.ren 5 30000,.keep [2] [30000]] rfl ⟨⟨⟨tt_,rfl⟩,rfl⟩,⟨Qf,Qdf hk5 Qf,Qcc,QeV Qf⟩⟩ ?_
  cases h
  exact AK.done (ex_ [_] (an_ (an_ rfl tt_) (gives ⟨rfl,tt_⟩)))
def Qbu (x8:(Bool×Qah))(n10:Int):Option (Int×Bool):=
 (Qb2 x8.2 n10).bind fun x11=>
 bif (!x11)then
 some (0,false)
 else
 some (n10,true)
def Qdh (l1:(List QB))(k2:Int)(n3:Int):Option (Int×Bool):=
 (Qd1 l1 k2).bind fun x8=>
 bif (!x8.1)then
 some (0,false)
 else
 (QbN x8.2).bind fun x13=>
 bif (x13.Kind==1)then
 bif ((decide (n3<x13.Lo))||(decide (x13.Hi<n3)))then
 some (0,false)
 else
 Qbu x8 (w64 (n3-x13.Lo))
 else
 Qbu x8 n3
theorem Qpy (l1:(List QB))(k2:Int)(n3:Int){r:(Int×Bool)}(h:Qdh l1 k2 n3=some r):Qc Tryz.prog 141 [.sl 7 (l1.map Qw),.i .i64 k2,.i .i64 n3] [] (Gives (.tup [.i .i64 r.1,.b r.2]) []):=by
 refine Qc.walk 43 Tryz.func141 rfl Tryz.ntmps141 rfl fun C hC=>?_
 unfold Qdh at h
 obtain⟨x8,hx8,h⟩:=Qb h
 refine Qa hC [.n 10,.o (.c false [.d,.d] (.tup [.agg (QL x8.2),.b x8.1])),.n 5,.sayO 8 (.var (QL x8.2)),.n 10] rfl ⟨⟨tt_,(Qls _ _ hx8)⟩,rfl⟩ ?_
 rcases bifE h with⟨hc9,h⟩|⟨hc9,h⟩
 ·refine Qa hC [.br true,.n 8,.keep [6,7] []] rfl ⟨tt_,hc9⟩ ?_
  cases h
  exact AK.done (ex_ [_,_] (an_ (an_ rfl (an_ rfl tt_)) (gives tt_)))
 ·refine Qa hC [.br false,.n 2] rfl ⟨tt_,hc9⟩ ?_
  refine AK.meet (fun σ=>∃n10:Int,σ=⟨[(2,.i .i64 n10),(8,.loc 8 0 0)],[(8,.var (QL x8.2))]⟩∧Qbu x8 n10=some r) ?_ ?_
  ·obtain⟨x13,hx13,h⟩:=Qb h
   refine Qa hC [.n 2,.v .no [] (.agg (QL x8.2)),.o (.c false [.d] (.agg (Qw x13))),.n 2,.sayO 10 (.var (Qw x13)),.n 9] rfl ⟨⟨⟨tt_,rfl⟩,(QgK _ hx13)⟩,rfl⟩ ?_
   rcases bifE h with⟨hc14,h⟩|⟨hc14,h⟩
   ·refine Qa hC [.br true,.n 2] rfl ⟨tt_,hc14⟩ ?_
    refine AK.meetX (fun σ=>σ=⟨[(2,.i .i64 n3),(8,.loc 8 0 0),(10,.loc 10 0 0),(33,.b ((decide (n3<x13.Lo))||(decide (x13.Hi<n3))))],[(8,.var (QL x8.2)),(10,.var (Qw x13))]⟩) ?_ ?_
    ·refine Qa hC [.n 6] rfl tt_ ?_
     rcases QN (decide (n3<x13.Lo))with hc16 | hc16
     ·refine Qa hC [.say 28 (.b true),.n 6,.say 33 (.b ((decide (n3<x13.Lo))||(decide (x13.Hi<n3)))),.keep [2,8,10,33] [8,10]] rfl ⟨⟨tt_,(congrArg V.b hc16)⟩,(congrArg V.b (orT hc16 rfl))⟩ ?_
      exact AK.met rfl
     ·refine Qa hC [.say 28 (.b false),.n 6,.say 33 (.b ((decide (n3<x13.Lo))||(decide (x13.Hi<n3)))),.keep [2,8,10,33] [8,10]] rfl ⟨⟨tt_,(congrArg V.b hc16)⟩,(congrArg V.b (orF hc16 rfl))⟩ ?_
      exact AK.met rfl
    ·rintro σ rfl
     refine Qa hC [.n 1] rfl tt_ ?_
     rcases bifE h with⟨hc17,h⟩|⟨hc17,h⟩
     ·refine Qa hC [.br true,.n 9,.keep [6,7] []] rfl ⟨tt_,hc17⟩ ?_
      cases h
      exact AK.done (ex_ [_,_] (an_ (an_ rfl (an_ rfl tt_)) (gives tt_)))
     ·refine Qa hC [.br false,.n 9,.keep [2,8] [8]] rfl ⟨tt_,hc17⟩ ?_
      exact AK.met (ex_ _ (an_ rfl h))
   ·refine Qa hC [.br false,.n 1,.keep [2,8] [8]] rfl ⟨tt_,hc14⟩ ?_
    exact AK.met (ex_ _ (an_ rfl h))
  ·rintro σ ⟨n10,rfl,h⟩
   unfold Qbu at h
   obtain⟨x11,hx11,h⟩:=Qb h
   refine Qa hC [.n 3,.v .no [] (.agg (QL x8.2)),.n 1,.o (.c false [.d,.d] (.b x11)),.n 3] rfl ⟨⟨tt_,rfl⟩,(Qlp _ _ hx11)⟩ ?_
   rcases bifE h with⟨hc12,h⟩|⟨hc12,h⟩
   ·refine Qa hC [.br true,.n 8,.keep [6,7] []] rfl ⟨tt_,hc12⟩ ?_
    cases h
    exact AK.done (ex_ [_,_] (an_ (an_ rfl (an_ rfl tt_)) (gives tt_)))
   ·refine Qa hC [.br false,.n 10,.keep [6,7] []] rfl ⟨tt_,hc12⟩ ?_
    cases h
    exact AK.done (ex_ [_,_] (an_ (an_ rfl (an_ rfl tt_)) (gives tt_)))
def QbQ (m1:QBg):Option Unit:=
 some ()
theorem QjO (m1:QBg){r:Unit}(h:QbQ m1=some r):Qc Tryz.prog 207 [.map 200000] [(200000,.map (mapV (V.i .i64) (V.i .i64) m1))] (Gives (.clo (.func 250) [] [.loc 1 0 0]) [(1,.var [.map 200000]),(200000,.map (mapV (V.i .i64) (V.i .i64) m1))]):=by
 refine Qc.walk 4 Tryz.func207 rfl Tryz.ntmps207 rfl fun C hC=>?_
 unfold QbQ at h
 refine Qa hC [.n 13,.keep [2] [1,200000]] rfl tt_ ?_
 cases h
 exact AK.done (ex_ [_] (an_ (an_ rfl tt_) (gives ⟨rfl,rfl,tt_⟩)))
def Qa5 (l1:(List Int))(p2:Int):Option (List Int):=
 (chk (decide (l1.length+([p2]:List Int).length≤4294967296))).bind fun _=>
 some (l1++([p2]:List Int))
theorem Qip (lpl lpf:Nat)(l1:(List Int))(p2:Int){r:(List Int)}(h:Qa5 l1 p2=some r):QlP Tryz.prog lpl (Qfn lpf) [.J,.J,.loc 200001 0 0,.J,.J,.J,.J,.i .i64 p2,.J,.J,.J,.J,.J] [(200000,.lp lpl (Qfn lpf) [.J,.J,.loc 200001 0 0,.J,.J,.J,.J,.J,.J,.J,.J,.J,.J] 0),(200001,.var [.own 100000 l1.length]),(100000,.arr 1 (l1.map Qe))] (Gives (.b true) [(100000,.arr 1 (r.map Qe)),(200000,.lp lpl (Qfn lpf) [.J,.J,.loc 200001 0 0,.J,.J,.J,.J,.J,.J,.J,.J,.J,.J] 0),(200001,.var [.own 100000 r.length])]):=by
 refine QlP.walk (b:=200000) 13 rfl rfl fun C hC=>?_
 unfold Qa5 at h
 refine Qa hC [.n 3] rfl tt_ ?_
 refine AK.done (an_ rfl (ex_ _ (an_ rfl ?_)))
 obtain⟨_,hk4,h⟩:=Qb h
 replace hk4:=chkE hk4
 refine Qa hC [.n 4,.v (.bd []) [] (.sl 1 (([p2]:List Int).map Qe)),.app ((l1++([p2]:List Int)).map Qe) (l1++([p2]:List Int)).length,.n 1,.sayO 200001 (.var [.own 100000 (l1++([p2]:List Int)).length]),.n 2,.keep [] [100000,200000,200001]] rfl ⟨⟨⟨tt_,rfl⟩,⟨Qf,Qdf hk4 Qf,Qcc,QeV Qf⟩⟩,rfl⟩ ?_
 cases h
 refine AK.done ?_
 exact ex_ _ (an_ rfl (gives ⟨rfl,rfl,rfl,tt_⟩))
theorem Qjj (lpl lpf:Nat)(l1:(List Int))(m2:QBg)(hlen:l1.length+m2.length≤4294967296):Qc Tryz.prog 250 [.clo (.yield lpl) [] [],.loc 200002 0 0] [(200000,.lp lpl (Qfn lpf) [.J,.J,.loc 200001 0 0,.J,.J,.J,.J,.J,.J,.J,.J,.J,.J] 0),(200001,.var [.own 100000 l1.length]),(100000,.arr 1 (l1.map Qe)),(200002,.var [.map 200003]),(200003,.map (mapV (V.i .i64) (V.i .i64) m2))] (fun v hs=>∃r:List Int,r.Perm (l1++m2.map Prod.fst)∧Gives (.tup []) [(100000,.arr 1 (r.map Qe)),(200000,.lp lpl (Qfn lpf) [.J,.J,.loc 200001 0 0,.J,.J,.J,.J,.J,.J,.J,.J,.J,.J] 0),(200001,.var [.own 100000 r.length]),(200002,.var [.map 200003]),(200003,.map (mapV (V.i .i64) (V.i .i64) m2))] v hs):=by
 refine Qc.walk 14 Tryz.func250 rfl Tryz.ntmps250 rfl fun C hC=>?_
 refine Qa hC [.n 3] rfl tt_ ?_
 refine AK.openMap (b:=200003) ky_3 rfl fun bm4 cl4 L4 hbn4 hpm4=>?_
 refine Qa hC [.x (fun σ=>(σ.set 5 (.itr bm4 cl4 #[] none)).put 5 (.loc 5 0 0)),.n 3,.keep [0,5] [5,100000,200000,200001,200002,200003]] rfl ⟨tt_,(Stp.range (b:=200003) rfl rfl (bleN hC.n rfl) rfl rfl Qd7 rfl)⟩ ?_
 have hL0:Qa0 L4 #[]=L4:=by simp [Qa0]
 have hp0:(l1++(Qa0 L4 #[]).map (fun q=>q.2.1)).Perm (l1++m2.map Prod.fst):=by
  rw [hL0]
  refine List.Perm.append_left l1 ?_
  have:=hpm4.map Prod.fst
  rwa [List.map_map]at this
 refine AK.range (body:=cntM) (fun (_:Nat) seen σ=>∃(cur:Option MapEntry) (st:List Int),(st++(Qa0 L4 seen).map (fun q=>q.2.1)).Perm (l1++m2.map Prod.fst)∧σ=⟨[(0,.clo (.yield lpl) [] []),(5,.loc 5 0 0)],[(5,.itr bm4 cl4 seen cur),(100000,.arr 1 (st.map Qe)),(200000,.lp lpl (Qfn lpf) [.J,.J,.loc 200001 0 0,.J,.J,.J,.J,.J,.J,.J,.J,.J,.J] 0),(200001,.var [.own 100000 st.length]),(200002,.var [.map 200003]),(200003,.mapX bm4 cl4 (typV (V.i .i64) (V.i .i64) L4) (mapV (V.i .i64) (V.i .i64) m2))]⟩) (fun (q:Empty) _ _=>False) (fun _ e σ=>∃st:List Int,st.Perm (l1++m2.map Prod.fst)∧e=.exit 0∧σ=⟨[],[(100000,.arr 1 (st.map Qe)),(200000,.lp lpl (Qfn lpf) [.J,.J,.loc 200001 0 0,.J,.J,.J,.J,.J,.J,.J,.J,.J,.J] 0),(200001,.var [.own 100000 st.length]),(200002,.var [.map 200003]),(200003,.mapX bm4 cl4 (typV (V.i .i64) (V.i .i64) L4) (mapV (V.i .i64) (V.i .i64) m2))]⟩) hbn4 hpm4 (QvO m2 0) (ex_ _ (ex_ l1 (an_ hp0 rfl))) ?_ ?_
 ·rintro n0 seen σ ⟨cur,l6,hpp,rfl⟩ hex
  refine Qa hC [.n 2] rfl tt_ ?_
  refine AK.nextT (b:=5) (m:=200003) rfl rfl rfl (bleN hC.n rfl) rfl rfl rfl rfl ?_ ?_
  ·intro hleft
   refine Qa hC [.n 7,.keep [] [100000,200000,200001,200002,200003]] rfl tt_ ?_
   exact AK.done (Or.inl (an_ hleft (an_ (fun h=>(by cases h)) (ex_ l6 (an_ (by simpa [hleft] using hpp) (an_ rfl rfl))))))
  ·intro xk8 k8 v9 hq5
   have hpk:=(Qoo hbn4 hq5).map (fun q=>q.2.1)
   have hp2:((l6++[k8])++(Qa0 L4 (seen.push xk8.born)).map (fun q=>q.2.1)).Perm (l1++m2.map Prod.fst):=List.Perm.trans (by simpa using (List.Perm.append_left l6 hpk).symm) hpp
   have hl2:l6.length+([k8]:List Int).length≤4294967296:=by
    have:=hp2.length_eq
    simp at this ⊢
    omega
   have hx10:Qa5 l6 k8=some (l6++[k8]):=by
    unfold Qa5
    rw [decide_eq_true hl2];rfl
   obtain⟨x10,hxe⟩:∃x,x=l6++[k8]:=⟨_,rfl⟩
   rw [←hxe]at hx10 hp2
   refine Qa hC [.n 10,.x (fun σ=>σ.put 8 (.tup [.i .i64 k8,.i .i64 v9])),.n 8,.x (fun σ=>(σ.after [100000] [(100000,.arr 1 (x10.map Qe)),(200000,.lp lpl (Qfn lpf) [.J,.J,.loc 200001 0 0,.J,.J,.J,.J,.J,.J,.J,.J,.J,.J] 0),(200001,.var [.own 100000 x10.length])]).put 12 (.b true)),.n 6,.keep [0,5] [5,100000,200000,200001,200002,200003]] rfl ⟨⟨tt_,(Stp.entryT (b:=5) (m:=200003) rfl rfl (bleN hC.n rfl) rfl hq5 rfl rfl)⟩,(Stp.yieldV (b:=200000) (M:=[(200000,200000),(200001,200001),(100000,100000)]) (N:=[(100000,100000),(200000,200000),(200001,200001)]) (dead:=[100000]) (ms:=[.d,.d,.d,.d,.d,.d,.d,.d,.d,.d,.d,.d,.d]) (outs:=[(100000,.arr 1 (x10.map Qe)),(200000,.lp lpl (Qfn lpf) [.J,.J,.loc 200001 0 0,.J,.J,.J,.J,.J,.J,.J,.J,.J,.J] 0),(200001,.var [.own 100000 x10.length])]) (r:=.b true) rfl rfl rfl rfl rfl rfl rfl (bleN hC.n rfl) hC.g rfl rfl (Qip _ _ _ _ hx10))⟩ ?_
   exact AK.done (Or.inr (ex_ _ (an_ hq5 (Or.inl (ex_ (n0+1) (an_ rfl (an_ rfl (ex_ _ (ex_ x10 (an_ hp2 rfl))))))))))
 ·rintro e σ ⟨l6,hpp,rfl,rfl⟩
  refine Qa hC [.n 1] rfl tt_ ?_
  refine AK.closeMap (b:=200003) rfl ?_
  refine Qa hC [.keep [] [100000,200000,200001,200002,200003]] rfl tt_ ?_
  refine AK.done ?_
  exact ex_ [] (an_ tt_ (ex_ l6 (an_ hpp (gives ⟨rfl,rfl,rfl,rfl,rfl,tt_⟩))))
theorem Qlo (m1:QBg)(hlen:m1.length≤4294967296):Qc Tryz.prog 261 [.lit (.slice none 0 0),.clo (.func 250) [] [.loc 200000 0 0]] [(200000,.var [.map 200001]),(200001,.map (mapV (V.i .i64) (V.i .i64) m1))] (fun v hs=>∃r:List Int,r.Perm (m1.map Prod.fst)∧Gives (.own 30000 r.length) [(30000,.arr 1 (r.map Qe)),(200000,.var [.map 200001]),(200001,.map (mapV (V.i .i64) (V.i .i64) m1))] v hs):=by
 refine Qc.walkR 13 Tryz.func261 rfl Tryz.ntmps261 rfl fun C hC hR=>?_
 refine Qa hC [.n 13,.keep [2,4,6] [2,200000,200001]] rfl tt_ ?_
 refine Qa hC [.adoptO 2 0 45040 1,.sayO 45040 (.arr 1 (([]:List Int).map Qe)),.sayO 2 (.var [.own 45040 ([]:List Int).length])] rfl ⟨⟨tt_,rfl⟩,rfl⟩ ?_
 refine AK.rangeFE (ι:=List Int) (Φ:=fun x=>x.Perm (m1.map Prod.fst)) 60000 [2] [(200000,60000),(200001,2),(100000,45040),(200002,200000),(200003,200001)] [(45040,100000),(60000,200000),(2,200001),(200000,200002),(200001,200003)] [45040] [.d,.d] Qfn hC hR (fun _=>rfl) rfl rfl rfl rfl fun lpl lpf=>?_
 refine ex_ (fun x3:List Int=>[(100000,.arr 1 (x3.map Qe)),(200000,.lp lpl (Qfn lpf) [.J,.J,.loc 200001 0 0,.J,.J,.J,.J,.J,.J,.J,.J,.J,.J] 0),(200001,.var [.own 100000 x3.length]),(200002,.var [.map 200003]),(200003,.map (mapV (V.i .i64) (V.i .i64) m1))]) (ex_ (fun _=>.tup []) (ex_ (fun x3=>_) (ex_ _ (ex_ _ (an_ rfl (an_ rfl (an_ (Qjj _ _ ([]:List Int) m1 (by simpa using hlen)) fun x3=>ex_ _ (ex_ [.J,.J,.loc 2 0 0,.J,.J,.J,.J,.J,.J,.J,.J,.J,.J] (ex_ 0 (an_ rfl (an_ rfl (an_ (bne_iff_ne.1 (show(0 != 1)=true from rfl)) fun hpp=>?_))))))))))))
 refine atJ0 rfl ?_
 refine Qa hC [.n 9,.keep [4] [45040,200000,200001],.ren 45040 30000,.keep [4] [30000,200000,200001]] rfl tt_ ?_
 exact AK.done (ex_ [_] (an_ (an_ rfl tt_) (ex_ x3 (an_ hpp (gives ⟨rfl,rfl,rfl,tt_⟩)))))
theorem Qne (m1:QBg)(hlen:m1.length≤4294967296):Qc Tryz.prog 249 [.clo (.func 250) [] [.loc 200000 0 0]] [(200000,.var [.map 200001]),(200001,.map (mapV (V.i .i64) (V.i .i64) m1))] (fun v hs=>∃r:List Int,r.Perm (m1.map Prod.fst)∧Gives (.own 30000 r.length) [(30000,.arr 1 (r.map Qe)),(200000,.var [.map 200001]),(200001,.map (mapV (V.i .i64) (V.i .i64) m1))] v hs):=by
 refine Qc.walk 5 Tryz.func249 rfl Tryz.ntmps249 rfl fun C hC=>?_
 refine Qa hC [.n 8] rfl tt_ ?_
 refine AK.callE (ι:=List Int) (Φ:=fun x=>x.Perm (m1.map Prod.fst)) [(200000,200000),(200001,200001)] [(4,30000),(200000,200000),(200001,200001)] [] [.d,.d] (fun x3=>[(30000,.arr 1 (x3.map Qe)),(200000,.var [.map 200001]),(200001,.map (mapV (V.i .i64) (V.i .i64) m1))]) (fun x3=>(.own 30000 x3.length)) (fun x3=>_) rfl hC (Qbg.fn rfl rfl rfl) rfl (bleN hC.n rfl) rfl rfl (Qlo m1 hlen) (fun x3=>ex_ _ rfl) fun x3 hpp=>?_
 refine Qa hC [.n 4,.keep [2] [4,200000,200001],.ren 4 30000,.keep [2] [30000,200000,200001]] rfl tt_ ?_
 exact AK.done (ex_ [_] (an_ (an_ rfl tt_) (ex_ x3 (an_ hpp (gives ⟨rfl,rfl,rfl,tt_⟩)))))
def QaS (l:List Int):Option (List Int):=(chk (decide (l.length<4611686018427387904))).bind fun _=>some (QeW l)
theorem Qfv (l:List Int){r:List Int}(h:QaS l=some r):Qc Tryz.prog 38 [.own 200000 l.length] [(200000,.arr 1 (l.map Qe))] (Gives (.tup []) [(200000,.arr 1 (r.map Qe))]):=by
 unfold QaS at h
 obtain⟨_,h1,h⟩:=Qb h
 cases h
 exact Quh QvT l (of_decide_eq_true (chkE h1))
def QfZ (m1:QBg):Option (List Int):=
 (chk (decide (m1.length≤4294967296))).bind fun _=>
 some (QeW (m1.map Prod.fst))
theorem QnH (m1:QBg){r:(List Int)}(h:QfZ m1=some r):Qc Tryz.prog 206 [.clo (.func 250) [] [.loc 200000 0 0]] [(200000,.var [.map 200001]),(200001,.map (mapV (V.i .i64) (V.i .i64) m1))] (Gives (.own 30000 r.length) [(30000,.arr 1 (r.map Qe)),(200000,.var [.map 200001]),(200001,.map (mapV (V.i .i64) (V.i .i64) m1))]):=by
 refine Qc.walk 9 Tryz.func206 rfl Tryz.ntmps206 rfl fun C hC=>?_
 unfold QfZ at h
 obtain⟨_,hlen,h⟩:=Qb h
 replace hlen:=of_decide_eq_true (chkE hlen)
 cases h
 refine Qa hC [.n 8] rfl tt_ ?_
 refine AK.callE (ι:=List Int) (Φ:=fun x=>x.Perm (m1.map Prod.fst)) [(200000,200000),(200001,200001)] [(5,30000),(200000,200000),(200001,200001)] [] [.d] (fun x3=>[(30000,.arr 1 (x3.map Qe)),(200000,.var [.map 200001]),(200001,.map (mapV (V.i .i64) (V.i .i64) m1))]) (fun x3=>(.own 30000 x3.length)) (fun x3=>_) rfl hC (Qbg.fn rfl rfl rfl) rfl (bleN hC.n rfl) rfl rfl (Qne m1 hlen) (fun x3=>ex_ _ rfl) fun x3 hpp=>?_
 have hx4:QaS x3=some (QeW (m1.map Prod.fst)):=by
  unfold QaS
  rw [decide_eq_true (by have:=hpp.length_eq;simp at this;omega),Qu6 hpp];rfl
 have hk5:(QeW (m1.map Prod.fst)).length=x3.length:=by rw [Qnu,hpp.length_eq]
 refine Qa hC [.n 6,.cm (.fn) [(200000,5)] [(5,200000)] [] [.d] [(200000,.arr 1 (((QeW (m1.map Prod.fst))).map Qe))] (.tup []),.say 3 (.own 5 (QeW (m1.map Prod.fst)).length),.say 5 (.own 5 (QeW (m1.map Prod.fst)).length),.say 6 (.own 5 (QeW (m1.map Prod.fst)).length),.n 9,.keep [2] [5,200000,200001],.ren 5 30000,.keep [2] [30000,200000,200001]] rfl ⟨⟨⟨⟨tt_,(Qfv _ hx4)⟩,(by simp [hk5])⟩,(by simp [hk5])⟩,(by simp [hk5])⟩ ?_
 exact AK.done (ex_ [_] (an_ (an_ rfl tt_) (gives ⟨rfl,rfl,rfl,tt_⟩)))
def Qcu (x6:Int)(l12:QBg):Option ((Int×QBg)⊕QBg):=
 some (.inl ((w64 (x6+1)),l12))
def QaQ (x4:(List Int))(m1:QBg)(x6:Int)(l7:QBg):Option ((Int×QBg)⊕QBg):=
 bif (decide (x6<(x4.length:Int)))then
 (idx x4 x6).bind fun e13=>
 bif (decide (0<((mget m1 e13).getD 0)))then
 (chk (decide (l7.length+([(e13,((mget m1 e13).getD 0))]:List (Int×Int)).length≤4294967296))).bind fun _=>
 Qcu x6 (l7++([(e13,((mget m1 e13).getD 0))]:List (Int×Int)))
 else
 Qcu x6 l7
 else
 some (.inr l7)
def Qiq (l10:QBg):Option QBg:=
 some l10
def QcK (m1:QBg):Option QBg:=
 (QbQ m1).bind fun x3=>
 (QfZ m1).bind fun x4=>
 (QA (fun st=>QaQ x4 m1 st.1 st.2) (0,([]:List (Int×Int)))).bind (fun q=>Qiq q)
theorem Qir (m1:QBg){r:QBg}(h:QcK m1=some r):Qc Tryz.prog 147 [.map 200000] [(200000,.map (mapV (V.i .i64) (V.i .i64) m1))] (Gives (.own 30000 r.length) [(30000,.arr 2 (r.map Qy)),(200000,.map (mapV (V.i .i64) (V.i .i64) m1))]):=by
 refine Qc.walk 28 Tryz.func147 rfl Tryz.ntmps147 rfl fun C hC=>?_
 unfold QcK at h
 obtain⟨x3,hx3,h⟩:=Qb h
 obtain⟨x4,hx4,h⟩:=Qb h
 refine Qa hC [.n 14,.cm (.fn) [(200000,200000)] [(7,1),(200000,200000)] [] [.d] [(1,.var [.map 200000]),(200000,.map (mapV (V.i .i64) (V.i .i64) m1))] (.clo (.func 250) [] [.loc 1 0 0]),.cm (.fn) [(200000,7),(200001,200000)] [(8,30000),(7,200000),(200000,200001)] [] [.d] [(30000,.arr 1 (x4.map Qe)),(200000,.var [.map 200001]),(200001,.map (mapV (V.i .i64) (V.i .i64) m1))] (.own 30000 x4.length),.n 5,.adopt 3 18 2,.sayO 18 (.arr 2 (([]:List (Int×Int)).map Qy)),.say 3 (.own 18 ([]:List (Int×Int)).length),.keep [0,3,8,9,10] [8,18,200000]] rfl ⟨⟨⟨⟨tt_,(QjO _ hx3)⟩,(QnH _ hx4)⟩,rfl⟩,(congrArg (fun n=>V.own 18 n) (by simp))⟩ ?_
 obtain⟨l10,hl16,h⟩:=Qb h
 refine AK.loop (body:=(fun st=>QaQ x4 m1 st.1 st.2)) (fun st σ=>σ=⟨[(0,.map 200000),(3,.own 18 st.2.length),(8,.own 8 x4.length),(9,.i .i64 (x4.length:Int)),(10,.i .i64 st.1)],[(8,.arr 1 (x4.map Qe)),(18,.arr 2 (st.2.map Qy)),(200000,.map (mapV (V.i .i64) (V.i .i64) m1))]⟩) (fun q e σ=>e=.exit 0∧σ=⟨[(3,.own 18 q.length)],[(18,.arr 2 (q.map Qy)),(200000,.map (mapV (V.i .i64) (V.i .i64) m1))]⟩) hl16 rfl ?_ ?_
 ·rintro ⟨x6,l7⟩ o σ rfl h
  replace h:QaQ x4 m1 x6 l7=some o:=h
  unfold QaQ at h
  refine Qa hC [.n 6] rfl tt_ ?_
  rcases bifE h with⟨hc11,h⟩|⟨hc11,h⟩
  ·refine Qa hC [.br true,.n 2] rfl ⟨tt_,hc11⟩ ?_
   refine AK.meet (fun σ=>∃l12:QBg,σ=⟨[(0,.map 200000),(3,.own 18 l12.length),(8,.own 8 x4.length),(9,.i .i64 (x4.length:Int)),(10,.i .i64 x6)],[(8,.arr 1 (x4.map Qe)),(18,.arr 2 (l12.map Qy)),(200000,.map (mapV (V.i .i64) (V.i .i64) m1))]⟩∧Qcu x6 l12=some o) ?_ ?_
   ·obtain⟨e13,he13,h⟩:=Qb h
    refine Qa hC [.n 4,.o (.row (Qe e13)),.n 7,.o (.any (.i .i64 ((mget m1 e13).getD 0)) none),.n 3] rfl ⟨⟨⟨tt_,(QdE he13 rfl)⟩,(QbZ (idxE he13).2)⟩,(fun σ h1 h2 _=>Stp.lookup (e:=(V.i .i64)) (f:=(V.i .i64)) (l:=m1) (k:=e13) (z:=0) rfl rfl (bleN hC.n rfl) (h1 _ _ rfl) (h2 _ _ rfl) (h1 _ _ rfl) Qd7 ky_3 zi_3 rfl)⟩ ?_
    rcases bifE h with⟨hc14,h⟩|⟨hc14,h⟩
    ·obtain⟨_,hk15,h⟩:=Qb h
     replace hk15:=chkE hk15
     refine Qa hC [.br true,.n 5,.o (.any (.i .i64 ((mget m1 e13).getD 0)) none),.v .no [] (.agg (Qy (e13,((mget m1 e13).getD 0)))),.v (.bd []) [] (.sl 2 (([(e13,((mget m1 e13).getD 0))]:List (Int×Int)).map Qy)),.app ((l7++([(e13,((mget m1 e13).getD 0))]:List (Int×Int))).map Qy) (l7++([(e13,((mget m1 e13).getD 0))]:List (Int×Int))).length,.n 3,.keep [0,3,8,9,10] [8,18,200000]] rfl ⟨⟨⟨⟨⟨tt_,hc14⟩,(fun σ h1 h2 _=>Stp.lookup (e:=(V.i .i64)) (f:=(V.i .i64)) (l:=m1) (k:=e13) (z:=0) rfl rfl (bleN hC.n rfl) (h1 _ _ rfl) (h2 _ _ rfl) (h1 _ _ rfl) Qd7 ky_3 zi_3 rfl)⟩,rfl⟩,rfl⟩,⟨Qf,Qdf hk15 Qf,Qcc,QeV Qf⟩⟩ ?_
     exact AK.met (ex_ _ (an_ rfl h))
    ·refine Qa hC [.br false,.n 2,.keep [0,3,8,9,10] [8,18,200000]] rfl ⟨tt_,hc14⟩ ?_
     exact AK.met (ex_ _ (an_ rfl h))
   ·rintro σ ⟨l12,rfl,h⟩
    unfold Qcu at h
    refine Qa hC [.n 4,.keep [0,3,8,9,10] [8,18,200000]] rfl tt_ ?_
    cases h
    exact rndN rfl rfl
  ·refine Qa hC [.br false,.n 2,.keep [3] [18,200000]] rfl ⟨tt_,hc11⟩ ?_
   cases h
   exact rndX rfl (an_ rfl rfl)
 ·replace h:Qiq l10=some r:=h
  unfold Qiq at h
  rintro e σ ⟨rfl,rfl⟩
  refine Qa hC [.n 9,.keep [2] [18,200000],.ren 18 30000,.keep [2] [30000,200000]] rfl tt_ ?_
  cases h
  exact AK.done (ex_ [_] (an_ (an_ rfl tt_) (gives ⟨rfl,rfl,tt_⟩)))
def QjP (x4:Int)(m10:QBg):Option ((Int×QBg)⊕QBg):=
 some (.inl ((w64 (x4+1)),m10))
def Qdc (l1:(List Int))(x4:Int)(m5:QBg):Option ((Int×QBg)⊕QBg):=
 bif (decide (x4<(l1.length:Int)))then
 (idx l1 x4).bind fun e11=>
 bif (decide (0≤e11))then
 QjP x4 (mset ltI m5 e11 (min2 (w64 (((mget m5 e11).getD 0)+1)) 1048576))
 else
 QjP x4 m5
 else
 some (.inr m5)
def QjQ (m8:QBg):Option QBg:=
 (QcK m8).bind fun x14=>
 some x14
def QmO (l1:(List Int)):Option QBg:=
 (QA (fun st=>Qdc l1 st.1 st.2) (0,([]:QBg))).bind (fun q=>QjQ q)
theorem Qul (l1:(List Int)){r:QBg}(h:QmO l1=some r):Qc Tryz.prog 142 [.sl 1 (l1.map Qe)] [] (Gives (.own 30000 r.length) [(30000,.arr 2 (r.map Qy))]):=by
 refine Qc.walk 25 Tryz.func142 rfl Tryz.ntmps142 rfl fun C hC=>?_
 unfold QmO at h
 refine Qa hC [.n 8,.sayO 6 (.map (mapV (V.i .i64) (V.i .i64) ([]:QBg))),.n 7,.o (.ln l1.length),.n 4,.keep [3,7,8,9] [6]] rfl ⟨⟨tt_,rfl⟩,Qf⟩ ?_
 obtain⟨m8,hl13,h⟩:=Qb h
 refine AK.loop (body:=(fun st=>Qdc l1 st.1 st.2)) (fun st σ=>σ=⟨[(3,.map 6),(7,.sl 1 (l1.map Qe)),(8,.i .i64 (l1.length:Int)),(9,.i .i64 st.1)],[(6,.map (mapV (V.i .i64) (V.i .i64) st.2))]⟩) (fun q e σ=>e=.exit 0∧σ=⟨[(3,.map 6)],[(6,.map (mapV (V.i .i64) (V.i .i64) q))]⟩) hl13 rfl ?_ ?_
 ·rintro ⟨x4,m5⟩ o σ rfl h
  replace h:Qdc l1 x4 m5=some o:=h
  unfold Qdc at h
  refine Qa hC [.n 6] rfl tt_ ?_
  rcases bifE h with⟨hc9,h⟩|⟨hc9,h⟩
  ·refine Qa hC [.br true,.n 2] rfl ⟨tt_,hc9⟩ ?_
   refine AK.meet (fun σ=>∃m10:QBg,σ=⟨[(3,.map 6),(7,.sl 1 (l1.map Qe)),(8,.i .i64 (l1.length:Int)),(9,.i .i64 x4)],[(6,.map (mapV (V.i .i64) (V.i .i64) m10))]⟩∧QjP x4 m10=some o) ?_ ?_
   ·obtain⟨e11,he11,h⟩:=Qb h
    refine Qa hC [.n 3,.o (.row (Qe e11)),.n 10] rfl ⟨tt_,(idxM he11)⟩ ?_
    rcases bifE h with⟨hc12,h⟩|⟨hc12,h⟩
    ·refine Qa hC [.br true,.n 5,.o (.any (.i .i64 ((mget m5 e11).getD 0)) none),.n 2,.x (fun σ=>σ.set 6 (.map (mapV (V.i .i64) (V.i .i64) (mset ltI m5 e11 (min2 (w64 (((mget m5 e11).getD 0)+1)) 1048576))))),.n 2,.keep [3,7,8,9] [6]] rfl ⟨⟨⟨tt_,hc12⟩,(fun σ h1 h2 _=>Stp.lookup (e:=(V.i .i64)) (f:=(V.i .i64)) (l:=m5) (k:=e11) (z:=0) rfl rfl (bleN hC.n rfl) (h1 _ _ rfl) (h2 _ _ rfl) (h1 _ _ rfl) Qd7 ky_3 zi_3 rfl)⟩,(Stp.mapUpdate (e:=(V.i .i64)) (f:=(V.i .i64)) (l:=m5) (k:=e11) (v:=(min2 (w64 (((mget m5 e11).getD 0)+1)) 1048576)) ltI rfl rfl rfl rfl rfl rfl Qd7 ky_3 rfl)⟩ ?_
     exact AK.met (ex_ _ (an_ rfl h))
    ·refine Qa hC [.br false,.n 2,.keep [3,7,8,9] [6]] rfl ⟨tt_,hc12⟩ ?_
     exact AK.met (ex_ _ (an_ rfl h))
   ·rintro σ ⟨m10,rfl,h⟩
    unfold QjP at h
    refine Qa hC [.n 4,.keep [3,7,8,9] [6]] rfl tt_ ?_
    cases h
    exact rndN rfl rfl
  ·refine Qa hC [.br false,.n 2,.keep [3] [6]] rfl ⟨tt_,hc9⟩ ?_
   cases h
   exact rndX rfl (an_ rfl rfl)
 ·replace h:QjQ m8=some r:=h
  unfold QjQ at h
  rintro e σ ⟨rfl,rfl⟩
  obtain⟨x14,hx14,h⟩:=Qb h
  refine Qa hC [.n 5,.cm (.fn) [(200000,6)] [(24,30000),(6,200000)] [] [.d] [(30000,.arr 2 (x14.map Qy)),(200000,.map (mapV (V.i .i64) (V.i .i64) m8))] (.own 30000 x14.length),.n 4,.keep [2] [24],.ren 24 30000,.keep [2] [30000]] rfl ⟨tt_,(Qir _ hx14)⟩ ?_
  cases h
  exact AK.done (ex_ [_] (an_ (an_ rfl tt_) (gives ⟨rfl,tt_⟩)))
def Qd3 (b1:QBg)(x6:Int)(m7:QBg):Option ((Int×QBg)⊕QBg):=
 bif (decide (x6<(b1.length:Int)))then
 (idx b1 x6).bind fun e12=>
 some (.inl ((w64 (x6+1)),(mset ltI m7 e12.1 e12.2)))
 else
 some (.inr m7)
def QnI (m10:QBg):Option (Unit⊕QBg):=
 some (.inr m10)
def QiX (b1:QBg):Option (Unit⊕QBg):=
 (Qb9 b1).bind fun x3=>
 bif (!x3)then
 some (.inl ())
 else
 (QA (fun st=>Qd3 b1 st.1 st.2) (0,([]:QBg))).bind (fun q=>QnI q)
theorem Qe2 (b1:QBg){r:(Unit⊕QBg)}(h:QiX b1=some r):Qc Tryz.prog 112 [.sl 2 (b1.map Qy)] [] ((Sum.elim (fun q=>(Gives (.tup [.lit (.map none),.b false]) [])) (fun q=>(Gives (.tup [.map 30002,.b true]) [(30002,.map (mapV (V.i .i64) (V.i .i64) q))]))) r):=by
 refine Qc.walk 24 Tryz.func112 rfl Tryz.ntmps112 rfl fun C hC=>?_
 unfold QiX at h
 obtain⟨x3,hx3,h⟩:=Qb h
 refine Qa hC [.n 10,.o (.c false [.d] (.b x3)),.n 3] rfl ⟨tt_,(Qe6 _ hx3)⟩ ?_
 rcases bifE h with⟨hc4,h⟩|⟨hc4,h⟩
 ·refine Qa hC [.br true,.n 8,.keep [2,3] []] rfl ⟨tt_,hc4⟩ ?_
  cases h
  exact AK.done (ex_ [_,_] (an_ (an_ rfl (an_ rfl tt_)) (gives tt_)))
 ·refine Qa hC [.br false,.n 5,.sayO 10 (.map (mapV (V.i .i64) (V.i .i64) ([]:QBg))),.n 7,.o (.ln b1.length),.n 4,.keep [4,11,12,13] [10]] rfl ⟨⟨⟨tt_,hc4⟩,rfl⟩,Qf⟩ ?_
  obtain⟨m10,hl13,h⟩:=Qb h
  refine AK.loop (body:=(fun st=>Qd3 b1 st.1 st.2)) (fun st σ=>σ=⟨[(4,.map 10),(11,.sl 2 (b1.map Qy)),(12,.i .i64 (b1.length:Int)),(13,.i .i64 st.1)],[(10,.map (mapV (V.i .i64) (V.i .i64) st.2))]⟩) (fun q e σ=>e=.exit 0∧σ=⟨[(4,.map 10)],[(10,.map (mapV (V.i .i64) (V.i .i64) q))]⟩) hl13 rfl ?_ ?_
  ·rintro ⟨x6,m7⟩ o σ rfl h
   replace h:Qd3 b1 x6 m7=some o:=h
   unfold Qd3 at h
   refine Qa hC [.n 6] rfl tt_ ?_
   rcases bifE h with⟨hc11,h⟩|⟨hc11,h⟩
   ·obtain⟨e12,he12,h⟩:=Qb h
    refine Qa hC [.br true,.n 6,.o (.row (Qy e12)),.v .no [] (.agg (Qy e12)),.n 2,.sayO 6 (.var (Qy e12)),.n 8,.x (fun σ=>σ.set 10 (.map (mapV (V.i .i64) (V.i .i64) (mset ltI m7 e12.1 e12.2)))),.n 7,.keep [4,11,12,13] [10]] rfl ⟨⟨⟨⟨⟨tt_,hc11⟩,(idxM he12)⟩,rfl⟩,rfl⟩,(Stp.mapUpdate (e:=(V.i .i64)) (f:=(V.i .i64)) (l:=m7) (k:=e12.1) (v:=e12.2) ltI rfl rfl rfl rfl rfl rfl Qd7 ky_3 rfl)⟩ ?_
    cases h
    exact rndN rfl rfl
   ·refine Qa hC [.br false,.n 2,.keep [4] [10]] rfl ⟨tt_,hc11⟩ ?_
    cases h
    exact rndX rfl (an_ rfl rfl)
  ·replace h:QnI m10=some r:=h
   unfold QnI at h
   rintro e σ ⟨rfl,rfl⟩
   refine Qa hC [.n 10,.keep [2,3] [10],.ren 10 30002,.keep [2,3] [30002]] rfl tt_ ?_
   cases h
   exact AK.done (ex_ [_,_] (an_ (an_ rfl (an_ rfl tt_)) (gives ⟨rfl,tt_⟩)))
def Ql2 (a11:Unit):Option (Unit⊕(QBg⊕(QBg⊕(QBg×QBg)))):=
 some (.inl ())
def Ql3 (a12:QBg):Option (Unit⊕(QBg⊕(QBg⊕(QBg×QBg)))):=
 some (.inr (.inl a12))
def Qj4 (b2:QBg)(a8:Unit):Option (Unit⊕(QBg⊕(QBg⊕(QBg×QBg)))):=
 (QiX b2).bind (Sum.elim (fun q=>Ql2 q) (fun q=>Ql3 q))
def Ql4 (a9:QBg)(a14:Unit):Option (Unit⊕(QBg⊕(QBg⊕(QBg×QBg)))):=
 some (.inr (.inr (.inl a9)))
def Ql5 (a9:QBg)(a15:QBg):Option (Unit⊕(QBg⊕(QBg⊕(QBg×QBg)))):=
 some (.inr (.inr (.inr (a9,a15))))
def Qj5 (b2:QBg)(a9:QBg):Option (Unit⊕(QBg⊕(QBg⊕(QBg×QBg)))):=
 (QiX b2).bind (Sum.elim (fun q=>Ql4 a9 q) (fun q=>Ql5 a9 q))
def QhQ (a1:QBg)(b2:QBg):Option (Unit⊕(QBg⊕(QBg⊕(QBg×QBg)))):=
 (QiX a1).bind (Sum.elim (fun q=>Qj4 b2 q) (fun q=>Qj5 b2 q))
theorem Qbf (a1:QBg)(b2:QBg){r:(Unit⊕(QBg⊕(QBg⊕(QBg×QBg))))}(h:QhQ a1 b2=some r):Qc Tryz.prog 145 [.sl 2 (a1.map Qy),.sl 2 (b2.map Qy)] [] ((Sum.elim (fun q=>(Gives (.tup [.lit (.map none),.lit (.map none),.b false]) [])) (Sum.elim (fun q=>(Gives (.tup [.lit (.map none),.map 30005,.b false]) [(30005,.map (mapV (V.i .i64) (V.i .i64) q))])) (Sum.elim (fun q=>(Gives (.tup [.map 30004,.lit (.map none),.b false]) [(30004,.map (mapV (V.i .i64) (V.i .i64) q))])) (fun q=>(Gives (.tup [.map 30004,.map 30005,.b true]) [(30004,.map (mapV (V.i .i64) (V.i .i64) q.1)),(30005,.map (mapV (V.i .i64) (V.i .i64) q.2))]))))) r):=by
 refine Qc.walk 25 Tryz.func145 rfl Tryz.ntmps145 rfl fun C hC=>?_
 unfold QhQ at h
 obtain⟨x7,hx7,h⟩:=Qb h
 refine Qa hC [.n 10] rfl tt_ ?_
 rcases x7 with(a8 | a9)
 ·replace h:Qj4 b2 a8=some r:=h
  unfold Qj4 at h
  obtain⟨x10,hx10,h⟩:=Qb h
  refine Qa hC [.cm (.fn) [] [] [] [.d] [] (.tup [.lit (.map none),.b false]),.n 10] rfl ⟨tt_,(Qe2 _ hx7)⟩ ?_
  rcases x10 with(a11 | a12)
  ·replace h:Ql2 a11=some r:=h
   unfold Ql2 at h
   refine Qa hC [.cm (.fn) [] [] [] [.d] [] (.tup [.lit (.map none),.b false]),.n 21,.keep [4,5,6] []] rfl ⟨tt_,(Qe2 _ hx10)⟩ ?_
   cases h
   exact AK.done (ex_ [_,_,_] (an_ (an_ rfl (an_ rfl (an_ rfl tt_))) (gives tt_)))
  ·replace h:Ql3 a12=some r:=h
   unfold Ql3 at h
   refine Qa hC [.cm (.fn) [] [(16,30002)] [] [.d] [(30002,.map (mapV (V.i .i64) (V.i .i64) a12))] (.tup [.map 30002,.b true]),.n 21,.keep [4,5,6] [16],.ren 16 30005,.keep [4,5,6] [30005]] rfl ⟨tt_,(Qe2 _ hx10)⟩ ?_
   cases h
   exact AK.done (ex_ [_,_,_] (an_ (an_ rfl (an_ rfl (an_ rfl tt_))) (gives ⟨rfl,tt_⟩)))
 ·replace h:Qj5 b2 a9=some r:=h
  unfold Qj5 at h
  obtain⟨x13,hx13,h⟩:=Qb h
  refine Qa hC [.cm (.fn) [] [(11,30002)] [] [.d] [(30002,.map (mapV (V.i .i64) (V.i .i64) a9))] (.tup [.map 30002,.b true]),.n 10] rfl ⟨tt_,(Qe2 _ hx7)⟩ ?_
  rcases x13 with(a14 | a15)
  ·replace h:Ql4 a9 a14=some r:=h
   unfold Ql4 at h
   refine Qa hC [.cm (.fn) [] [] [] [.d] [] (.tup [.lit (.map none),.b false]),.n 21,.keep [4,5,6] [11],.ren 11 30004,.keep [4,5,6] [30004]] rfl ⟨tt_,(Qe2 _ hx13)⟩ ?_
   cases h
   exact AK.done (ex_ [_,_,_] (an_ (an_ rfl (an_ rfl (an_ rfl tt_))) (gives ⟨rfl,tt_⟩)))
  ·replace h:Ql5 a9 a15=some r:=h
   unfold Ql5 at h
   refine Qa hC [.cm (.fn) [] [(16,30002)] [] [.d] [(30002,.map (mapV (V.i .i64) (V.i .i64) a15))] (.tup [.map 30002,.b true]),.n 21,.keep [4,5,6] [11,16],.ren 11 30004,.keep [4,5,6] [16,30004],.ren 16 30005,.keep [4,5,6] [30004,30005]] rfl ⟨tt_,(Qe2 _ hx13)⟩ ?_
   cases h
   exact AK.done (ex_ [_,_,_] (an_ (an_ rfl (an_ rfl (an_ rfl tt_))) (gives ⟨rfl,rfl,tt_⟩)))
def QmP (a8:Unit):Option (QBg×Int):=
 some (([]:List (Int×Int)),1)
def QmQ (a9:QBg):Option (QBg×Int):=
 some (([]:List (Int×Int)),1)
def QmR (a10:QBg):Option (QBg×Int):=
 some (([]:List (Int×Int)),1)
def Qfw (m14:QBg)(k16:Int)(v17:Int):Option (QBg⊕Unit):=
 bif (decide (1048576<((mget (mset ltI m14 k16 (w64 (((mget m14 k16).getD 0)+v17))) k16).getD 0)))then
 some (.inr ())
 else
 some (.inl (mset ltI m14 k16 (w64 (((mget m14 k16).getD 0)+v17))))
def Qk0 (m14:QBg):Option (QBg×Int):=
 (QcK m14).bind fun x20=>
 some (x20,0)
def QmS : Option (QBg×Int):=
 some (([]:List (Int×Int)),2)
def Qk1 (a11:(QBg×QBg)):Option (QBg×Int):=
 (Qh3 (fun st p=>Qfw st p.1 p.2) a11.1 a11.2).bind (Sum.elim (fun q=>Qk0 q) (fun q=>QmS))
def Qba (a1:QBg)(b2:QBg):Option (QBg×Int):=
 (QhQ a1 b2).bind (Sum.elim (fun q=>QmP q) (Sum.elim (fun q=>QmQ q) (Sum.elim (fun q=>QmR q) (fun q=>Qk1 q))))
theorem Qpz (a1:QBg)(b2:QBg){r:(QBg×Int)}(h:Qba a1 b2=some r):Qc Tryz.prog 96 [.sl 2 (a1.map Qy),.sl 2 (b2.map Qy)] [] (Gives (.tup [.sl 2 (r.1.map Qy),.i .i64 r.2]) []):=by
 refine Qc.walk 38 Tryz.func96 rfl Tryz.ntmps96 rfl fun C hC=>?_
 unfold Qba at h
 obtain⟨x7,hx7,h⟩:=Qb h
 refine Qa hC [.n 10] rfl tt_ ?_
 rcases x7 with(a8 | (a9 | (a10 | a11)))
 ·replace h:QmP a8=some r:=h
  unfold QmP at h
  refine Qa hC [.cm (.fn) [] [] [] [.d,.d] [] (.tup [.lit (.map none),.lit (.map none),.b false]),.n 25,.denil 4 [some 2],.keep [4,5] []] rfl ⟨tt_,(Qbf _ _ hx7)⟩ ?_
  cases h
  exact AK.done (ex_ [_,_] (an_ (an_ rfl (an_ rfl tt_)) (gives tt_)))
 ·replace h:QmQ a9=some r:=h
  unfold QmQ at h
  refine Qa hC [.cm (.fn) [] [(14,30005)] [] [.d,.d] [(30005,.map (mapV (V.i .i64) (V.i .i64) a9))] (.tup [.lit (.map none),.map 30005,.b false]),.n 25,.denil 4 [some 2],.keep [4,5] []] rfl ⟨tt_,(Qbf _ _ hx7)⟩ ?_
  cases h
  exact AK.done (ex_ [_,_] (an_ (an_ rfl (an_ rfl tt_)) (gives tt_)))
 ·replace h:QmR a10=some r:=h
  unfold QmR at h
  refine Qa hC [.cm (.fn) [] [(14,30004)] [] [.d,.d] [(30004,.map (mapV (V.i .i64) (V.i .i64) a10))] (.tup [.map 30004,.lit (.map none),.b false]),.n 25,.denil 4 [some 2],.keep [4,5] []] rfl ⟨tt_,(Qbf _ _ hx7)⟩ ?_
  cases h
  exact AK.done (ex_ [_,_] (an_ (an_ rfl (an_ rfl tt_)) (gives tt_)))
 ·replace h:Qk1 a11=some r:=h
  unfold Qk1 at h
  refine Qa hC [.cm (.fn) [] [(14,30004),(50000,30005)] [] [.d,.d] [(30004,.map (mapV (V.i .i64) (V.i .i64) a11.1)),(30005,.map (mapV (V.i .i64) (V.i .i64) a11.2))] (.tup [.map 30004,.map 30005,.b true]),.n 23] rfl ⟨tt_,(Qbf _ _ hx7)⟩ ?_
  refine AK.openMap (b:=50000) ky_3 rfl fun bm12 cl12 L12 hbn12 hpm12=>?_
  refine Qa hC [.x (fun σ=>(σ.set 21 (.itr bm12 cl12 #[] none)).put 21 (.loc 21 0 0)),.n 3,.keep [6,21] [14,21,50000]] rfl ⟨tt_,(Stp.range (b:=50000) rfl rfl (bleN hC.n rfl) rfl rfl Qd7 rfl)⟩ ?_
  obtain⟨o19,hl19,h⟩:=Qb h
  refine AK.range (body:=(fun st p=>Qfw st p.1 p.2)) (fun st seen σ=>∃cur:Option MapEntry,σ=⟨[(6,.map 14),(21,.loc 21 0 0)],[(14,.map (mapV (V.i .i64) (V.i .i64) st)),(21,.itr bm12 cl12 seen cur),(50000,.mapX bm12 cl12 (typV (V.i .i64) (V.i .i64) L12) (mapV (V.i .i64) (V.i .i64) a11.2))]⟩) (fun q e σ=>e=.ret∧σ=⟨[(4,.lit (.slice none 0 0)),(5,.i .i64 2)],[]⟩) (fun st e σ=>e=.exit 0∧σ=⟨[(6,.map 14)],[(14,.map (mapV (V.i .i64) (V.i .i64) st))]⟩) hbn12 hpm12 hl19 (ex_ _ rfl) ?_ ?_
  ·rintro m14 seen σ ⟨cur,rfl⟩ hex
   refine Qa hC [.n 2] rfl tt_ ?_
   refine AK.nextT (b:=21) (m:=50000) rfl rfl rfl (bleN hC.n rfl) rfl rfl rfl rfl ?_ ?_
   ·intro hleft
    refine Qa hC [.n 7,.keep [6] [14]] rfl tt_ ?_
    exact AK.done (Or.inl (an_ hleft (an_ (fun h=>(by cases h)) (an_ rfl rfl))))
   ·intro xk16 k16 v17 hq13
    obtain⟨o,h⟩:=hex _ hq13
    have ho:=h
    replace h:Qfw m14 k16 v17=some o:=h
    unfold Qfw at h
    refine Qa hC [.n 10,.x (fun σ=>σ.put 24 (.tup [.i .i64 k16,.i .i64 v17])),.n 10,.o (.any (.i .i64 ((mget m14 k16).getD 0)) none),.n 2,.x (fun σ=>σ.set 14 (.map (mapV (V.i .i64) (V.i .i64) (mset ltI m14 k16 (w64 (((mget m14 k16).getD 0)+v17)))))),.n 6,.o (.any (.i .i64 ((mget (mset ltI m14 k16 (w64 (((mget m14 k16).getD 0)+v17))) k16).getD 0)) none),.n 3] rfl ⟨⟨⟨⟨tt_,(Stp.entryT (b:=21) (m:=50000) rfl rfl (bleN hC.n rfl) rfl hq13 rfl rfl)⟩,(fun σ h1 h2 _=>Stp.lookup (e:=(V.i .i64)) (f:=(V.i .i64)) (l:=m14) (k:=k16) (z:=0) rfl rfl (bleN hC.n rfl) (h1 _ _ rfl) (h2 _ _ rfl) (h1 _ _ rfl) Qd7 ky_3 zi_3 rfl)⟩,(Stp.mapUpdate (e:=(V.i .i64)) (f:=(V.i .i64)) (l:=m14) (k:=k16) (v:=(w64 (((mget m14 k16).getD 0)+v17))) ltI rfl rfl rfl rfl rfl rfl Qd7 ky_3 rfl)⟩,(fun σ h1 h2 _=>Stp.lookup (e:=(V.i .i64)) (f:=(V.i .i64)) (l:=(mset ltI m14 k16 (w64 (((mget m14 k16).getD 0)+v17)))) (k:=k16) (z:=0) rfl rfl (bleN hC.n rfl) (h1 _ _ rfl) (h2 _ _ rfl) (h1 _ _ rfl) Qd7 ky_3 zi_3 rfl)⟩ ?_
    rcases bifE h with⟨hc18,h⟩|⟨hc18,h⟩
    ·refine Qa hC [.br true,.n 8,.keep [4,5] []] rfl ⟨tt_,hc18⟩ ?_
     cases h
     exact AK.done (Or.inr (ex_ _ (an_ hq13 (Or.inr (ex_ _ (an_ ho (an_ (fun h=>(by cases h)) (an_ rfl rfl))))))))
    ·refine Qa hC [.br false,.n 2,.keep [6,21] [14,21,50000]] rfl ⟨tt_,hc18⟩ ?_
     cases h
     exact AK.done (Or.inr (ex_ _ (an_ hq13 (Or.inl (ex_ _ (an_ ho (an_ rfl (ex_ _ rfl))))))))
  ·rcases o19 with(m14 | _)
   ·replace h:Qk0 m14=some r:=h
    unfold Qk0 at h
    rintro e σ ⟨rfl,rfl⟩
    obtain⟨x20,hx20,h⟩:=Qb h
    refine Qa hC [.n 5,.cm (.fn) [(200000,14)] [(37,30000),(14,200000)] [] [.d] [(30000,.arr 2 (x20.map Qy)),(200000,.map (mapV (V.i .i64) (V.i .i64) m14))] (.own 30000 x20.length),.n 5,.frz 37 (x20.map Qy) [4] [],.keep [4,5] []] rfl ⟨⟨tt_,(Qir _ hx20)⟩,⟨tt_,(frzL Qf)⟩⟩ ?_
    cases h
    exact AK.done (ex_ [_,_] (an_ (an_ rfl (an_ rfl tt_)) (gives tt_)))
   ·replace h:QmS=some r:=h
    unfold QmS at h
    rintro e σ ⟨rfl,rfl⟩
    refine Qa hC [.n 2,.denil 4 [some 2],.keep [4,5] []] rfl tt_ ?_
    cases h
    exact AK.done (ex_ [_,_] (an_ (an_ rfl (an_ rfl tt_)) (gives tt_)))
def QdW (which3:(List Int))(l2:(List TArc))(env4:(List Int))(n1:TNet)(x11:Int)(l12:QMk):Option ((Int×QMk)⊕(Int⊕QMk)):=
 bif (decide (x11<(which3.length:Int)))then
 (idx which3 x11).bind fun e18=>
 bif ((decide (e18<0))||(decide ((l2.length:Int)≤e18)))then
 some (.inr (.inl 11))
 else
 (idx l2 e18).bind fun e22=>
 (Qim e22.Expr env4).bind fun x23=>
 bif (x23.2 != 0)then
 some (.inr (.inl x23.2))
 else
 (idx l2 e18).bind fun e25=>
 bif ((decide (e25.Place<0))||(decide ((n1.Places.length:Int)≤e25.Place)))then
 some (.inr (.inl 3))
 else
 (idx n1.Places e25.Place).bind fun e29=>
 (Qdh n1.Colours e29.Colour x23.1).bind fun x30=>
 bif (!x30.2)then
 some (.inr (.inl 8))
 else
 (idx l12 e25.Place).bind fun e32=>
 (QmO ([x30.1]:List Int)).bind fun x33=>
 (Qba e32 x33).bind fun x34=>
 (idx l12 e25.Place).bind fun e35=>
 bif (x34.2 != 0)then
 some (.inr (.inl x34.2))
 else
 some (.inl ((w64 (x11+1)),(l12.set e25.Place.toNat x34.1)))
 else
 some (.inr (.inr l12))
def Qkp (x15:Int):Option (QMk×Int):=
 some (([]:List QBg),x15)
def Qkq (l16:QMk):Option (QMk×Int):=
 some (l16,0)
def QcG (n1:TNet)(l2:(List TArc))(which3:(List Int))(env4:(List Int)):Option (QMk×Int):=
 (chk (decide (0≤(n1.Places.length:Int))&&decide ((n1.Places.length:Int)≤(n1.Places.length:Int))&&decide ((n1.Places.length:Int)≤4294967296))).bind fun _=>
 (QA (fun st=>QdW which3 l2 env4 n1 st.1 st.2) (0,(List.replicate (n1.Places.length:Int).toNat (([]:QBg):QBg)))).bind (Sum.elim (fun q=>Qkp q) (fun q=>Qkq q))
theorem Qfx (n1:TNet)(l2:(List TArc))(which3:(List Int))(env4:(List Int)){r:(QMk×Int)}(h:QcG n1 l2 which3 env4=some r):Qc Tryz.prog 87 [.agg (Qd n1),.sl 4 (l2.map QG),.sl 1 (which3.map Qe),.sl 1 (env4.map Qe)] [] (Gives (.tup [.sl 1 (r.1.map Qh),.i .i64 r.2]) []):=by
 refine Qc.walk 97 Tryz.func87 rfl Tryz.ntmps87 rfl fun C hC=>?_
 unfold QcG at h
 obtain⟨_,hk9,h⟩:=Qb h
 replace hk9:=chkE hk9
 refine Qa hC [.n 11,.o (.ln n1.Places.length),.o (.rows (List.replicate (n1.Places.length:Int).toNat [.lit (.slice none 0 0)]))] rfl ⟨⟨tt_,Qf⟩,⟨hk9,rfl⟩⟩ ?_
 refine AK.denilA (b:=21) [some 2] rfl (QtJ (f:=Qh) (x:=([]:QBg)) rfl) ?_
 refine Qa hC [.say 21 (.own 21 (List.replicate (n1.Places.length:Int).toNat (([]:QBg):QBg)).length),.n 7,.o (.ln which3.length),.n 4,.keep [1,3,4,10,22,23,24] [4,21]] rfl ⟨⟨tt_,(by simp)⟩,Qf⟩ ?_
 obtain⟨o37,hl37,h⟩:=Qb h
 refine AK.loop (body:=(fun st=>QdW which3 l2 env4 n1 st.1 st.2)) (fun st σ=>σ=⟨[(1,.sl 4 (l2.map QG)),(3,.sl 1 (env4.map Qe)),(4,.loc 4 0 0),(10,.own 21 st.2.length),(22,.sl 1 (which3.map Qe)),(23,.i .i64 (which3.length:Int)),(24,.i .i64 st.1)],[(4,.var (Qd n1)),(21,.arr 1 (st.2.map Qh))]⟩) (Sum.elim (fun q e σ=>e=.ret∧σ=⟨[(8,.lit (.slice none 0 0)),(9,.i .i64 q)],[]⟩) (fun q e σ=>e=.exit 0∧σ=⟨[(10,.own 21 q.length)],[(21,.arr 1 (q.map Qh))]⟩)) hl37 rfl ?_ ?_
 ·rintro ⟨x11,l12⟩ o σ rfl h
  replace h:QdW which3 l2 env4 n1 x11 l12=some o:=h
  unfold QdW at h
  refine Qa hC [.n 6] rfl tt_ ?_
  rcases bifE h with⟨hc17,h⟩|⟨hc17,h⟩
  ·obtain⟨e18,he18,h⟩:=Qb h
   refine Qa hC [.br true,.n 6,.o (.row (Qe e18)),.n 6] rfl ⟨⟨tt_,hc17⟩,(idxM he18)⟩ ?_
   refine AK.meetX (fun σ=>σ=⟨[(1,.sl 4 (l2.map QG)),(3,.sl 1 (env4.map Qe)),(4,.loc 4 0 0),(10,.own 21 l12.length),(12,.i .i64 e18),(22,.sl 1 (which3.map Qe)),(23,.i .i64 (which3.length:Int)),(24,.i .i64 x11),(35,.b ((decide (e18<0))||(decide ((l2.length:Int)≤e18))))],[(4,.var (Qd n1)),(21,.arr 1 (l12.map Qh))]⟩) ?_ ?_
   ·refine Qa hC [.n 4] rfl tt_ ?_
    rcases QN (decide (e18<0))with hc20 | hc20
    ·refine Qa hC [.say 30 (.b true),.n 6,.say 35 (.b ((decide (e18<0))||(decide ((l2.length:Int)≤e18)))),.keep [1,3,4,10,12,22,23,24,35] [4,21]] rfl ⟨⟨tt_,(congrArg V.b hc20)⟩,(congrArg V.b (orT hc20 rfl))⟩ ?_
     exact AK.met rfl
    ·refine Qa hC [.say 30 (.b false),.n 2,.o (.ln l2.length),.n 3,.say 35 (.b ((decide (e18<0))||(decide ((l2.length:Int)≤e18)))),.keep [1,3,4,10,12,22,23,24,35] [4,21]] rfl ⟨⟨⟨tt_,(congrArg V.b hc20)⟩,Qf⟩,(congrArg V.b (orF hc20 rfl))⟩ ?_
     exact AK.met rfl
   ·rintro σ rfl
    refine Qa hC [.n 1] rfl tt_ ?_
    rcases bifE h with⟨hc21,h⟩|⟨hc21,h⟩
    ·refine Qa hC [.br true,.n 10,.keep [8,9] []] rfl ⟨tt_,hc21⟩ ?_
     cases h
     exact rndR rfl (an_ rfl rfl)
    ·obtain⟨e22,he22,h⟩:=Qb h
     obtain⟨x23,hx23,h⟩:=Qb h
     refine Qa hC [.br false,.n 6,.o (.row (QG e22)),.n 1,.v .no [] (.agg (Qm e22.Expr)),.n 1,.o (.c false [.d,.d] (.tup [.i .i64 x23.1,.i .i64 x23.2])),.n 14] rfl ⟨⟨⟨⟨tt_,hc21⟩,(idxM he22)⟩,rfl⟩,(QnY _ _ hx23)⟩ ?_
     rcases bifE h with⟨hc24,h⟩|⟨hc24,h⟩
     ·refine Qa hC [.br true,.n 11,.keep [8,9] []] rfl ⟨tt_,hc24⟩ ?_
      cases h
      exact rndR rfl (an_ rfl rfl)
     ·obtain⟨e25,he25,h⟩:=Qb h
      refine Qa hC [.br false,.n 6,.o (.row (QG e25)),.n 7] rfl ⟨⟨tt_,hc24⟩,(idxM he25)⟩ ?_
      refine AK.meetX (fun σ=>σ=⟨[(1,.sl 4 (l2.map QG)),(3,.sl 1 (env4.map Qe)),(4,.loc 4 0 0),(10,.own 21 l12.length),(13,.i .i64 x23.1),(15,.i .i64 e25.Place),(22,.sl 1 (which3.map Qe)),(23,.i .i64 (which3.length:Int)),(24,.i .i64 x11),(62,.b ((decide (e25.Place<0))||(decide ((n1.Places.length:Int)≤e25.Place))))],[(4,.var (Qd n1)),(21,.arr 1 (l12.map Qh))]⟩) ?_ ?_
      ·refine Qa hC [.n 4] rfl tt_ ?_
       rcases QN (decide (e25.Place<0))with hc27 | hc27
       ·refine Qa hC [.say 56 (.b true),.n 7,.say 62 (.b ((decide (e25.Place<0))||(decide ((n1.Places.length:Int)≤e25.Place)))),.keep [1,3,4,10,13,15,22,23,24,62] [4,21]] rfl ⟨⟨tt_,(congrArg V.b hc27)⟩,(congrArg V.b (orT hc27 rfl))⟩ ?_
        exact AK.met rfl
       ·refine Qa hC [.say 56 (.b false),.n 3,.o (.ln n1.Places.length),.n 3,.say 62 (.b ((decide (e25.Place<0))||(decide ((n1.Places.length:Int)≤e25.Place)))),.keep [1,3,4,10,13,15,22,23,24,62] [4,21]] rfl ⟨⟨⟨tt_,(congrArg V.b hc27)⟩,Qf⟩,(congrArg V.b (orF hc27 rfl))⟩ ?_
        exact AK.met rfl
      ·rintro σ rfl
       refine Qa hC [.n 1] rfl tt_ ?_
       rcases bifE h with⟨hc28,h⟩|⟨hc28,h⟩
       ·refine Qa hC [.br true,.n 10,.keep [8,9] []] rfl ⟨tt_,hc28⟩ ?_
        cases h
        exact rndR rfl (an_ rfl rfl)
       ·obtain⟨e29,he29,h⟩:=Qb h
        obtain⟨x30,hx30,h⟩:=Qb h
        refine Qa hC [.br false,.n 3,.keep [1,3,4,10,13,15,22,23,24] [4,21]] rfl ⟨tt_,hc28⟩ ?_
        refine AK.draw2 Qo hC mixed [.a .no none false,.a .no none false,.a .no none false,.a .no none false,.a .no none false,.a (.row (Qv e29)) none false,.a .no none false,.a .no none false,.a .no none false,.a (.c false [.d,.d,.d] (.tup [.i .i64 x30.1,.b x30.2])) none false,.a .no none false,.a .no none false,.a .no none false,.a .no none false,.a .no none false] [] [] [1,3,4,10,15,16,17,22,23,24] [4,21] rfl rfl rfl ⟨⟨tt_,(idxM he29)⟩,(Qpy _ _ _ hx30)⟩ rfl (by kernel_rfl) rfl rfl rfl ?_
        refine Qa hC [.n 8] rfl tt_ ?_
        rcases bifE h with⟨hc31,h⟩|⟨hc31,h⟩
        ·refine Qa hC [.br true,.n 10,.keep [8,9] []] rfl ⟨tt_,hc31⟩ ?_
         cases h
         exact rndR rfl (an_ rfl rfl)
        ·obtain⟨e32,he32,h⟩:=Qb h
         obtain⟨x33,hx33,h⟩:=Qb h
         obtain⟨x34,hx34,h⟩:=Qb h
         obtain⟨e35,he35,h⟩:=Qb h
         refine Qa hC [.br false,.n 3,.keep [1,3,4,10,15,16,22,23,24] [4,21]] rfl ⟨tt_,hc31⟩ ?_
         refine AK.draw2 Qo hC mixed [.a .no none false,.a .no none false,.a .no none false,.a .no none false,.a .no none false,.a (.row (Qh e32)) none false,.a .no none false,.a (.bd []) (some ([],.sl 1 (([x30.1]:List Int).map Qe))) false,.a (.cd false [.d] 2 (x33.map Qy) x33.length) none false,.a (.c false [.d,.d] (.tup [.sl 2 (x34.1.map Qy),.i .i64 x34.2])) none false,.a .no none true true,.a .no none false,.a .no none true,.a .no none false,.m (.st (Qh e35) ((l12.set e25.Place.toNat x34.1).map Qh)),.a .no none false] [1,3,4,10,15,16,22,23,24] [4] [1,3,4,10,14,22,23,24] [4,21] rfl rfl rfl ⟨⟨⟨⟨⟨⟨⟨tt_,(QdE he32 rfl)⟩,(QbZ (idxE he32).2)⟩,rfl⟩,⟨(Qul _ hx33),Qf⟩⟩,(Qpz _ _ hx34)⟩,(QdE he35 rfl)⟩,⟨(QbZ (idxE he35).2),QkM rfl⟩⟩ rfl (by kernel_rfl) rfl rfl rfl ?_
         refine Qa hC [.n 7] rfl tt_ ?_
         rcases bifE h with⟨hc36,h⟩|⟨hc36,h⟩
         ·refine Qa hC [.br true,.n 10,.keep [8,9] []] rfl ⟨tt_,hc36⟩ ?_
          cases h
          exact rndR rfl (an_ rfl rfl)
         ·refine Qa hC [.br false,.n 7,.say 10 (.own 21 (l12.set e25.Place.toNat x34.1).length),.keep [1,3,4,10,22,23,24] [4,21]] rfl ⟨⟨tt_,hc36⟩,(congrArg (fun n=>V.own 21 n) (by simp))⟩ ?_
          cases h
          exact rndN rfl rfl
  ·refine Qa hC [.br false,.n 2,.keep [10] [21]] rfl ⟨tt_,hc17⟩ ?_
   cases h
   exact rndX rfl (an_ rfl rfl)
 ·rcases o37 with(x15 | l16)
  ·replace h:Qkp x15=some r:=h
   unfold Qkp at h
   rintro e σ ⟨rfl,rfl⟩
   refine Qa hC [.n 2,.denil 8 [some 1],.keep [8,9] []] rfl tt_ ?_
   cases h
   exact AK.done (ex_ [_,_] (an_ (an_ rfl (an_ rfl tt_)) (gives tt_)))
  ·replace h:Qkq l16=some r:=h
   unfold Qkq at h
   rintro e σ ⟨rfl,rfl⟩
   refine Qa hC [.n 10,.frz 21 (l16.map Qh) [8] [],.keep [8,9] []] rfl ⟨tt_,⟨tt_,(frzL Qf)⟩⟩ ?_
   cases h
   exact AK.done (ex_ [_,_] (an_ (an_ rfl (an_ rfl tt_)) (gives tt_)))
def QaR (b1:QD)(outs2:(List Int)):Option Int:=
 (QcG b1.net b1.task.Outs outs2 b1.env).bind fun x4=>
 some x4.2
theorem QjR (b1:QD)(outs2:(List Int)){r:Int}(h:QaR b1 outs2=some r):Qc Tryz.prog 45 [.agg (Qq b1),.sl 1 (outs2.map Qe)] [] (Gives (.i .i64 r) []):=by
 refine Qc.walk 20 Tryz.func45 rfl Tryz.ntmps45 rfl fun C hC=>?_
 unfold QaR at h
 obtain⟨x4,hx4,h⟩:=Qb h
 refine Qa hC [.n 9,.v .no [] (.agg (Qd b1.net)),.n 6,.o (.c false [.d,.d,.d,.d] (.tup [.sl 1 (x4.1.map Qh),.i .i64 x4.2])),.n 14,.keep [4] []] rfl ⟨⟨tt_,rfl⟩,(Qfx _ _ _ _ hx4)⟩ ?_
 cases h
 exact AK.done (ex_ [_] (an_ (an_ rfl tt_) (gives tt_)))
def Qfb (row1:(List Int))(v2:QD):Option Bool:=
 (QaR v2 row1).bind fun x4=>
 some (x4 != 0)
theorem Qmg (row1:(List Int))(v2:QD){r:Bool}(h:Qfb row1 v2=some r):Qc Tryz.prog 80 [.sl 1 (row1.map Qe),.loc 200000 0 0] [(200000,.var (Qq v2))] (Gives (.b r) [(200000,.var (Qq v2))]):=by
 refine Qc.walk 8 Tryz.func80 rfl Tryz.ntmps80 rfl fun C hC=>?_
 unfold Qfb at h
 obtain⟨x4,hx4,h⟩:=Qb h
 refine Qa hC [.n 7,.v .no [] (.agg (Qq v2)),.n 1,.o (.c false [.d,.d] (.i .i64 x4)),.n 5,.keep [3] [200000]] rfl ⟨⟨tt_,rfl⟩,(QjR _ _ hx4)⟩ ?_
 cases h
 exact AK.done (ex_ [_] (an_ (an_ rfl tt_) (gives ⟨rfl,tt_⟩)))
def Qan (l1:QLL)(v2:QD)(x5:Int):Option (Int⊕(Int⊕Unit)):=
 bif (decide (x5<(l1.length:Int)))then
 (idx l1 x5).bind fun e9=>
 (Qfb e9 v2).bind fun x10=>
 bif x10 then
 some (.inr (.inl x5))
 else
 some (.inl (w64 (x5+1)))
 else
 some (.inr (.inr ()))
def QcL (x7:Int):Option Int:=
 some x7
def QcM : Option Int:=
 some (-1)
def Qa9 (l1:QLL)(v2:QD):Option Int:=
 (QA (fun st=>Qan l1 v2 st) 0).bind (Sum.elim (fun q=>QcL q) (fun q=>QcM))
theorem Qkr (l1:QLL)(v2:QD){r:Int}(h:Qa9 l1 v2=some r):Qc Tryz.prog 137 [.own 200000 l1.length,.clo (.func 80) [] [.loc 200001 0 0]] [(200000,.arr 1 (l1.map Qz)),(200001,.var (Qq v2))] (Gives (.i .i64 r) [(200000,.arr 1 (l1.map Qz)),(200001,.var (Qq v2))]):=by
 refine Qc.walk 19 Tryz.func137 rfl Tryz.ntmps137 rfl fun C hC=>?_
 unfold Qa9 at h
 refine Qa hC [.n 14,.keep [0,1,7,8] [200000,200001]] rfl tt_ ?_
 obtain⟨o12,hl12,h⟩:=Qb h
 refine AK.loop (body:=(fun st=>Qan l1 v2 st)) (fun st σ=>σ=⟨[(0,.own 200000 l1.length),(1,.clo (.func 80) [] [.loc 200001 0 0]),(7,.i .i64 (l1.length:Int)),(8,.i .i64 st)],[(200000,.arr 1 (l1.map Qz)),(200001,.var (Qq v2))]⟩) (Sum.elim (fun q e σ=>e=.ret∧σ=⟨[(4,.i .i64 q)],[(200000,.arr 1 (l1.map Qz)),(200001,.var (Qq v2))]⟩) (fun q e σ=>e=.exit 0∧σ=⟨[],[(200000,.arr 1 (l1.map Qz)),(200001,.var (Qq v2))]⟩)) hl12 rfl ?_ ?_
 ·rintro x5 o σ rfl h
  replace h:Qan l1 v2 x5=some o:=h
  unfold Qan at h
  refine Qa hC [.n 6] rfl tt_ ?_
  rcases bifE h with⟨hc8,h⟩|⟨hc8,h⟩
  ·obtain⟨e9,he9,h⟩:=Qb h
   obtain⟨x10,hx10,h⟩:=Qb h
   refine Qa hC [.br true,.n 16,.o (.row (Qz e9)),.cm (.clo) [(200000,200001)] [(200001,200000)] [] [.d,.d] [(200000,.var (Qq v2))] (.b x10),.n 2] rfl ⟨⟨⟨⟨tt_,hc8⟩,(QdE he9 rfl)⟩,(QbZ (idxE he9).2)⟩,(Qmg _ _ hx10)⟩ ?_
   rcases bifE h with⟨hc11,h⟩|⟨hc11,h⟩
   ·refine Qa hC [.br true,.n 9,.keep [4] [200000,200001]] rfl ⟨tt_,hc11⟩ ?_
    cases h
    exact rndR rfl (an_ rfl rfl)
   ·refine Qa hC [.br false,.n 7,.keep [0,1,7,8] [200000,200001]] rfl ⟨tt_,hc11⟩ ?_
    cases h
    exact rndN rfl rfl
  ·refine Qa hC [.br false,.n 2,.keep [] [200000,200001]] rfl ⟨tt_,hc8⟩ ?_
   cases h
   exact rndX rfl (an_ rfl rfl)
 ·rcases o12 with(x7 | _)
  ·replace h:QcL x7=some r:=h
   unfold QcL at h
   rintro e σ ⟨rfl,rfl⟩
   refine Qa hC [.n 2,.keep [4] [200000,200001]] rfl tt_ ?_
   cases h
   exact AK.done (ex_ [_] (an_ (an_ rfl tt_) (gives ⟨rfl,rfl,tt_⟩)))
  ·replace h:QcM=some r:=h
   unfold QcM at h
   rintro e σ ⟨rfl,rfl⟩
   refine Qa hC [.n 8,.keep [4] [200000,200001]] rfl tt_ ?_
   cases h
   exact AK.done (ex_ [_] (an_ (an_ rfl tt_) (gives ⟨rfl,rfl,tt_⟩)))
def Qbs (j10:Int)(i18:Int)(l19:QLL):Option ((Int×Int×QLL)⊕(Int×QLL)):=
 some (.inl (i18,(w64 (j10+1)),l19))
def Qai (v2:QD)(i9:Int)(j10:Int)(l11:QLL):Option ((Int×Int×QLL)⊕(Int×QLL)):=
 bif (decide (j10<(l11.length:Int)))then
 (idx l11 j10).bind fun e20=>
 (Qfb e20 v2).bind fun x21=>
 bif (!x21)then
 (idx l11 i9).bind fun e23=>
 Qbs j10 (w64 (i9+1)) (l11.set i9.toNat e20)
 else
 Qbs j10 i9 l11
 else
 some (.inr (i9,l11))
def QaK (i15:Int)(l16:QLL):Option QLL:=
 (chk (decide (0≤i15)&&decide (i15.toNat≤l16.length))).bind fun _=>
 (chk (decide (0≤i15)&&decide (i15.toNat≤(l16.take i15.toNat++List.replicate (l16.length-i15.toNat) (([]:(List Int)):(List Int))).length))).bind fun _=>
 some ((l16.take i15.toNat++List.replicate (l16.length-i15.toNat) (([]:(List Int)):(List Int))).take i15.toNat)
def Qa3 (l1:QLL)(v2:QD):Option QLL:=
 (Qa9 l1 v2).bind fun x5=>
 bif (x5==(-1))then
 some l1
 else
 (QA (fun st=>Qai v2 st.1 st.2.1 st.2.2) (x5,(w64 (x5+1)),l1)).bind (fun q=>QaK q.1 q.2)
theorem QjS (l1:QLL)(v2:QD){r:QLL}(h:Qa3 l1 v2=some r):Qc Tryz.prog 78 [.own 200000 l1.length,.clo (.func 80) [] [.loc 200001 0 0]] [(200000,.arr 1 (l1.map Qz)),(200001,.var (Qq v2))] (Gives (.own 200000 r.length) [(200000,.arr 1 (r.map Qz)),(200001,.var (Qq v2))]):=by
 refine Qc.walk 42 Tryz.func78 rfl Tryz.ntmps78 rfl fun C hC=>?_
 unfold Qa3 at h
 obtain⟨x5,hx5,h⟩:=Qb h
 refine Qa hC [.n 9,.cm (.fn) [(200000,200000),(200001,200001)] [(200000,200000),(200001,200001)] [] [.d,.d] [(200000,.arr 1 (l1.map Qz)),(200001,.var (Qq v2))] (.i .i64 x5),.n 10] rfl ⟨tt_,(Qkr _ _ hx5)⟩ ?_
 rcases bifE h with⟨hc6,h⟩|⟨hc6,h⟩
 ·refine Qa hC [.br true,.n 8,.keep [4] [200000,200001]] rfl ⟨tt_,hc6⟩ ?_
  cases h
  exact AK.done (ex_ [_] (an_ (an_ rfl tt_) (gives ⟨rfl,rfl,tt_⟩)))
 ·refine Qa hC [.br false,.n 11,.keep [0,1,5,6] [200000,200001]] rfl ⟨tt_,hc6⟩ ?_
  obtain⟨o24,hl24,h⟩:=Qb h
  refine AK.loop (body:=(fun st=>Qai v2 st.1 st.2.1 st.2.2)) (fun st σ=>σ=⟨[(0,.own 200000 st.2.2.length),(1,.clo (.func 80) [] [.loc 200001 0 0]),(5,.i .i64 st.1),(6,.i .i64 st.2.1)],[(200000,.arr 1 (st.2.2.map Qz)),(200001,.var (Qq v2))]⟩) (fun q e σ=>e=.exit 0∧σ=⟨[(0,.own 200000 q.2.length),(5,.i .i64 q.1)],[(200000,.arr 1 (q.2.map Qz)),(200001,.var (Qq v2))]⟩) hl24 rfl ?_ ?_
  ·rintro ⟨i9,j10,l11⟩ o σ rfl h
   replace h:Qai v2 i9 j10 l11=some o:=h
   unfold Qai at h
   refine Qa hC [.n 9] rfl tt_ ?_
   rcases bifE h with⟨hc17,h⟩|⟨hc17,h⟩
   ·refine Qa hC [.br true,.n 2] rfl ⟨tt_,hc17⟩ ?_
    refine AK.meet (fun σ=>∃i18:Int,∃l19:QLL,σ=⟨[(0,.own 200000 l19.length),(1,.clo (.func 80) [] [.loc 200001 0 0]),(5,.i .i64 i18),(6,.i .i64 j10)],[(200000,.arr 1 (l19.map Qz)),(200001,.var (Qq v2))]⟩∧Qbs j10 i18 l19=some o) ?_ ?_
    ·obtain⟨e20,he20,h⟩:=Qb h
     obtain⟨x21,hx21,h⟩:=Qb h
     refine Qa hC [.n 6,.o (.row (Qz e20)),.n 7,.cm (.clo) [(200000,200001)] [(200001,200000)] [] [.d,.d] [(200000,.var (Qq v2))] (.b x21),.n 3] rfl ⟨⟨⟨tt_,(QdE he20 rfl)⟩,(QbZ (idxE he20).2)⟩,(Qmg _ _ hx21)⟩ ?_
     rcases bifE h with⟨hc22,h⟩|⟨hc22,h⟩
     ·obtain⟨e23,he23,h⟩:=Qb h
      refine Qa hC [.br true,.n 6,.st (Qz e23) ((l11.set i9.toNat e20).map Qz),.n 8,.say 0 (.own 200000 (l11.set i9.toNat e20).length),.keep [0,1,5,6] [200000,200001]] rfl ⟨⟨⟨⟨tt_,hc22⟩,(QdE he23 rfl)⟩,⟨(QbZ (idxE he23).2),QkM rfl⟩⟩,(congrArg (fun n=>V.own 200000 n) (by simp))⟩ ?_
      exact AK.met (ex_ _ (ex_ _ (an_ rfl h)))
     ·refine Qa hC [.br false,.n 2,.keep [0,1,5,6] [200000,200001]] rfl ⟨tt_,hc22⟩ ?_
      exact AK.met (ex_ _ (ex_ _ (an_ rfl h)))
    ·rintro σ ⟨i18,l19,rfl,h⟩
     unfold Qbs at h
     refine Qa hC [.n 5,.keep [0,1,5,6] [200000,200001]] rfl tt_ ?_
     cases h
     exact rndN rfl rfl
   ·refine Qa hC [.br false,.n 2,.keep [0,5] [200000,200001]] rfl ⟨tt_,hc17⟩ ?_
    cases h
    exact rndX rfl (an_ rfl rfl)
  ·obtain⟨i15,l16⟩:=o24
   replace h:QaK i15 l16=some r:=h
   unfold QaK at h
   rintro e σ ⟨rfl,rfl⟩
   refine Qa hC [.n 6] rfl tt_ ?_
   obtain⟨_,hk25,h⟩:=Qb h
   replace hk25:=chkE hk25
   refine AK.clearTail (b:=200000) (l:=i15.toNat) (n:=l16.length) rfl rfl rfl rfl rfl rfl (bleN hC.n rfl) rfl rfl Qf (Qo.es rfl) Qw9 rfl rfl rfl (Bnd.val rfl (of_decide_eq_true (Qpn hk25)) rfl) (of_decide_eq_true (QlO hk25)) rfl ?_
   refine AK.denilA (b:=200000) [some 1] rfl (QxG (f:=Qz) (x:=(([]:(List Int)):(List Int))) (fun _=>rfl) rfl) ?_
   obtain⟨_,hk26,h⟩:=Qb h
   replace hk26:=chkE hk26
   refine Qa hC [.say 0 (.own 200000 (l16.take i15.toNat++List.replicate (l16.length-i15.toNat) (([]:(List Int)):(List Int))).length),.say 36 (.own 200000 (l16.take i15.toNat++List.replicate (l16.length-i15.toNat) (([]:(List Int)):(List Int))).length),.n 6] rfl ⟨⟨tt_,(QvN (of_decide_eq_true (QlO hk25)))⟩,(QvN (of_decide_eq_true (QlO hk25)))⟩ ?_
   have hl27:i15.toNat=((l16.take i15.toNat++List.replicate (l16.length-i15.toNat) (([]:(List Int)):(List Int))).take i15.toNat).length:=by rw [List.length_take,Nat.min_eq_left (of_decide_eq_true (QlO hk26))]
   refine Qa hC [.x (fun σ=>(σ.set 200000 (.arr 1 (((l16.take i15.toNat++List.replicate (l16.length-i15.toNat) (([]:(List Int)):(List Int))).take i15.toNat).map Qz))).put 41 (.own 200000 i15.toNat)),.say 41 (.own 200000 ((l16.take i15.toNat++List.replicate (l16.length-i15.toNat) (([]:(List Int)):(List Int))).take i15.toNat).length),.n 4,.keep [4] [200000,200001]] rfl ⟨⟨tt_,(Stp.sliceO rfl rfl (bleN hC.n rfl) rfl rfl (Qo.es rfl) Bnd.no (Bnd.val rfl (of_decide_eq_true (Qpn hk26)) rfl) (of_decide_eq_true (QlO hk26)) (by simp))⟩,(QxC (of_decide_eq_true (QlO hk26)))⟩ ?_
   cases h
   exact AK.done (ex_ [_] (an_ (an_ rfl tt_) (gives ⟨rfl,rfl,tt_⟩)))
def QbJ (m2:QBg)(k7:Int)(v8:Int):Option (Unit⊕Unit):=
 bif (decide (((mget m2 k7).getD 0)<v8))then
 some (.inr ())
 else
 some (.inl ())
def QgL : Option Bool:=
 some true
def QgM : Option Bool:=
 some false
def Qcv (m1:QBg)(m2:QBg):Option Bool:=
 (Qh3 (fun st p=>QbJ m2 p.1 p.2) () m1).bind (Sum.elim (fun q=>QgL) (fun q=>QgM))
theorem QjT (m1:QBg)(m2:QBg){r:Bool}(h:Qcv m1 m2=some r):Qc Tryz.prog 146 [.map 200000,.map 200001] [(200000,.map (mapV (V.i .i64) (V.i .i64) m1)),(200001,.map (mapV (V.i .i64) (V.i .i64) m2))] (Gives (.b r) [(200000,.map (mapV (V.i .i64) (V.i .i64) m1)),(200001,.map (mapV (V.i .i64) (V.i .i64) m2))]):=by
 refine Qc.walk 19 Tryz.func146 rfl Tryz.ntmps146 rfl fun C hC=>?_
 unfold Qcv at h
 refine Qa hC [.n 9] rfl tt_ ?_
 refine AK.openMap (b:=200000) ky_3 rfl fun bm5 cl5 L5 hbn5 hpm5=>?_
 refine Qa hC [.x (fun σ=>(σ.set 8 (.itr bm5 cl5 #[] none)).put 8 (.loc 8 0 0)),.n 3,.keep [1,8] [8,200000,200001]] rfl ⟨tt_,(Stp.range (b:=200000) rfl rfl (bleN hC.n rfl) rfl rfl Qd7 rfl)⟩ ?_
 obtain⟨o10,hl10,h⟩:=Qb h
 refine AK.range (body:=(fun st p=>QbJ m2 p.1 p.2)) (fun st seen σ=>∃cur:Option MapEntry,σ=⟨[(1,.map 200001),(8,.loc 8 0 0)],[(8,.itr bm5 cl5 seen cur),(200000,.mapX bm5 cl5 (typV (V.i .i64) (V.i .i64) L5) (mapV (V.i .i64) (V.i .i64) m1)),(200001,.map (mapV (V.i .i64) (V.i .i64) m2))]⟩) (fun q e σ=>e=.ret∧σ=⟨[(4,.b false)],[(200000,.mapX bm5 cl5 (typV (V.i .i64) (V.i .i64) L5) (mapV (V.i .i64) (V.i .i64) m1)),(200001,.map (mapV (V.i .i64) (V.i .i64) m2))]⟩) (fun st e σ=>e=.exit 0∧σ=⟨[],[(200000,.mapX bm5 cl5 (typV (V.i .i64) (V.i .i64) L5) (mapV (V.i .i64) (V.i .i64) m1)),(200001,.map (mapV (V.i .i64) (V.i .i64) m2))]⟩) hbn5 hpm5 hl10 (ex_ _ rfl) ?_ ?_
 ·rintro _ seen σ ⟨cur,rfl⟩ hex
  refine Qa hC [.n 2] rfl tt_ ?_
  refine AK.nextT (b:=8) (m:=200000) rfl rfl rfl (bleN hC.n rfl) rfl rfl rfl rfl ?_ ?_
  ·intro hleft
   refine Qa hC [.n 7,.keep [] [200000,200001]] rfl tt_ ?_
   exact AK.done (Or.inl (an_ hleft (an_ (fun h=>(by cases h)) (an_ rfl rfl))))
  ·intro xk7 k7 v8 hq6
   obtain⟨o,h⟩:=hex _ hq6
   have ho:=h
   replace h:QbJ m2 k7 v8=some o:=h
   unfold QbJ at h
   refine Qa hC [.n 10,.x (fun σ=>σ.put 11 (.tup [.i .i64 k7,.i .i64 v8])),.n 11,.o (.any (.i .i64 ((mget m2 k7).getD 0)) none),.n 3] rfl ⟨⟨tt_,(Stp.entryT (b:=8) (m:=200000) rfl rfl (bleN hC.n rfl) rfl hq6 rfl rfl)⟩,(fun σ h1 h2 _=>Stp.lookup (e:=(V.i .i64)) (f:=(V.i .i64)) (l:=m2) (k:=k7) (z:=0) rfl rfl (bleN hC.n rfl) (h1 _ _ rfl) (h2 _ _ rfl) (h1 _ _ rfl) Qd7 ky_3 zi_3 rfl)⟩ ?_
   rcases bifE h with⟨hc9,h⟩|⟨hc9,h⟩
   ·refine Qa hC [.br true,.n 7,.keep [4] [200000,200001]] rfl ⟨tt_,hc9⟩ ?_
    cases h
    exact AK.done (Or.inr (ex_ _ (an_ hq6 (Or.inr (ex_ _ (an_ ho (an_ (fun h=>(by cases h)) (an_ rfl rfl))))))))
   ·refine Qa hC [.br false,.n 2,.keep [1,8] [8,200000,200001]] rfl ⟨tt_,hc9⟩ ?_
    cases h
    exact AK.done (Or.inr (ex_ _ (an_ hq6 (Or.inl (ex_ _ (an_ ho (an_ rfl (ex_ _ rfl))))))))
 ·rcases o10 with(_ | _)
  ·replace h:QgL=some r:=h
   unfold QgL at h
   rintro e σ ⟨rfl,rfl⟩
   refine Qa hC [.n 8] rfl tt_ ?_
   refine AK.closeMap (b:=200000) rfl ?_
   refine Qa hC [.keep [4] [200000,200001]] rfl tt_ ?_
   cases h
   exact AK.done (ex_ [_] (an_ (an_ rfl tt_) (gives ⟨rfl,rfl,tt_⟩)))
  ·replace h:QgM=some r:=h
   unfold QgM at h
   rintro e σ ⟨rfl,rfl⟩
   refine Qa hC [.n 2] rfl tt_ ?_
   refine AK.closeMap (b:=200000) rfl ?_
   refine Qa hC [.keep [4] [200000,200001]] rfl tt_ ?_
   cases h
   exact AK.done (ex_ [_] (an_ (an_ rfl tt_) (gives ⟨rfl,rfl,tt_⟩)))
def Qk2 (a6:Unit):Option Bool:=
 some false
def Qk3 (a7:QBg):Option Bool:=
 some false
def Qk4 (a8:QBg):Option Bool:=
 some false
def QiD (a9:(QBg×QBg)):Option Bool:=
 (Qcv a9.1 a9.2).bind fun x10=>
 some x10
def QiY (a1:QBg)(b2:QBg):Option Bool:=
 (QhQ a1 b2).bind (Sum.elim (fun q=>Qk2 q) (Sum.elim (fun q=>Qk3 q) (Sum.elim (fun q=>Qk4 q) (fun q=>QiD q))))
theorem QrL (a1:QBg)(b2:QBg){r:Bool}(h:QiY a1 b2=some r):Qc Tryz.prog 143 [.sl 2 (a1.map Qy),.sl 2 (b2.map Qy)] [] (Gives (.b r) []):=by
 refine Qc.walk 21 Tryz.func143 rfl Tryz.ntmps143 rfl fun C hC=>?_
 unfold QiY at h
 obtain⟨x5,hx5,h⟩:=Qb h
 refine Qa hC [.n 9] rfl tt_ ?_
 rcases x5 with(a6 | (a7 | (a8 | a9)))
 ·replace h:Qk2 a6=some r:=h
  unfold Qk2 at h
  refine Qa hC [.cm (.fn) [] [] [] [.d,.d] [] (.tup [.lit (.map none),.lit (.map none),.b false]),.n 21,.keep [4] []] rfl ⟨tt_,(Qbf _ _ hx5)⟩ ?_
  cases h
  exact AK.done (ex_ [_] (an_ (an_ rfl tt_) (gives tt_)))
 ·replace h:Qk3 a7=some r:=h
  unfold Qk3 at h
  refine Qa hC [.cm (.fn) [] [(11,30005)] [] [.d,.d] [(30005,.map (mapV (V.i .i64) (V.i .i64) a7))] (.tup [.lit (.map none),.map 30005,.b false]),.n 21,.keep [4] []] rfl ⟨tt_,(Qbf _ _ hx5)⟩ ?_
  cases h
  exact AK.done (ex_ [_] (an_ (an_ rfl tt_) (gives tt_)))
 ·replace h:Qk4 a8=some r:=h
  unfold Qk4 at h
  refine Qa hC [.cm (.fn) [] [(11,30004)] [] [.d,.d] [(30004,.map (mapV (V.i .i64) (V.i .i64) a8))] (.tup [.map 30004,.lit (.map none),.b false]),.n 21,.keep [4] []] rfl ⟨tt_,(Qbf _ _ hx5)⟩ ?_
  cases h
  exact AK.done (ex_ [_] (an_ (an_ rfl tt_) (gives tt_)))
 ·replace h:QiD a9=some r:=h
  unfold QiD at h
  obtain⟨x10,hx10,h⟩:=Qb h
  refine Qa hC [.cm (.fn) [] [(11,30004),(50000,30005)] [] [.d,.d] [(30004,.map (mapV (V.i .i64) (V.i .i64) a9.1)),(30005,.map (mapV (V.i .i64) (V.i .i64) a9.2))] (.tup [.map 30004,.map 30005,.b true]),.n 15,.cm (.fn) [(200000,11),(200001,50000)] [(11,200000),(50000,200001)] [] [.d,.d] [(200000,.map (mapV (V.i .i64) (V.i .i64) a9.1)),(200001,.map (mapV (V.i .i64) (V.i .i64) a9.2))] (.b x10),.n 5,.keep [4] []] rfl ⟨⟨tt_,(Qbf _ _ hx5)⟩,(QjT _ _ hx10)⟩ ?_
  cases h
  exact AK.done (ex_ [_] (an_ (an_ rfl tt_) (gives tt_)))
def QF (s1:QMk)(s2:QMk)(x6:Int):Option (Int⊕(Unit⊕Unit)):=
 bif (decide (x6<(s1.length:Int)))then
 (idx s1 x6).bind fun e9=>
 (idx s2 x6).bind fun e10=>
 (QiY e9 e10).bind fun x11=>
 bif (!x11)then
 some (.inr (.inl ()))
 else
 some (.inl (w64 (x6+1)))
 else
 some (.inr (.inr ()))
def Qaa : Option Bool:=
 some false
def Qab : Option Bool:=
 some true
def QR (s1:QMk)(s2:QMk):Option Bool:=
 bif ((s1.length:Int) != (s2.length:Int))then
 some false
 else
 (QA (fun st=>QF s1 s2 st) 0).bind (Sum.elim (fun q=>Qaa) (fun q=>Qab))
theorem Qdb (s1:QMk)(s2:QMk){r:Bool}(h:QR s1 s2=some r):Qc Tryz.prog 46 [.sl 1 (s1.map Qh),.sl 1 (s2.map Qh),.clo (.func 143) [] []] [] (Gives (.b r) []):=by
 refine Qc.walk 32 Tryz.func46 rfl Tryz.ntmps46 rfl fun C hC=>?_
 unfold QR at h
 refine Qa hC [.n 9,.o (.ln s1.length),.n 1,.o (.ln s2.length),.n 3] rfl ⟨⟨tt_,Qf⟩,Qf⟩ ?_
 rcases bifE h with⟨hc5,h⟩|⟨hc5,h⟩
 ·refine Qa hC [.br true,.n 7,.keep [6] []] rfl ⟨tt_,hc5⟩ ?_
  cases h
  exact AK.done (ex_ [_] (an_ (an_ rfl tt_) (gives tt_)))
 ·refine Qa hC [.br false,.n 6,.o (.ln s1.length),.n 4,.keep [1,2,15,16,17] []] rfl ⟨⟨tt_,hc5⟩,Qf⟩ ?_
  obtain⟨o13,hl13,h⟩:=Qb h
  refine AK.loop (body:=(fun st=>QF s1 s2 st)) (fun st σ=>σ=⟨[(1,.sl 1 (s2.map Qh)),(2,.clo (.func 143) [] []),(15,.sl 1 (s1.map Qh)),(16,.i .i64 (s1.length:Int)),(17,.i .i64 st)],[]⟩) (Sum.elim (fun q e σ=>e=.ret∧σ=⟨[(6,.b false)],[]⟩) (fun q e σ=>e=.exit 0∧σ=⟨[],[]⟩)) hl13 rfl ?_ ?_
  ·rintro x6 o σ rfl h
   replace h:QF s1 s2 x6=some o:=h
   unfold QF at h
   refine Qa hC [.n 6] rfl tt_ ?_
   rcases bifE h with⟨hc8,h⟩|⟨hc8,h⟩
   ·obtain⟨e9,he9,h⟩:=Qb h
    obtain⟨e10,he10,h⟩:=Qb h
    obtain⟨x11,hx11,h⟩:=Qb h
    refine Qa hC [.br true,.n 7,.o (.row (Qh e9)),.n 9,.o (.row (Qh e10)),.n 9,.o (.c false [.d,.d] (.b x11)),.n 3] rfl ⟨⟨⟨⟨tt_,hc8⟩,(idxM he9)⟩,(idxM he10)⟩,(QrL _ _ hx11)⟩ ?_
    rcases bifE h with⟨hc12,h⟩|⟨hc12,h⟩
    ·refine Qa hC [.br true,.n 8,.keep [6] []] rfl ⟨tt_,hc12⟩ ?_
     cases h
     exact rndR rfl (an_ rfl rfl)
    ·refine Qa hC [.br false,.n 7,.keep [1,2,15,16,17] []] rfl ⟨tt_,hc12⟩ ?_
     cases h
     exact rndN rfl rfl
   ·refine Qa hC [.br false,.n 2,.keep [] []] rfl ⟨tt_,hc8⟩ ?_
    cases h
    exact rndX rfl (an_ rfl rfl)
  ·rcases o13 with(_ | _)
   ·replace h:Qaa=some r:=h
    unfold Qaa at h
    rintro e σ ⟨rfl,rfl⟩
    refine Qa hC [.n 2,.keep [6] []] rfl tt_ ?_
    cases h
    exact AK.done (ex_ [_] (an_ (an_ rfl tt_) (gives tt_)))
   ·replace h:Qab=some r:=h
    unfold Qab at h
    rintro e σ ⟨rfl,rfl⟩
    refine Qa hC [.n 8,.keep [6] []] rfl tt_ ?_
    cases h
    exact AK.done (ex_ [_] (an_ (an_ rfl tt_) (gives tt_)))
def Qge (need1:QMk)(m2:QMk):Option Bool:=
 (QR need1 m2).bind fun x4=>
 some x4
theorem QmT (need1:QMk)(m2:QMk){r:Bool}(h:Qge need1 m2=some r):Qc Tryz.prog 88 [.sl 1 (need1.map Qh),.sl 1 (m2.map Qh)] [] (Gives (.b r) []):=by
 refine Qc.walk 8 Tryz.func88 rfl Tryz.ntmps88 rfl fun C hC=>?_
 unfold Qge at h
 obtain⟨x4,hx4,h⟩:=Qb h
 refine Qa hC [.n 9,.cm (.fn) [] [] [] [.d,.d,.d] [] (.b x4),.n 4,.keep [4] []] rfl ⟨tt_,(Qdb _ _ hx4)⟩ ?_
 cases h
 exact AK.done (ex_ [_] (an_ (an_ rfl tt_) (gives tt_)))
def Qa6 (s1:(List Int))(v2:Int)(x5:Int):Option (Int⊕(Int⊕Unit)):=
 bif (decide (x5<(s1.length:Int)))then
 (idx s1 x5).bind fun e9=>
 bif (v2==e9)then
 some (.inr (.inl x5))
 else
 some (.inl (w64 (x5+1)))
 else
 some (.inr (.inr ()))
def QbR (x7:Int):Option Int:=
 some x7
def QbS : Option Int:=
 some (-1)
def Qcy (s1:(List Int))(v2:Int):Option Int:=
 (QA (fun st=>Qa6 s1 v2 st) 0).bind (Sum.elim (fun q=>QbR q) (fun q=>QbS))
theorem Qmq (s1:(List Int))(v2:Int){r:Int}(h:Qcy s1 v2=some r):Qc Tryz.prog 144 [.sl 1 (s1.map Qe),.i .i64 v2] [] (Gives (.i .i64 r) []):=by
 refine Qc.walk 19 Tryz.func144 rfl Tryz.ntmps144 rfl fun C hC=>?_
 unfold Qcy at h
 refine Qa hC [.n 9,.o (.ln s1.length),.n 4,.keep [0,1,7,8] []] rfl ⟨tt_,Qf⟩ ?_
 obtain⟨o11,hl11,h⟩:=Qb h
 refine AK.loop (body:=(fun st=>Qa6 s1 v2 st)) (fun st σ=>σ=⟨[(0,.sl 1 (s1.map Qe)),(1,.i .i64 v2),(7,.i .i64 (s1.length:Int)),(8,.i .i64 st)],[]⟩) (Sum.elim (fun q e σ=>e=.ret∧σ=⟨[(4,.i .i64 q)],[]⟩) (fun q e σ=>e=.exit 0∧σ=⟨[],[]⟩)) hl11 rfl ?_ ?_
 ·rintro x5 o σ rfl h
  replace h:Qa6 s1 v2 x5=some o:=h
  unfold Qa6 at h
  refine Qa hC [.n 6] rfl tt_ ?_
  rcases bifE h with⟨hc8,h⟩|⟨hc8,h⟩
  ·obtain⟨e9,he9,h⟩:=Qb h
   refine Qa hC [.br true,.n 15,.o (.row (Qe e9)),.n 4] rfl ⟨⟨tt_,hc8⟩,(idxM he9)⟩ ?_
   rcases bifE h with⟨hc10,h⟩|⟨hc10,h⟩
   ·refine Qa hC [.br true,.n 9,.keep [4] []] rfl ⟨tt_,hc10⟩ ?_
    cases h
    exact rndR rfl (an_ rfl rfl)
   ·refine Qa hC [.br false,.n 7,.keep [0,1,7,8] []] rfl ⟨tt_,hc10⟩ ?_
    cases h
    exact rndN rfl rfl
  ·refine Qa hC [.br false,.n 2,.keep [] []] rfl ⟨tt_,hc8⟩ ?_
   cases h
   exact rndX rfl (an_ rfl rfl)
 ·rcases o11 with(x7 | _)
  ·replace h:QbR x7=some r:=h
   unfold QbR at h
   rintro e σ ⟨rfl,rfl⟩
   refine Qa hC [.n 2,.keep [4] []] rfl tt_ ?_
   cases h
   exact AK.done (ex_ [_] (an_ (an_ rfl tt_) (gives tt_)))
  ·replace h:QbS=some r:=h
   unfold QbS at h
   rintro e σ ⟨rfl,rfl⟩
   refine Qa hC [.n 8,.keep [4] []] rfl tt_ ?_
   cases h
   exact AK.done (ex_ [_] (an_ (an_ rfl tt_) (gives tt_)))
def QaJ (s1:(List Int))(v2:Int):Option Bool:=
 (Qcy s1 v2).bind fun x4=>
 some (decide (0≤x4))
theorem Qhg (s1:(List Int))(v2:Int){r:Bool}(h:QaJ s1 v2=some r):Qc Tryz.prog 89 [.sl 1 (s1.map Qe),.i .i64 v2] [] (Gives (.b r) []):=by
 refine Qc.walk 9 Tryz.func89 rfl Tryz.ntmps89 rfl fun C hC=>?_
 unfold QaJ at h
 obtain⟨x4,hx4,h⟩:=Qb h
 refine Qa hC [.n 9,.o (.c false [.d,.d] (.i .i64 x4)),.n 5,.keep [4] []] rfl ⟨tt_,(Qmq _ _ hx4)⟩ ?_
 cases h
 exact AK.done (ex_ [_] (an_ (an_ rfl tt_) (gives tt_)))
def Qcz (x10:Int):Option (Int⊕(Unit⊕Unit)):=
 some (.inl (w64 (x10+1)))
def QgN (x19:(QMk×Int))(b1:QD):Option Bool:=
 bif (x19.2==0)then
 (Qge x19.1 b1.m).bind fun x23=>
 some x23
 else
 some false
def QcA (x10:Int)(x20:Bool):Option (Int⊕(Unit⊕Unit)):=
 bif x20 then
 some (.inr (.inl ()))
 else
 Qcz x10
def QbK (b1:QD)(ins2:(List Int))(x10:Int):Option (Int⊕(Unit⊕Unit)):=
 bif (decide (x10<(b1.task.Ins.length:Int)))then
 (QaJ ins2 x10).bind fun x13=>
 bif x13 then
 Qcz x10
 else
 (Qau ins2).bind fun x15=>
 (chk (decide (x15.length+([x10]:List Int).length≤4294967296))).bind fun _=>
 (QaS (x15++([x10]:List Int))).bind fun x17=>
 (chk (decide (x17.length=(x15++([x10]:List Int)).length))).bind fun _=>
 (QcG b1.net b1.task.Ins x17 b1.env).bind fun x19=>
 (QgN x19 b1).bind (fun x20=>QcA x10 x20)
 else
 some (.inr (.inr ()))
def QgO : Option Int:=
 some 11
def QgP : Option Int:=
 some 0
def Q4 (b1:QD)(ins2:(List Int)):Option Int:=
 (QcG b1.net b1.task.Ins ins2 b1.env).bind fun x5=>
 bif (x5.2 != 0)then
 some x5.2
 else
 (Qge x5.1 b1.m).bind fun x7=>
 bif (!x7)then
 some 10
 else
 bif (b1.task.Join != 3)then
 some 0
 else
 (QA (fun st=>QbK b1 ins2 st) 0).bind (Sum.elim (fun q=>QgO) (fun q=>QgP))
theorem QjU (b1:QD)(ins2:(List Int)){r:Int}(h:Q4 b1 ins2=some r):Qc Tryz.prog 44 [.agg (Qq b1),.sl 1 (ins2.map Qe)] [] (Gives (.i .i64 r) []):=by
 refine Qc.walk 76 Tryz.func44 rfl Tryz.ntmps44 rfl fun C hC=>?_
 unfold Q4 at h
 obtain⟨x5,hx5,h⟩:=Qb h
 refine Qa hC [.n 9,.v .no [] (.agg (Qd b1.net)),.n 6,.o (.c false [.d,.d,.d,.d] (.tup [.sl 1 (x5.1.map Qh),.i .i64 x5.2])),.n 16] rfl ⟨⟨tt_,rfl⟩,(Qfx _ _ _ _ hx5)⟩ ?_
 rcases bifE h with⟨hc6,h⟩|⟨hc6,h⟩
 ·refine Qa hC [.br true,.n 9,.keep [4] []] rfl ⟨tt_,hc6⟩ ?_
  cases h
  exact AK.done (ex_ [_] (an_ (an_ rfl tt_) (gives tt_)))
 ·obtain⟨x7,hx7,h⟩:=Qb h
  refine Qa hC [.br false,.n 5,.o (.c false [.d,.d] (.b x7)),.n 4] rfl ⟨⟨tt_,hc6⟩,(QmT _ _ hx7)⟩ ?_
  rcases bifE h with⟨hc8,h⟩|⟨hc8,h⟩
  ·refine Qa hC [.br true,.n 8,.keep [4] []] rfl ⟨tt_,hc8⟩ ?_
   cases h
   exact AK.done (ex_ [_] (an_ (an_ rfl tt_) (gives tt_)))
  ·refine Qa hC [.br false,.n 9] rfl ⟨tt_,hc8⟩ ?_
   rcases bifE h with⟨hc9,h⟩|⟨hc9,h⟩
   ·refine Qa hC [.br true,.n 8,.keep [4] []] rfl ⟨tt_,hc9⟩ ?_
    cases h
    exact AK.done (ex_ [_] (an_ (an_ rfl tt_) (gives tt_)))
   ·refine Qa hC [.br false,.n 9,.o (.ln b1.task.Ins.length),.n 4,.keep [1,2,41,42] [2]] rfl ⟨⟨tt_,hc9⟩,Qf⟩ ?_
    obtain⟨o25,hl25,h⟩:=Qb h
    refine AK.loop (body:=(fun st=>QbK b1 ins2 st)) (fun st σ=>σ=⟨[(1,.sl 1 (ins2.map Qe)),(2,.loc 2 0 0),(41,.i .i64 (b1.task.Ins.length:Int)),(42,.i .i64 st)],[(2,.var (Qq b1))]⟩) (Sum.elim (fun q e σ=>e=.ret∧σ=⟨[(4,.i .i64 11)],[]⟩) (fun q e σ=>e=.exit 1∧σ=⟨[],[]⟩)) hl25 rfl ?_ ?_
    ·rintro x10 o σ rfl h
     replace h:QbK b1 ins2 x10=some o:=h
     unfold QbK at h
     refine Qa hC [.n 6] rfl tt_ ?_
     rcases bifE h with⟨hc12,h⟩|⟨hc12,h⟩
     ·refine Qa hC [.br true,.n 2] rfl ⟨tt_,hc12⟩ ?_
      refine AK.meet (fun σ=>σ=⟨[(1,.sl 1 (ins2.map Qe)),(2,.loc 2 0 0),(41,.i .i64 (b1.task.Ins.length:Int)),(42,.i .i64 x10)],[(2,.var (Qq b1))]⟩∧Qcz x10=some o) ?_ ?_
      ·obtain⟨x13,hx13,h⟩:=Qb h
       refine Qa hC [.n 12,.o (.c false [.d,.d] (.b x13)),.n 2] rfl ⟨tt_,(Qhg _ _ hx13)⟩ ?_
       rcases bifE h with⟨hc14,h⟩|⟨hc14,h⟩
       ·refine Qa hC [.br true,.n 3,.keep [1,2,41,42] [2]] rfl ⟨tt_,hc14⟩ ?_
        exact AK.met (an_ rfl h)
       ·obtain⟨x15,hx15,h⟩:=Qb h
        obtain⟨_,hk16,h⟩:=Qb h
        replace hk16:=chkE hk16
        obtain⟨x17,hx17,h⟩:=Qb h
        obtain⟨_,hk18,h⟩:=Qb h
        replace hk18:=chkE hk18
        obtain⟨x19,hx19,h⟩:=Qb h
        refine Qa hC [.br false,.n 5,.o (.co false [.d] 1 (x15.map Qe) x15.length),.n 1,.v (.bd []) [] (.sl 1 (([x10]:List Int).map Qe)),.app ((x15++([x10]:List Int)).map Qe) (x15++([x10]:List Int)).length,.n 6,.cm (.fn) [(200000,49)] [(49,200000)] [] [.d] [(200000,.arr 1 (x17.map Qe))] (.tup []),.say 8 (.own 49 x17.length),.say 52 (.own 49 x17.length),.say 53 (.own 49 x17.length),.n 5,.v .no [] (.agg (Qd b1.net)),.n 6,.frz 49 (x17.map Qe) [8,52,53,61] [],.o (.c false [.d,.d,.d,.d] (.tup [.sl 1 (x19.1.map Qh),.i .i64 x19.2])),.n 8] rfl ⟨⟨⟨⟨⟨⟨⟨⟨⟨⟨⟨tt_,hc14⟩,⟨(QbO _ hx15),Qf,.inl rfl⟩⟩,rfl⟩,⟨Qf,Qdf hk16 Qf,Qcc,QeV Qf⟩⟩,(Qfv _ hx17)⟩,(by simp [of_decide_eq_true hk18])⟩,(by simp [of_decide_eq_true hk18])⟩,(by simp [of_decide_eq_true hk18])⟩,rfl⟩,⟨⟨⟨⟨tt_,(frzL Qf)⟩,(frzL Qf)⟩,(frzL Qf)⟩,(frzL Qf)⟩⟩,(Qfx _ _ _ _ hx19)⟩ ?_
        obtain⟨x20,hv21,h⟩:=Qb h
        replace h:QcA x10 x20=some o:=h
        refine AK.meetX (fun σ=>σ=⟨[(1,.sl 1 (ins2.map Qe)),(2,.loc 2 0 0),(41,.i .i64 (b1.task.Ins.length:Int)),(42,.i .i64 x10),(74,.b x20)],[(2,.var (Qq b1))]⟩) ?_ ?_
        ·replace h:=hv21
         unfold QgN at h
         refine Qa hC [.n 4] rfl tt_ ?_
         rcases bifE h with⟨hc22,h⟩|⟨hc22,h⟩
         ·obtain⟨x23,hx23,h⟩:=Qb h
          refine Qa hC [.say 69 (.b true),.n 3,.o (.c false [.d,.d] (.b x23)),.n 2,.keep [1,2,41,42,74] [2]] rfl ⟨⟨tt_,(congrArg V.b hc22)⟩,(QmT _ _ hx23)⟩ ?_
          cases h
          exact AK.met rfl
         ·refine Qa hC [.say 69 (.b false),.n 6,.keep [1,2,41,42,74] [2]] rfl ⟨tt_,(congrArg V.b hc22)⟩ ?_
          cases h
          exact AK.met rfl
        ·rintro σ rfl
         replace h:QcA x10 x20=some o:=h
         unfold QcA at h
         refine Qa hC [.n 1] rfl tt_ ?_
         rcases bifE h with⟨hc24,h⟩|⟨hc24,h⟩
         ·refine Qa hC [.br true,.n 8,.keep [4] []] rfl ⟨tt_,hc24⟩ ?_
          cases h
          exact rndR rfl (an_ rfl rfl)
         ·refine Qa hC [.br false,.n 2,.keep [1,2,41,42] [2]] rfl ⟨tt_,hc24⟩ ?_
          exact AK.met (an_ rfl h)
      ·rintro σ ⟨rfl,h⟩
       unfold Qcz at h
       refine Qa hC [.n 4,.keep [1,2,41,42] [2]] rfl tt_ ?_
       cases h
       exact rndN rfl rfl
     ·refine Qa hC [.br false,.n 2,.keep [] []] rfl ⟨tt_,hc12⟩ ?_
      cases h
      exact rndX rfl (an_ rfl rfl)
    ·rcases o25 with(_ | _)
     ·replace h:QgO=some r:=h
      unfold QgO at h
      rintro e σ ⟨rfl,rfl⟩
      refine Qa hC [.n 2,.keep [4] []] rfl tt_ ?_
      cases h
      exact AK.done (ex_ [_] (an_ (an_ rfl tt_) (gives tt_)))
     ·replace h:QgP=some r:=h
      unfold QgP at h
      rintro e σ ⟨rfl,rfl⟩
      refine Qa hC [.n 8,.keep [4] []] rfl tt_ ?_
      cases h
      exact AK.done (ex_ [_] (an_ (an_ rfl tt_) (gives tt_)))

end Go.Proofs
