/- What functions of the program do, as functions over plain data, and the walks that show it: printed by a program. -/
import Derived.Test.YtphohlpbjofddaaGreatDoorL3V3
import Derived.Test.YtphohlpbjofddaaGreatDoorProg
set_option linter.unusedVariables false
set_option linter.unusedSimpArgs false
set_option linter.unusedSectionVars false
set_option linter.deprecated false
set_option maxRecDepth 100000
set_option maxHeartbeats 4000000
noncomputable section
namespace Go.Proofs
open Go Go.RowKit Go.Vm
structure QA where
 Name:ByteArray
 Kind:Int
 Lo:Int
 Hi:Int
 Names:(List ByteArray)
 First:Int
 Then:Int
structure QB where
 Name:ByteArray
 Colour:Int
 First:(List (Int×Int))
structure TVar where
 Name:ByteArray
 Colour:Int
structure Qg where
 Kind:Int
 Num:Int
 Kids:(List Qg)
structure TArc where
 Place:Int
 Expr:Qg
structure Qr where
 Name:ByteArray
 Vars:(List TVar)
 Guard:Qg
 Join:Int
 Split:Int
 Ins:(List TArc)
 Outs:(List TArc)
 Cancel:(List Int)
 After:Int
 Many:(Int×Int×Int)
structure TNet where
 Colours:(List QA)
 Places:(List QB)
 Tasks:(List Qr)
 From:Int
 To:Int
structure Qk where
 Task:Int
 Vars:(List Int)
 Ins:(List Int)
 Outs:(List Int)
structure QD where
 net:TNet
 m:(List (List (Int×Int)))
 task:Qr
 env:(List Int)
structure Qak where
 all:(List QA)
 sizes:(List Int)
 k:Int
structure Qd6 where
 Kind:Int
 At:Int
def QdM (x:ByteArray):List V:=[.s x]
def Qe (x:Int):List V:=[.i .i64 x]
theorem QvR (l:List Int):∀r∈l.map Qe,∀v∈r,v.sca=true:=Qxk (fun _=>rfl) l
def QxN (x:(List ByteArray)):List V:=[.sl 1 (x.map QdM)]
def Qx (x:QA):List V:=[.s x.Name,.i .i64 x.Kind,.i .i64 x.Lo,.i .i64 x.Hi,.sl 1 (x.Names.map QdM),.i .i64 x.First,.i .i64 x.Then]
def QtR (x:(List QA)):List V:=[.sl 7 (x.map Qx)]
def Qy (x:(Int×Int)):List V:=[.i .i64 x.1,.i .i64 x.2]
def Qh (x:(List (Int×Int))):List V:=[.sl 2 (x.map Qy)]
def Qv (x:QB):List V:=[.s x.Name,.i .i64 x.Colour,.sl 2 (x.First.map Qy)]
def Qul (x:(List QB)):List V:=[.sl 3 (x.map Qv)]
def QE (x:TVar):List V:=[.s x.Name,.i .i64 x.Colour]
def QbQ (x:(List TVar)):List V:=[.sl 2 (x.map QE)]
mutual
def QoC : Qg→List V
 | ⟨x0,x1,x2⟩=>[.i .i64 x0,.i .i64 x1,.sl 3 (Qa4 x2)]
def Qa4 : List Qg→List (List V)
 | []=>[]
 | e::es=>QoC e::Qa4 es
end
def Qm (x:Qg):List V:=[.i .i64 x.Kind,.i .i64 x.Num,.sl 3 (Qa4 x.Kids)]
theorem Qs6 : ∀x:Qg,QoC x=Qm x
 | ⟨x0,x1,x2⟩=>by rw [QoC];rfl
theorem Qjf : ∀l:List Qg,Qa4 l=l.map Qm
 | []=>by rw [Qa4];rfl
 | e::es=>by rw [Qa4,Qjf es,Qs6];rfl
theorem Qjg (l:List Qg):(Qa4 l).length=l.length:=by rw [Qjf,List.length_map]
theorem Qd7 {l:List Qg}{j:Int}{x:Qg}(h:idx l j=some x):0≤j∧(Qa4 l)[j.toNat]? = some (Qm x):=by rw [Qjf];exact idxM h
def QH (x:TArc):List V:=[.i .i64 x.Place,.i .i64 x.Expr.Kind,.i .i64 x.Expr.Num,.sl 3 (Qa4 x.Expr.Kids)]
def QvS (x:(List TArc)):List V:=[.sl 4 (x.map QH)]
def Qz (x:(List Int)):List V:=[.sl 1 (x.map Qe)]
def Qsr (x:(Int×Int×Int)):List V:=[.i .i64 x.1,.i .i64 x.2.1,.i .i64 x.2.2]
def Qi (x:Qr):List V:=[.s x.Name,.sl 2 (x.Vars.map QE),.i .i64 x.Guard.Kind,.i .i64 x.Guard.Num,.sl 3 (Qa4 x.Guard.Kids),.i .i64 x.Join,.i .i64 x.Split,.sl 4 (x.Ins.map QH),.sl 4 (x.Outs.map QH),.sl 1 (x.Cancel.map Qe),.i .i64 x.After,.i .i64 x.Many.1,.i .i64 x.Many.2.1,.i .i64 x.Many.2.2]
def Qu7 (x:(List Qr)):List V:=[.sl 14 (x.map Qi)]
def Qd (x:TNet):List V:=[.sl 7 (x.Colours.map Qx),.sl 3 (x.Places.map Qv),.sl 14 (x.Tasks.map Qi),.i .i64 x.From,.i .i64 x.To]
def Qj (x:Qk):List V:=[.i .i64 x.Task,.sl 1 (x.Vars.map Qe),.sl 1 (x.Ins.map Qe),.sl 1 (x.Outs.map Qe)]
def Qs (x:(List (List (Int×Int)))):List V:=[.sl 1 (x.map Qh)]
def QaQ (x:Int):List V:=[.i .u8 x]
def QI (x:(List (List Int))):List V:=[.sl 1 (x.map Qz)]
def Qq (x:QD):List V:=[.sl 7 (x.net.Colours.map Qx),.sl 3 (x.net.Places.map Qv),.sl 14 (x.net.Tasks.map Qi),.i .i64 x.net.From,.i .i64 x.net.To,.sl 1 (x.m.map Qh),.s x.task.Name,.sl 2 (x.task.Vars.map QE),.i .i64 x.task.Guard.Kind,.i .i64 x.task.Guard.Num,.sl 3 (Qa4 x.task.Guard.Kids),.i .i64 x.task.Join,.i .i64 x.task.Split,.sl 4 (x.task.Ins.map QH),.sl 4 (x.task.Outs.map QH),.sl 1 (x.task.Cancel.map Qe),.i .i64 x.task.After,.i .i64 x.task.Many.1,.i .i64 x.task.Many.2.1,.i .i64 x.task.Many.2.2,.sl 1 (x.env.map Qe)]
def QM (x:Qak):List V:=[.sl 7 (x.all.map Qx),.sl 1 (x.sizes.map Qe),.i .i64 x.k]
def Qu8 (x:(List Qk)):List V:=[.sl 4 (x.map Qj)]
def Qc1 (x:Qd6):List V:=[.i .i64 x.Kind,.i .i64 x.At]
def Qfx (fn:Nat):Qg0:=rfOf Tryz.f261 0 fn
def QaB (fn:Nat):Qg0:=rfOf Tryz.f40 0 fn
def QwJ : Go.Shelf.Ren:=⟨fun | 20=>39 | n=>n,fun | 0=>0 | 3=>3 | 4=>4 | 22=>29 | n=>n,fun n=>n⟩
theorem QvT : Lays2.n20 Tryz.prog QwJ where
 mixed:=by kernel_rfl
 f20:=Tryz.func39.trans (congrArg some (by kernel_rfl))
 t0:=Tryz.underlying0
 a0:=Tryz.isAgg0
 z0:=Tryz.sizeOf0
 v0:=Tryz.zeroValue0
 t3:=Tryz.underlying3
 a3:=Tryz.isAgg3
 z3:=Tryz.sizeOf3
 v3:=Tryz.zeroValue3
 t4:=Tryz.underlying4
 a4:=Tryz.isAgg4
 z4:=Tryz.sizeOf4
 v4:=Tryz.zeroValue4
 t22:=Tryz.underlying29
 a22:=Tryz.isAgg29
 z22:=Tryz.sizeOf29
 v22:=Tryz.zeroValue29
 i3:=by kernel_rfl
theorem Qx7 (a0 a1 a2 b0 b1 b2:Int):EqT Tryz.prog 52 [.int .i64 a0,.int .i64 a1,.int .i64 a2] [.int .i64 b0,.int .i64 b1,.int .i64 b2] ((a0==b0)&&((a1==b1)&&(a2==b2))):=by
 refine⟨by kernel_rfl,fun w=>?_⟩
 have u3:=Tryz.underlying3
 have g3:=Tryz.isAgg3
 have z3:=Tryz.sizeOf3
 show(Op.equalIn (9999+1) 52 (.agg #[.int .i64 a0,.int .i64 a1,.int .i64 a2]) (.agg #[.int .i64 b0,.int .i64 b1,.int .i64 b2])).run Tryz.prog w=_
 rw [Op.equalIn]
 simp only [Sem.run_bind,run_underlying Tryz.underlying52,Result.andThen_ok]
 simp only [Std.Legacy.Range.forIn_eq_forIn_range',Std.Legacy.Range.size,Nat.sub_zero,Nat.add_sub_cancel,Nat.div_one,List.range'_succ,List.range'_zero,List.forIn_cons,List.forIn_nil]
 go_simp
 by_cases h0:a0=b0<;>by_cases h1:a1=b1<;>by_cases h2:a2=b2<;>simp [h0,h1,h2]
theorem Qx8 (a0 a1 b0 b1:Int):EqT Tryz.prog 64 [.int .i64 a0,.int .i64 a1] [.int .i64 b0,.int .i64 b1] ((a0==b0)&&(a1==b1)):=by
 refine⟨by kernel_rfl,fun w=>?_⟩
 have u3:=Tryz.underlying3
 have g3:=Tryz.isAgg3
 have z3:=Tryz.sizeOf3
 show(Op.equalIn (9999+1) 64 (.agg #[.int .i64 a0,.int .i64 a1]) (.agg #[.int .i64 b0,.int .i64 b1])).run Tryz.prog w=_
 rw [Op.equalIn]
 simp only [Sem.run_bind,run_underlying Tryz.underlying64,Result.andThen_ok]
 simp only [Std.Legacy.Range.forIn_eq_forIn_range',Std.Legacy.Range.size,Nat.sub_zero,Nat.add_sub_cancel,Nat.div_one,List.range'_succ,List.range'_zero,List.forIn_cons,List.forIn_nil]
 go_simp
 by_cases h0:a0=b0<;>by_cases h1:a1=b1<;>simp [h0,h1]
theorem Qxn : Qpz Tryz.prog 91 1=some (1,false,1):=by kernel_rfl
theorem Qxo : Qpz Tryz.prog 91 2=some (2,false,1):=by kernel_rfl
def QwK : Go.Shelf.Ren:=⟨fun | 157=>263 | 199=>272 | 229=>271 | 261=>275 | 311=>276 | 312=>277 | n=>n,fun | 0=>0 | 3=>3 | 4=>4 | 5=>5 | 9=>9 | 21=>21 | 31=>89 | 40=>257 | 46=>118 | 49=>270 | 51=>164 | 119=>255 | 141=>265 | 152=>261 | 154=>263 | 193=>266 | 194=>267 | 196=>269 | 198=>272 | 201=>275 | 226=>277 | 227=>278 | n=>n,fun | 0=>0 | 6=>1 | n=>n⟩
theorem QvU : Lays.n157 Tryz.prog QwK where
 mixed:=by kernel_rfl
 f157:=Tryz.func263.trans (congrArg some (by kernel_rfl))
 f199:=Tryz.func272.trans (congrArg some (by kernel_rfl))
 f229:=Tryz.func271.trans (congrArg some (by kernel_rfl))
 f261:=Tryz.func275.trans (congrArg some (by kernel_rfl))
 f311:=Tryz.func276.trans (congrArg some (by kernel_rfl))
 f312:=Tryz.func277.trans (congrArg some (by kernel_rfl))
 t0:=Tryz.underlying0
 a0:=Tryz.isAgg0
 z0:=Tryz.sizeOf0
 v0:=Tryz.zeroValue0
 t3:=Tryz.underlying3
 a3:=Tryz.isAgg3
 z3:=Tryz.sizeOf3
 v3:=Tryz.zeroValue3
 t4:=Tryz.underlying4
 a4:=Tryz.isAgg4
 z4:=Tryz.sizeOf4
 v4:=Tryz.zeroValue4
 t5:=Tryz.underlying5
 a5:=Tryz.isAgg5
 z5:=Tryz.sizeOf5
 v5:=Tryz.zeroValue5
 t9:=Tryz.underlying9
 a9:=Tryz.isAgg9
 z9:=Tryz.sizeOf9
 v9:=Tryz.zeroValue9
 t21:=Tryz.underlying21
 a21:=Tryz.isAgg21
 z21:=Tryz.sizeOf21
 v21:=Tryz.zeroValue21
 t31:=Tryz.underlying89
 a31:=Tryz.isAgg89
 z31:=Tryz.sizeOf89
 v31:=Tryz.zeroValue89
 t40:=Tryz.underlying257
 a40:=Tryz.isAgg257
 z40:=Tryz.sizeOf257
 v40:=Tryz.zeroValue257
 t46:=Tryz.underlying118
 a46:=Tryz.isAgg118
 z46:=Tryz.sizeOf118
 v46:=Tryz.zeroValue118
 t49:=Tryz.underlying270
 a49:=Tryz.isAgg270
 z49:=Tryz.sizeOf270
 v49:=Tryz.zeroValue270
 t51:=Tryz.underlying164
 a51:=Tryz.isAgg164
 z51:=Tryz.sizeOf164
 v51:=Tryz.zeroValue164
 t119:=Tryz.underlying255
 a119:=Tryz.isAgg255
 z119:=Tryz.sizeOf255
 t141:=Tryz.underlying265
 a141:=Tryz.isAgg265
 z141:=Tryz.sizeOf265
 v141:=Tryz.zeroValue265
 t152:=Tryz.underlying261
 a152:=Tryz.isAgg261
 z152:=Tryz.sizeOf261
 v152:=Tryz.zeroValue261
 t154:=Tryz.underlying263
 a154:=Tryz.isAgg263
 z154:=Tryz.sizeOf263
 v154:=Tryz.zeroValue263
 t193:=Tryz.underlying266
 a193:=Tryz.isAgg266
 z193:=Tryz.sizeOf266
 v193:=Tryz.zeroValue266
 t194:=Tryz.underlying267
 a194:=Tryz.isAgg267
 z194:=Tryz.sizeOf267
 v194:=Tryz.zeroValue267
 t196:=Tryz.underlying269
 a196:=Tryz.isAgg269
 z196:=Tryz.sizeOf269
 v196:=Tryz.zeroValue269
 t198:=Tryz.underlying272
 a198:=Tryz.isAgg272
 z198:=Tryz.sizeOf272
 v198:=Tryz.zeroValue272
 t201:=Tryz.underlying275
 a201:=Tryz.isAgg275
 z201:=Tryz.sizeOf275
 v201:=Tryz.zeroValue275
 t226:=Tryz.underlying277
 a226:=Tryz.isAgg277
 z226:=Tryz.sizeOf277
 v226:=Tryz.zeroValue277
 t227:=Tryz.underlying278
 a227:=Tryz.isAgg278
 z227:=Tryz.sizeOf278
 v227:=Tryz.zeroValue278
 g0:=by kernel_rfl
 g6:=by kernel_rfl
theorem QpA : intT Tryz.prog 166 .u64=true:=by kernel_rfl
theorem it_3 : intT Tryz.prog 3 .i64=true:=by kernel_rfl
theorem it_5 : intT Tryz.prog 5 .u8=true:=by kernel_rfl
theorem ky_3 : Qgm Tryz.prog 3 (V.i .i64) (Value.int .i64):=Qgm.int (by kernel_rfl)
theorem ky_9 : Qgm Tryz.prog 9 V.s Value.string:=Qgm.str (by kernel_rfl)
theorem mixed : Tryz.prog.follows .mixedOrders=true:=by kernel_rfl
theorem Qeg : mapT Tryz.prog 146=some (3,3):=by kernel_rfl
theorem QoD : mapT Tryz.prog 68=some (9,4):=by kernel_rfl
theorem Qu9 : mapT Tryz.prog 72=some (3,3):=by kernel_rfl
def QwL : Go.Shelf.Ren:=⟨fun | 125=>75 | 128=>134 | 129=>135 | 189=>38 | 215=>199 | 216=>131 | 257=>74 | 294=>125 | 295=>126 | 296=>127 | 297=>128 | 298=>129 | 299=>130 | 300=>132 | 301=>133 | 328=>194 | 329=>195 | 330=>196 | 331=>197 | 332=>198 | 343=>239 | n=>n,fun | 0=>0 | 3=>3 | 4=>4 | 5=>5 | 9=>9 | 28=>29 | 46=>118 | 51=>164 | 53=>166 | 131=>73 | 182=>156 | 183=>157 | 218=>204 | 222=>208 | 228=>235 | 229=>236 | n=>n,fun n=>n⟩
theorem QvV : Lays.n189 Tryz.prog QwL where
 mixed:=by kernel_rfl
 f125:=Tryz.func75.trans (congrArg some (by kernel_rfl))
 f128:=Tryz.func134.trans (congrArg some (by kernel_rfl))
 f129:=Tryz.func135.trans (congrArg some (by kernel_rfl))
 f189:=Tryz.func38.trans (congrArg some (by kernel_rfl))
 f215:=Tryz.func199.trans (congrArg some (by kernel_rfl))
 f216:=Tryz.func131.trans (congrArg some (by kernel_rfl))
 f257:=Tryz.func74.trans (congrArg some (by kernel_rfl))
 f294:=Tryz.func125.trans (congrArg some (by kernel_rfl))
 f295:=Tryz.func126.trans (congrArg some (by kernel_rfl))
 f296:=Tryz.func127.trans (congrArg some (by kernel_rfl))
 f297:=Tryz.func128.trans (congrArg some (by kernel_rfl))
 f298:=Tryz.func129.trans (congrArg some (by kernel_rfl))
 f299:=Tryz.func130.trans (congrArg some (by kernel_rfl))
 f300:=Tryz.func132.trans (congrArg some (by kernel_rfl))
 f301:=Tryz.func133.trans (congrArg some (by kernel_rfl))
 f328:=Tryz.func194.trans (congrArg some (by kernel_rfl))
 f329:=Tryz.func195.trans (congrArg some (by kernel_rfl))
 f330:=Tryz.func196.trans (congrArg some (by kernel_rfl))
 f331:=Tryz.func197.trans (congrArg some (by kernel_rfl))
 f332:=Tryz.func198.trans (congrArg some (by kernel_rfl))
 f343:=Tryz.func239.trans (congrArg some (by kernel_rfl))
 t0:=Tryz.underlying0
 a0:=Tryz.isAgg0
 z0:=Tryz.sizeOf0
 v0:=Tryz.zeroValue0
 t3:=Tryz.underlying3
 a3:=Tryz.isAgg3
 z3:=Tryz.sizeOf3
 v3:=Tryz.zeroValue3
 t4:=Tryz.underlying4
 a4:=Tryz.isAgg4
 z4:=Tryz.sizeOf4
 v4:=Tryz.zeroValue4
 t5:=Tryz.underlying5
 a5:=Tryz.isAgg5
 z5:=Tryz.sizeOf5
 v5:=Tryz.zeroValue5
 t9:=Tryz.underlying9
 a9:=Tryz.isAgg9
 z9:=Tryz.sizeOf9
 v9:=Tryz.zeroValue9
 t28:=Tryz.underlying29
 a28:=Tryz.isAgg29
 z28:=Tryz.sizeOf29
 v28:=Tryz.zeroValue29
 t46:=Tryz.underlying118
 a46:=Tryz.isAgg118
 z46:=Tryz.sizeOf118
 v46:=Tryz.zeroValue118
 t51:=Tryz.underlying164
 a51:=Tryz.isAgg164
 z51:=Tryz.sizeOf164
 v51:=Tryz.zeroValue164
 t53:=Tryz.underlying166
 a53:=Tryz.isAgg166
 z53:=Tryz.sizeOf166
 v53:=Tryz.zeroValue166
 t131:=Tryz.underlying73
 a131:=Tryz.isAgg73
 z131:=Tryz.sizeOf73
 v131:=Tryz.zeroValue73
 t182:=Tryz.underlying156
 a182:=Tryz.isAgg156
 z182:=Tryz.sizeOf156
 v182:=Tryz.zeroValue156
 t183:=Tryz.underlying157
 a183:=Tryz.isAgg157
 z183:=Tryz.sizeOf157
 v183:=Tryz.zeroValue157
 t218:=Tryz.underlying204
 a218:=Tryz.isAgg204
 z218:=Tryz.sizeOf204
 v218:=Tryz.zeroValue204
 t222:=Tryz.underlying208
 a222:=Tryz.isAgg208
 z222:=Tryz.sizeOf208
 v222:=Tryz.zeroValue208
 t228:=Tryz.underlying235
 a228:=Tryz.isAgg235
 z228:=Tryz.sizeOf235
 v228:=Tryz.zeroValue235
 t229:=Tryz.underlying236
 a229:=Tryz.isAgg236
 z229:=Tryz.sizeOf236
 v229:=Tryz.zeroValue236
theorem QxO : Tryz.prog.underlying 102=some (.slice 5):=by kernel_rfl
theorem QxP : Tryz.prog.underlying 119=some (.slice 29):=by kernel_rfl
theorem Qx9 : Tryz.prog.underlying 28=some (.slice 59):=by kernel_rfl
theorem Qya : Tryz.prog.underlying 29=some (.slice 3):=by kernel_rfl
theorem Qyb : Tryz.prog.underlying 59=some (.slice 64):=by kernel_rfl
theorem zi_3 : QjN Tryz.prog 3 ((V.i .i64) 0):=QjN.one (v:=.int .i64 0) (by kernel_rfl)
theorem zi_4 : QjN Tryz.prog 4 (V.b false):=QjN.one (v:=.bool false) (by kernel_rfl)
theorem zv_3 : Qam Tryz.prog 3=some [.i .i64 0]:=by kernel_rfl
theorem zv_5 : Qam Tryz.prog 5=some [.i .u8 0]:=by kernel_rfl
theorem zv_9 : Qam Tryz.prog 9=some [.s (⟨#[]⟩:ByteArray)]:=by kernel_rfl
theorem Qyc : Qam Tryz.prog 26=some [.lit (.slice none 0 0),.lit (.slice none 0 0),.lit (.slice none 0 0),.i .i64 0,.i .i64 0]:=by kernel_rfl
theorem Qyd : Qam Tryz.prog 28=some [.lit (.slice none 0 0)]:=by kernel_rfl
theorem Qxf : Qam Tryz.prog 29=some [.lit (.slice none 0 0)]:=by kernel_rfl
theorem Qye : Qam Tryz.prog 31=some [.i .i64 0,.lit (.slice none 0 0),.lit (.slice none 0 0),.lit (.slice none 0 0)]:=by kernel_rfl
theorem Qyf : Qam Tryz.prog 39=some [.lit (.slice none 0 0)]:=by kernel_rfl
theorem Qyg : Qam Tryz.prog 50=some [.i .i64 0,.i .i64 0,.lit (.slice none 0 0)]:=by kernel_rfl
theorem Qyh : Qam Tryz.prog 52=some [.i .i64 0,.i .i64 0,.i .i64 0]:=by kernel_rfl
theorem Qyi : Qam Tryz.prog 54=some [.s (⟨#[]⟩:ByteArray),.lit (.slice none 0 0),.i .i64 0,.i .i64 0,.lit (.slice none 0 0),.i .i64 0,.i .i64 0,.lit (.slice none 0 0),.lit (.slice none 0 0),.lit (.slice none 0 0),.i .i64 0,.i .i64 0,.i .i64 0,.i .i64 0]:=by kernel_rfl
theorem Qyj : Qam Tryz.prog 56=some [.i .i64 0]:=by kernel_rfl
theorem Qyk : Qam Tryz.prog 59=some [.lit (.slice none 0 0)]:=by kernel_rfl
theorem Qyl : Qam Tryz.prog 64=some [.i .i64 0,.i .i64 0]:=by kernel_rfl
theorem Qym : Qam Tryz.prog 77=some [.i .i64 0,.i .i64 0,.i .i64 0,.lit (.slice none 0 0)]:=by kernel_rfl
theorem Qyn : Qam Tryz.prog 82=some [.lit (.slice none 0 0),.lit (.slice none 0 0),.lit (.slice none 0 0),.i .i64 0,.i .i64 0,.lit (.slice none 0 0),.s (⟨#[]⟩:ByteArray),.lit (.slice none 0 0),.i .i64 0,.i .i64 0,.lit (.slice none 0 0),.i .i64 0,.i .i64 0,.lit (.slice none 0 0),.lit (.slice none 0 0),.lit (.slice none 0 0),.i .i64 0,.i .i64 0,.i .i64 0,.i .i64 0,.lit (.slice none 0 0)]:=by kernel_rfl
theorem Qyo : Qam Tryz.prog 91=some [.s (⟨#[]⟩:ByteArray),.i .i64 0,.i .i64 0,.i .i64 0,.lit (.slice none 0 0),.i .i64 0,.i .i64 0]:=by kernel_rfl
theorem Qyp : Qam Tryz.prog 93=some [.s (⟨#[]⟩:ByteArray),.i .i64 0,.lit (.slice none 0 0)]:=by kernel_rfl
theorem Qyq : Qam Tryz.prog 97=some [.i .i64 0,.i .i64 0]:=by kernel_rfl
theorem QxQ : Qam Tryz.prog 119=some [.lit (.slice none 0 0)]:=by kernel_rfl
theorem QxR : Qam Tryz.prog 132=some [.s (⟨#[]⟩:ByteArray),.i .i64 0]:=by kernel_rfl
theorem QlT : Qam Tryz.prog 136=some [.lit (.nilFunc),.i .i64 0]:=by kernel_rfl
theorem QxS : Qam Tryz.prog 183=some [.lit (.nilFunc)]:=by kernel_rfl
theorem QxT : Qam Tryz.prog 188=some [.lit (.nilFunc)]:=by kernel_rfl
theorem QxU : Qam Tryz.prog 196=some [.lit (.slice none 0 0),.lit (.slice none 0 0),.i .i64 0]:=by kernel_rfl
theorem QxV : Qam Tryz.prog 224=some [.lit (.nilFunc)]:=by kernel_rfl
def tab : Tab:={ ag:=[(3,false),(9,false),(22,false),(23,false),(24,false),(26,true),(28,false),(29,false),(31,true),(32,false),(39,false),(47,false),(48,false),(50,true),(51,false),(52,true),(54,true),(56,false),(59,false),(64,true),(77,true),(82,true),(85,false),(89,false),(91,true),(93,true),(97,true),(119,false),(132,true),(136,true),(146,false),(183,false),(188,false),(191,false),(196,true),(224,false)],sz:=[(3,1),(26,5),(28,1),(29,1),(31,4),(39,1),(50,3),(52,3),(54,14),(56,1),(59,1),(64,2),(77,4),(82,21),(91,7),(93,3),(97,2),(119,1),(132,2),(136,2),(183,1),(188,1),(196,3),(224,1)],fo:=[(26,[0,1,2,3,4]),(31,[0,1,2,3]),(50,[0,1,2]),(54,[0,1,2,5,6,7,8,9,10,11]),(77,[0,1]),(82,[0,5,6,20]),(91,[0,1,2,3,4,5,6]),(93,[0,1,2]),(132,[0,1]),(136,[0,1]),(196,[0,1,2])],sp:=[(26,[(0,1),(1,1),(2,1),(3,1),(4,1)]),(31,[(0,1),(1,1),(2,1),(3,1)]),(50,[(0,1),(1,1),(2,1)]),(54,[(0,1),(1,1),(2,3),(5,1),(6,1),(7,1),(8,1),(9,1),(10,1),(11,3)]),(77,[(0,1),(1,3)]),(82,[(0,5),(5,1),(6,14),(20,1)]),(91,[(0,1),(1,1),(2,1),(3,1),(4,1),(5,1),(6,1)]),(93,[(0,1),(1,1),(2,1)]),(97,[(0,1),(1,1)]),(136,[(0,1),(1,1)]),(196,[(0,1),(1,1),(2,1)])],es:=[(22,(91,7,80)),(23,(93,3,48)),(24,(54,14,200)),(28,(59,1,24)),(29,(3,1,8)),(35,(28,1,24)),(39,(31,4,80)),(47,(132,2,24)),(48,(50,3,40)),(51,(77,4,48)),(59,(64,2,16)),(89,(9,1,16)),(102,(5,1,1)),(119,(29,1,24)),(168,(3,1,8)),(177,(136,2,16))],ar:=[(52,(3,1)),(64,(2,1))],zv:=[(3,[.i .i64 0]),(5,[.i .u8 0]),(9,[.s (⟨#[]⟩:ByteArray)]),(26,[.lit (.slice none 0 0),.lit (.slice none 0 0),.lit (.slice none 0 0),.i .i64 0,.i .i64 0]),(28,[.lit (.slice none 0 0)]),(29,[.lit (.slice none 0 0)]),(31,[.i .i64 0,.lit (.slice none 0 0),.lit (.slice none 0 0),.lit (.slice none 0 0)]),(39,[.lit (.slice none 0 0)]),(50,[.i .i64 0,.i .i64 0,.lit (.slice none 0 0)]),(52,[.i .i64 0,.i .i64 0,.i .i64 0]),(54,[.s (⟨#[]⟩:ByteArray),.lit (.slice none 0 0),.i .i64 0,.i .i64 0,.lit (.slice none 0 0),.i .i64 0,.i .i64 0,.lit (.slice none 0 0),.lit (.slice none 0 0),.lit (.slice none 0 0),.i .i64 0,.i .i64 0,.i .i64 0,.i .i64 0]),(56,[.i .i64 0]),(59,[.lit (.slice none 0 0)]),(64,[.i .i64 0,.i .i64 0]),(77,[.i .i64 0,.i .i64 0,.i .i64 0,.lit (.slice none 0 0)]),(82,[.lit (.slice none 0 0),.lit (.slice none 0 0),.lit (.slice none 0 0),.i .i64 0,.i .i64 0,.lit (.slice none 0 0),.s (⟨#[]⟩:ByteArray),.lit (.slice none 0 0),.i .i64 0,.i .i64 0,.lit (.slice none 0 0),.i .i64 0,.i .i64 0,.lit (.slice none 0 0),.lit (.slice none 0 0),.lit (.slice none 0 0),.i .i64 0,.i .i64 0,.i .i64 0,.i .i64 0,.lit (.slice none 0 0)]),(91,[.s (⟨#[]⟩:ByteArray),.i .i64 0,.i .i64 0,.i .i64 0,.lit (.slice none 0 0),.i .i64 0,.i .i64 0]),(93,[.s (⟨#[]⟩:ByteArray),.i .i64 0,.lit (.slice none 0 0)]),(97,[.i .i64 0,.i .i64 0]),(119,[.lit (.slice none 0 0)]),(132,[.s (⟨#[]⟩:ByteArray),.i .i64 0]),(136,[.lit (.nilFunc),.i .i64 0]),(183,[.lit (.nilFunc)]),(188,[.lit (.nilFunc)]),(196,[.lit (.slice none 0 0),.lit (.slice none 0 0),.i .i64 0]),(224,[.lit (.nilFunc)])],sb:=[9],bo:=[4],cc:=[],en:=[8,9,10,11,14,17,19,20,22,23,24,25,26,27,28,29,30,36,38,39,40,41,42,43,44,45,46,47,48,49,50,51,52,53,54,55,56,57,58,63,64,76,77,78,79,80,81,82,83,84,85,86,87,88,89,90,91,92,93,94,95,96,97,98,99,100,101,102,103,104,105,106,107,108,109,110,111,112,113,118,136,137,138,139,140,141,142,143,144,145,146,147,148,149,150,151,152,153,154,155,156,157,158,159,160,161,162,163,164,165,166,167,168,169,170,171,172,173,174,175,176,177,178,179,180,181,182,183,184,200,201,202,203,204,205,206,207,208,209,210,211,212,213,214,215,216,217,218,219,220,221,222,223,224,225,226,227,228,229,230,231,240,241,242,243,244,245,246,247,248,249,250,251,252,253,254,255,258,259,260,261,262,263,264,265,266,267,268,269,270,273,274] }
theorem Qo : Qde Tryz.prog tab:=Tab.ok (by kernel_rfl) (List.forall_mem_cons.2 ⟨zv_3,List.forall_mem_cons.2 ⟨zv_5,List.forall_mem_cons.2 ⟨zv_9,List.forall_mem_cons.2 ⟨Qyc,List.forall_mem_cons.2 ⟨Qyd,List.forall_mem_cons.2 ⟨Qxf,List.forall_mem_cons.2 ⟨Qye,List.forall_mem_cons.2 ⟨Qyf,List.forall_mem_cons.2 ⟨Qyg,List.forall_mem_cons.2 ⟨Qyh,List.forall_mem_cons.2 ⟨Qyi,List.forall_mem_cons.2 ⟨Qyj,List.forall_mem_cons.2 ⟨Qyk,List.forall_mem_cons.2 ⟨Qyl,List.forall_mem_cons.2 ⟨Qym,List.forall_mem_cons.2 ⟨Qyn,List.forall_mem_cons.2 ⟨Qyo,List.forall_mem_cons.2 ⟨Qyp,List.forall_mem_cons.2 ⟨Qyq,List.forall_mem_cons.2 ⟨QxQ,List.forall_mem_cons.2 ⟨QxR,List.forall_mem_cons.2 ⟨QlT,List.forall_mem_cons.2 ⟨QxS,List.forall_mem_cons.2 ⟨QxT,List.forall_mem_cons.2 ⟨QxU,List.forall_mem_cons.2 ⟨QxV,fun _ h=>(by cases h)⟩⟩⟩⟩⟩⟩⟩⟩⟩⟩⟩⟩⟩⟩⟩⟩⟩⟩⟩⟩⟩⟩⟩⟩⟩⟩)
theorem Qa {C:Ctx}{Q:Exit→St→Prop}{n:Nat}{pt pt1:Pt}{ks ks1:List Fr}{σ σ1:St}{φ:Prop}(hC:Qe6 Tryz.prog C n)(ds:List Dir)(e:Vm.go Tryz.prog C tab n ds pt ks σ True=some ⟨pt1,ks1,σ1,φ⟩)(hφ:φ)(h:AK Tryz.prog C Q pt1 ks1 σ1):AK Tryz.prog C Q pt ks σ:=AK.go Qo hC ds e hφ h
abbrev QBg := List (Int×Int)
abbrev QMk := List QBg
abbrev QLL := List (List Int)
abbrev QSB := List (ByteArray×Bool)
theorem tt_ : True:=trivial
theorem an_ {a b:Prop}(x:a)(y:b):a∧b:=⟨x,y⟩
theorem ex_ {α:Sort _}{p:α→Prop}(w:α)(h:p w):∃x,p x:=⟨w,h⟩
def QnG  : Option TNet:=
 some (TNet.mk ([(QA.mk (⟨#[110]⟩:ByteArray) 2 0 0 ([(⟨#[107]⟩:ByteArray)]:List ByteArray) 0 0)]:List QA) ([(QB.mk (⟨#[97]⟩:ByteArray) 0 ([]:QBg)),(QB.mk (⟨#[98]⟩:ByteArray) 0 ([]:QBg)),(QB.mk (⟨#[99]⟩:ByteArray) 0 ([]:QBg)),(QB.mk (⟨#[100]⟩:ByteArray) 0 ([]:QBg))]:List QB) ([(Qr.mk (⟨#[117]⟩:ByteArray) ([]:(List TVar)) (Qg.mk 1 1 ([]:(List Qg))) 1 1 ([(TArc.mk 2 (Qg.mk 1 0 ([]:(List Qg))))]:List TArc) ([(TArc.mk 1 (Qg.mk 1 0 ([]:(List Qg))))]:List TArc) ([]:(List Int)) 0 (0,0,0)),(Qr.mk (⟨#[116]⟩:ByteArray) ([]:(List TVar)) (Qg.mk 1 1 ([]:(List Qg))) 3 1 ([(TArc.mk 0 (Qg.mk 1 0 ([]:(List Qg)))),(TArc.mk 1 (Qg.mk 1 0 ([]:(List Qg))))]:List TArc) ([(TArc.mk 3 (Qg.mk 1 0 ([]:(List Qg))))]:List TArc) ([]:(List Int)) 0 (0,0,0))]:List Qr) 0 3)
theorem Qss  {r:TNet}(h:QnG  = some r):Qc Tryz.prog 26 [] [] (Gives (.agg (Qd r)) []):=by
 refine Qc.walk 33 Tryz.func26 rfl Tryz.ntmps26 rfl fun C hC=>?_
 unfold QnG at h
 refine Qa hC [.n 7,.v .no [none,none,some 3] (.agg (Qm (Qg.mk 1 0 ([]:(List Qg))))),.n 2,.sayO 1 (.var (Qm (Qg.mk 1 0 ([]:(List Qg))))),.n 4,.v .no [none,none,some 3] (.agg (Qm (Qg.mk 1 1 ([]:(List Qg))))),.n 2,.sayO 2 (.var (Qm (Qg.mk 1 1 ([]:(List Qg))))),.n 4,.v (.bd []) [] (.sl 1 (([(⟨#[107]⟩:ByteArray)]:List ByteArray).map QdM)),.v .no [] (.agg (Qx (QA.mk (⟨#[110]⟩:ByteArray) 2 0 0 ([(⟨#[107]⟩:ByteArray)]:List ByteArray) 0 0))),.v (.bd []) [] (.sl 7 (([(QA.mk (⟨#[110]⟩:ByteArray) 2 0 0 ([(⟨#[107]⟩:ByteArray)]:List ByteArray) 0 0)]:List QA).map Qx)),.v .no [none,none,some 2] (.agg (Qv (QB.mk (⟨#[97]⟩:ByteArray) 0 ([]:QBg)))),.v .no [none,none,some 2] (.agg (Qv (QB.mk (⟨#[98]⟩:ByteArray) 0 ([]:QBg)))),.v .no [none,none,some 2] (.agg (Qv (QB.mk (⟨#[99]⟩:ByteArray) 0 ([]:QBg)))),.v .no [none,none,some 2] (.agg (Qv (QB.mk (⟨#[100]⟩:ByteArray) 0 ([]:QBg)))),.v (.bd []) [] (.sl 3 (([(QB.mk (⟨#[97]⟩:ByteArray) 0 ([]:QBg)),(QB.mk (⟨#[98]⟩:ByteArray) 0 ([]:QBg)),(QB.mk (⟨#[99]⟩:ByteArray) 0 ([]:QBg)),(QB.mk (⟨#[100]⟩:ByteArray) 0 ([]:QBg))]:List QB).map Qv)),.v .no [] (.agg (Qm (Qg.mk 1 1 ([]:(List Qg))))),.v .no [] (.agg (Qm (Qg.mk 1 0 ([]:(List Qg))))),.v .no [] (.agg (QH (TArc.mk 2 (Qg.mk 1 0 ([]:(List Qg)))))),.v (.bd []) [] (.sl 4 (([(TArc.mk 2 (Qg.mk 1 0 ([]:(List Qg))))]:List TArc).map QH)),.v .no [] (.agg (Qm (Qg.mk 1 0 ([]:(List Qg))))),.v .no [] (.agg (QH (TArc.mk 1 (Qg.mk 1 0 ([]:(List Qg)))))),.v (.bd []) [] (.sl 4 (([(TArc.mk 1 (Qg.mk 1 0 ([]:(List Qg))))]:List TArc).map QH)),.v .no [none,some 2,none,none,none,none,none,none,none,some 1,none,none,none,none] (.agg (Qi (Qr.mk (⟨#[117]⟩:ByteArray) ([]:(List TVar)) (Qg.mk 1 1 ([]:(List Qg))) 1 1 ([(TArc.mk 2 (Qg.mk 1 0 ([]:(List Qg))))]:List TArc) ([(TArc.mk 1 (Qg.mk 1 0 ([]:(List Qg))))]:List TArc) ([]:(List Int)) 0 (0,0,0)))),.v .no [] (.agg (Qm (Qg.mk 1 1 ([]:(List Qg))))),.v .no [] (.agg (Qm (Qg.mk 1 0 ([]:(List Qg))))),.v .no [] (.agg (QH (TArc.mk 0 (Qg.mk 1 0 ([]:(List Qg)))))),.v .no [] (.agg (Qm (Qg.mk 1 0 ([]:(List Qg))))),.v .no [] (.agg (QH (TArc.mk 1 (Qg.mk 1 0 ([]:(List Qg)))))),.v (.bd []) [] (.sl 4 (([(TArc.mk 0 (Qg.mk 1 0 ([]:(List Qg)))),(TArc.mk 1 (Qg.mk 1 0 ([]:(List Qg))))]:List TArc).map QH)),.v .no [] (.agg (Qm (Qg.mk 1 0 ([]:(List Qg))))),.v .no [] (.agg (QH (TArc.mk 3 (Qg.mk 1 0 ([]:(List Qg)))))),.v (.bd []) [] (.sl 4 (([(TArc.mk 3 (Qg.mk 1 0 ([]:(List Qg))))]:List TArc).map QH)),.v .no [none,some 2,none,none,none,none,none,none,none,some 1,none,none,none,none] (.agg (Qi (Qr.mk (⟨#[116]⟩:ByteArray) ([]:(List TVar)) (Qg.mk 1 1 ([]:(List Qg))) 3 1 ([(TArc.mk 0 (Qg.mk 1 0 ([]:(List Qg)))),(TArc.mk 1 (Qg.mk 1 0 ([]:(List Qg))))]:List TArc) ([(TArc.mk 3 (Qg.mk 1 0 ([]:(List Qg))))]:List TArc) ([]:(List Int)) 0 (0,0,0)))),.v (.bd []) [] (.sl 14 (([(Qr.mk (⟨#[117]⟩:ByteArray) ([]:(List TVar)) (Qg.mk 1 1 ([]:(List Qg))) 1 1 ([(TArc.mk 2 (Qg.mk 1 0 ([]:(List Qg))))]:List TArc) ([(TArc.mk 1 (Qg.mk 1 0 ([]:(List Qg))))]:List TArc) ([]:(List Int)) 0 (0,0,0)),(Qr.mk (⟨#[116]⟩:ByteArray) ([]:(List TVar)) (Qg.mk 1 1 ([]:(List Qg))) 3 1 ([(TArc.mk 0 (Qg.mk 1 0 ([]:(List Qg)))),(TArc.mk 1 (Qg.mk 1 0 ([]:(List Qg))))]:List TArc) ([(TArc.mk 3 (Qg.mk 1 0 ([]:(List Qg))))]:List TArc) ([]:(List Int)) 0 (0,0,0))]:List Qr).map Qi)),.v .no [] (.agg (Qd (TNet.mk ([(QA.mk (⟨#[110]⟩:ByteArray) 2 0 0 ([(⟨#[107]⟩:ByteArray)]:List ByteArray) 0 0)]:List QA) ([(QB.mk (⟨#[97]⟩:ByteArray) 0 ([]:QBg)),(QB.mk (⟨#[98]⟩:ByteArray) 0 ([]:QBg)),(QB.mk (⟨#[99]⟩:ByteArray) 0 ([]:QBg)),(QB.mk (⟨#[100]⟩:ByteArray) 0 ([]:QBg))]:List QB) ([(Qr.mk (⟨#[117]⟩:ByteArray) ([]:(List TVar)) (Qg.mk 1 1 ([]:(List Qg))) 1 1 ([(TArc.mk 2 (Qg.mk 1 0 ([]:(List Qg))))]:List TArc) ([(TArc.mk 1 (Qg.mk 1 0 ([]:(List Qg))))]:List TArc) ([]:(List Int)) 0 (0,0,0)),(Qr.mk (⟨#[116]⟩:ByteArray) ([]:(List TVar)) (Qg.mk 1 1 ([]:(List Qg))) 3 1 ([(TArc.mk 0 (Qg.mk 1 0 ([]:(List Qg)))),(TArc.mk 1 (Qg.mk 1 0 ([]:(List Qg))))]:List TArc) ([(TArc.mk 3 (Qg.mk 1 0 ([]:(List Qg))))]:List TArc) ([]:(List Int)) 0 (0,0,0))]:List Qr) 0 3))),.n 1,.sayO 0 (.var (Qd (TNet.mk ([(QA.mk (⟨#[110]⟩:ByteArray) 2 0 0 ([(⟨#[107]⟩:ByteArray)]:List ByteArray) 0 0)]:List QA) ([(QB.mk (⟨#[97]⟩:ByteArray) 0 ([]:QBg)),(QB.mk (⟨#[98]⟩:ByteArray) 0 ([]:QBg)),(QB.mk (⟨#[99]⟩:ByteArray) 0 ([]:QBg)),(QB.mk (⟨#[100]⟩:ByteArray) 0 ([]:QBg))]:List QB) ([(Qr.mk (⟨#[117]⟩:ByteArray) ([]:(List TVar)) (Qg.mk 1 1 ([]:(List Qg))) 1 1 ([(TArc.mk 2 (Qg.mk 1 0 ([]:(List Qg))))]:List TArc) ([(TArc.mk 1 (Qg.mk 1 0 ([]:(List Qg))))]:List TArc) ([]:(List Int)) 0 (0,0,0)),(Qr.mk (⟨#[116]⟩:ByteArray) ([]:(List TVar)) (Qg.mk 1 1 ([]:(List Qg))) 3 1 ([(TArc.mk 0 (Qg.mk 1 0 ([]:(List Qg)))),(TArc.mk 1 (Qg.mk 1 0 ([]:(List Qg))))]:List TArc) ([(TArc.mk 3 (Qg.mk 1 0 ([]:(List Qg))))]:List TArc) ([]:(List Int)) 0 (0,0,0))]:List Qr) 0 3))),.n 3,.keep [0] [0]] rfl ⟨⟨⟨⟨⟨⟨⟨⟨⟨⟨⟨⟨⟨⟨⟨⟨⟨⟨⟨⟨⟨⟨⟨⟨⟨⟨⟨⟨⟨⟨⟨⟨⟨tt_,rfl⟩,rfl⟩,rfl⟩,rfl⟩,rfl⟩,rfl⟩,rfl⟩,rfl⟩,rfl⟩,rfl⟩,rfl⟩,rfl⟩,rfl⟩,rfl⟩,rfl⟩,rfl⟩,rfl⟩,rfl⟩,rfl⟩,rfl⟩,rfl⟩,rfl⟩,rfl⟩,rfl⟩,rfl⟩,rfl⟩,rfl⟩,rfl⟩,rfl⟩,rfl⟩,rfl⟩,rfl⟩,rfl⟩ ?_
 cases h
 exact AK.done (ex_ [_] (an_ (an_ (ex_ _ (ex_ _ (an_ rfl (an_ rfl (Or.inl (an_ (Qo.ag rfl) (an_ (Qo.sz rfl) rfl))))))) tt_) (gives tt_)))
def QhM (e11:Int)(k13:Int)(l14:(List Int)):Option ((Int×(List Int))⊕(List Int)):=
 bif (decide (0≤k13))then
 (chk (decide (0≤(w64 (8*k13))))).bind fun _=>
 (chk (decide (l14.length+([(IntKind.u8.wrap (shrI .i64 e11 (w64 (8*k13))))]:List Int).length≤4294967296))).bind fun _=>
 some (.inl ((w64 (k13-1)),(l14++([(IntKind.u8.wrap (shrI .i64 e11 (w64 (8*k13))))]:List Int))))
 else
 some (.inr l14)
def Qkg (x5:Int)(l17:(List Int)):Option ((Int×(List Int))⊕(List Int)):=
 some (.inl ((w64 (x5+1)),l17))
def QhN (l2:(List Int))(size1:Int)(x5:Int)(l6:(List Int)):Option ((Int×(List Int))⊕(List Int)):=
 bif (decide (x5<(l2.length:Int)))then
 (idx l2 x5).bind fun e11=>
 (QC (fun st=>QhM e11 st.1 st.2) ((w64 (size1-1)),l6)).bind (fun q=>Qkg x5 q)
 else
 some (.inr l6)
def Qkh (l9:(List Int)):Option (List Int):=
 some l9
def Qj3 (size1:Int)(l2:(List Int)):Option (List Int):=
 (QC (fun st=>QhN l2 size1 st.1 st.2) (0,([]:List Int))).bind (fun q=>Qkh q)
theorem QqZ (size1:Int)(l2:(List Int)){r:(List Int)}(h:Qj3 size1 l2=some r):Qc Tryz.prog 113 [.lit (.slice none 0 0),.i .i64 size1,.sl 1 (l2.map Qe)] [] (Gives (.own 30000 r.length) [(30000,.arr 1 (r.map QaQ))]):=by
 refine Qc.walk 32 Tryz.func113 rfl Tryz.ntmps113 rfl fun C hC=>?_
 unfold Qj3 at h
 refine Qa hC [.n 9,.o (.ln l2.length),.n 4,.adopt 0 22 1,.sayO 22 (.arr 1 (([]:List Int).map QaQ)),.say 0 (.own 22 ([]:List Int).length),.keep [0,1,10,11,12] [22]] rfl ⟨⟨⟨tt_,Qf⟩,rfl⟩,(congrArg (fun n=>V.own 22 n) (by simp))⟩ ?_
 obtain⟨l9,hl22,h⟩:=Qb h
 refine AK.loop (body:=(fun st=>QhN l2 size1 st.1 st.2)) (fun st σ=>σ=⟨[(0,.own 22 st.2.length),(1,.i .i64 size1),(10,.sl 1 (l2.map Qe)),(11,.i .i64 (l2.length:Int)),(12,.i .i64 st.1)],[(22,.arr 1 (st.2.map QaQ))]⟩) (fun q e σ=>e=.exit 0∧σ=⟨[(0,.own 22 q.length)],[(22,.arr 1 (q.map QaQ))]⟩) hl22 rfl ?_ ?_
 ·rintro ⟨x5,l6⟩ o σ rfl h
  replace h:QhN l2 size1 x5 l6=some o:=h
  unfold QhN at h
  refine Qa hC [.n 6] rfl tt_ ?_
  rcases bifE h with⟨hc10,h⟩|⟨hc10,h⟩
  ·obtain⟨e11,he11,h⟩:=Qb h
   refine Qa hC [.br true,.n 6,.o (.row (Qe e11)),.n 12,.keep [0,1,8,9,10,11,12] [22]] rfl ⟨⟨tt_,hc10⟩,(idxM he11)⟩ ?_
   obtain⟨l17,hl21,h⟩:=Qb h
   refine AK.loop (body:=(fun st=>QhM e11 st.1 st.2)) (fun st σ=>σ=⟨[(0,.own 22 st.2.length),(1,.i .i64 size1),(8,.i .i64 e11),(9,.i .i64 st.1),(10,.sl 1 (l2.map Qe)),(11,.i .i64 (l2.length:Int)),(12,.i .i64 x5)],[(22,.arr 1 (st.2.map QaQ))]⟩) (fun q e σ=>e=.exit 2∧σ=⟨[(0,.own 22 q.length),(1,.i .i64 size1),(10,.sl 1 (l2.map Qe)),(11,.i .i64 (l2.length:Int)),(12,.i .i64 x5)],[(22,.arr 1 (q.map QaQ))]⟩) hl21 rfl ?_ ?_
   ·rintro ⟨k13,l14⟩ o σ rfl h
    replace h:QhM e11 k13 l14=some o:=h
    unfold QhM at h
    refine Qa hC [.n 7] rfl tt_ ?_
    rcases bifE h with⟨hc18,h⟩|⟨hc18,h⟩
    ·obtain⟨_,hk19,h⟩:=Qb h
     replace hk19:=chkE hk19
     obtain⟨_,hk20,h⟩:=Qb h
     replace hk20:=chkE hk20
     refine Qa hC [.br true,.n 9,.o (.any (.i .i64 (shrI .i64 e11 (w64 (8*k13)))) none),.o (.any (.i .u8 (IntKind.u8.wrap (shrI .i64 e11 (w64 (8*k13))))) none),.v (.bd []) [] (.sl 1 (([(IntKind.u8.wrap (shrI .i64 e11 (w64 (8*k13))))]:List Int).map QaQ)),.app ((l14++([(IntKind.u8.wrap (shrI .i64 e11 (w64 (8*k13))))]:List Int)).map QaQ) (l14++([(IntKind.u8.wrap (shrI .i64 e11 (w64 (8*k13))))]:List Int)).length,.n 9,.keep [0,1,8,9,10,11,12] [22]] rfl ⟨⟨⟨⟨⟨tt_,hc18⟩,(fun σ h1 h2 _=>Stp.shr rfl rfl (bleN hC.n rfl) (h1 _ _ rfl) (h1 _ _ rfl) (of_decide_eq_true hk19))⟩,(fun σ h1 h2 _=>Stp.convI rfl rfl (bleN hC.n rfl) (h1 _ _ rfl) it_3 it_5)⟩,rfl⟩,⟨Qf,Qdm hk20 Qf,Qch,Qe8 Qf⟩⟩ ?_
     cases h
     exact rndN rfl rfl
    ·refine Qa hC [.br false,.n 2,.keep [0,1,10,11,12] [22]] rfl ⟨tt_,hc18⟩ ?_
     cases h
     exact rndX rfl (an_ rfl rfl)
   ·replace h:Qkg x5 l17=some o:=h
    unfold Qkg at h
    rintro e σ ⟨rfl,rfl⟩
    refine Qa hC [.n 7,.keep [0,1,10,11,12] [22]] rfl tt_ ?_
    cases h
    exact rndN rfl rfl
  ·refine Qa hC [.br false,.n 2,.keep [0] [22]] rfl ⟨tt_,hc10⟩ ?_
   cases h
   exact rndX rfl (an_ rfl rfl)
 ·replace h:Qkh l9=some r:=h
  unfold Qkh at h
  rintro e σ ⟨rfl,rfl⟩
  refine Qa hC [.n 9,.keep [6] [22],.ren 22 30000,.keep [6] [30000]] rfl tt_ ?_
  cases h
  exact AK.done (ex_ [_] (an_ (an_ rfl tt_) (gives ⟨rfl,tt_⟩)))
def Qbo (b1:QBg)(last4:Int)(x5:Int):Option ((Int×Int)⊕(Unit⊕Unit)):=
 bif (decide (x5<(b1.length:Int)))then
 (idx b1 x5).bind fun e9=>
 bif ((decide (e9.1≤last4))||((decide (e9.2<1))||(decide (1048576<e9.2))))then
 some (.inr (.inl ()))
 else
 some (.inl (e9.1,(w64 (x5+1))))
 else
 some (.inr (.inr ()))
def Qhe : Option Bool:=
 some false
def Qhf : Option Bool:=
 some true
def Qce (b1:QBg):Option Bool:=
 (QC (fun st=>Qbo b1 st.1 st.2) ((-1),0)).bind (Sum.elim (fun q=>Qhe) (fun q=>Qhf))
theorem Qfh (b1:QBg){r:Bool}(h:Qce b1=some r):Qc Tryz.prog 90 [.sl 2 (b1.map Qy)] [] (Gives (.b r) []):=by
 refine Qc.walk 29 Tryz.func90 rfl Tryz.ntmps90 rfl fun C hC=>?_
 unfold Qce at h
 refine Qa hC [.n 14,.o (.ln b1.length),.n 4,.keep [3,6,7,8] []] rfl ⟨tt_,Qf⟩ ?_
 obtain⟨o14,hl14,h⟩:=Qb h
 refine AK.loop (body:=(fun st=>Qbo b1 st.1 st.2)) (fun st σ=>σ=⟨[(3,.i .i64 st.1),(6,.sl 2 (b1.map Qy)),(7,.i .i64 (b1.length:Int)),(8,.i .i64 st.2)],[]⟩) (Sum.elim (fun q e σ=>e=.ret∧σ=⟨[(2,.b false)],[]⟩) (fun q e σ=>e=.exit 0∧σ=⟨[],[]⟩)) hl14 rfl ?_ ?_
 ·rintro ⟨last4,x5⟩ o σ rfl h
  replace h:Qbo b1 last4 x5=some o:=h
  unfold Qbo at h
  refine Qa hC [.n 6] rfl tt_ ?_
  rcases bifE h with⟨hc8,h⟩|⟨hc8,h⟩
  ·obtain⟨e9,he9,h⟩:=Qb h
   refine Qa hC [.br true,.n 6,.o (.row (Qy e9)),.v .no [] (.agg (Qy e9)),.n 2,.sayO 5 (.var (Qy e9)),.n 4] rfl ⟨⟨⟨⟨tt_,hc8⟩,(idxM he9)⟩,rfl⟩,rfl⟩ ?_
   refine AK.meetX (fun σ=>σ=⟨[(5,.loc 5 0 0),(6,.sl 2 (b1.map Qy)),(7,.i .i64 (b1.length:Int)),(8,.i .i64 x5),(25,.b ((decide (e9.1≤last4))||((decide (e9.2<1))||(decide (1048576<e9.2)))))],[(5,.var (Qy e9))]⟩) ?_ ?_
   ·refine Qa hC [.n 6] rfl tt_ ?_
    rcases QG (decide (e9.1≤last4))with hc11 | hc11
    ·refine Qa hC [.say 16 (.b true),.n 10,.say 25 (.b ((decide (e9.1≤last4))||((decide (e9.2<1))||(decide (1048576<e9.2))))),.keep [5,6,7,8,25] [5]] rfl ⟨⟨tt_,(congrArg V.b hc11)⟩,(congrArg V.b (orT hc11 rfl))⟩ ?_
     exact AK.met rfl
    ·refine Qa hC [.say 16 (.b false),.n 5] rfl ⟨tt_,(congrArg V.b hc11)⟩ ?_
     rcases QG (decide (e9.2<1))with hc12 | hc12
     ·refine Qa hC [.say 21 (.b true),.n 5,.say 25 (.b ((decide (e9.1≤last4))||((decide (e9.2<1))||(decide (1048576<e9.2))))),.keep [5,6,7,8,25] [5]] rfl ⟨⟨tt_,(congrArg V.b hc12)⟩,(congrArg V.b (orF hc11 (orT hc12 rfl)))⟩ ?_
      exact AK.met rfl
     ·refine Qa hC [.say 21 (.b false),.n 5,.say 25 (.b ((decide (e9.1≤last4))||((decide (e9.2<1))||(decide (1048576<e9.2))))),.keep [5,6,7,8,25] [5]] rfl ⟨⟨tt_,(congrArg V.b hc12)⟩,(congrArg V.b (orF hc11 (orF hc12 rfl)))⟩ ?_
      exact AK.met rfl
   ·rintro σ rfl
    refine Qa hC [.n 1] rfl tt_ ?_
    rcases bifE h with⟨hc13,h⟩|⟨hc13,h⟩
    ·refine Qa hC [.br true,.n 9,.keep [2] []] rfl ⟨tt_,hc13⟩ ?_
     cases h
     exact rndR rfl (an_ rfl rfl)
    ·refine Qa hC [.br false,.n 13,.keep [3,6,7,8] []] rfl ⟨tt_,hc13⟩ ?_
     cases h
     exact rndN rfl rfl
  ·refine Qa hC [.br false,.n 2,.keep [] []] rfl ⟨tt_,hc8⟩ ?_
   cases h
   exact rndX rfl (an_ rfl rfl)
 ·rcases o14 with(_ | _)
  ·replace h:Qhe=some r:=h
   unfold Qhe at h
   rintro e σ ⟨rfl,rfl⟩
   refine Qa hC [.n 2,.keep [2] []] rfl tt_ ?_
   cases h
   exact AK.done (ex_ [_] (an_ (an_ rfl tt_) (gives tt_)))
  ·replace h:Qhf=some r:=h
   unfold Qhf at h
   rintro e σ ⟨rfl,rfl⟩
   refine Qa hC [.n 8,.keep [2] []] rfl tt_ ?_
   cases h
   exact AK.done (ex_ [_] (an_ (an_ rfl tt_) (gives tt_)))
def Qb5 (e12:Int)(k14:Int)(l15:(List Int)):Option ((Int×(List Int))⊕(List Int)):=
 bif (decide (0≤k14))then
 (chk (decide (0≤(w64 (8*k14))))).bind fun _=>
 (chk (decide (l15.length+([(IntKind.u8.wrap (shrI .i64 e12 (w64 (8*k14))))]:List Int).length≤4294967296))).bind fun _=>
 some (.inl ((w64 (k14-1)),(l15++([(IntKind.u8.wrap (shrI .i64 e12 (w64 (8*k14))))]:List Int))))
 else
 some (.inr l15)
def QhO (x6:Int)(l18:(List Int)):Option ((Int×(List Int))⊕(List Int)):=
 some (.inl ((w64 (x6+1)),l18))
def QcP (l3:(List Int))(size2:Int)(x6:Int)(l7:(List Int)):Option ((Int×(List Int))⊕(List Int)):=
 bif (decide (x6<(l3.length:Int)))then
 (idx l3 x6).bind fun e12=>
 (QC (fun st=>Qb5 e12 st.1 st.2) ((w64 (size2-1)),l7)).bind (fun q=>QhO x6 q)
 else
 some (.inr l7)
def Qki (l10:(List Int)):Option (List Int):=
 some l10
def QeF (l1:(List Int))(size2:Int)(l3:(List Int)):Option (List Int):=
 (QC (fun st=>QcP l3 size2 st.1 st.2) (0,l1)).bind (fun q=>Qki q)
theorem QmL (l1:(List Int))(size2:Int)(l3:(List Int)){r:(List Int)}(h:QeF l1 size2 l3=some r):Qc Tryz.prog 113 [.own 100000 l1.length,.i .i64 size2,.sl 1 (l3.map Qe)] [(100000,.arr 1 (l1.map QaQ))] (Gives (.own 100000 r.length) [(100000,.arr 1 (r.map QaQ))]):=by
 refine Qc.walk 32 Tryz.func113 rfl Tryz.ntmps113 rfl fun C hC=>?_
 unfold QeF at h
 refine Qa hC [.n 9,.o (.ln l3.length),.n 4,.keep [0,1,10,11,12] [100000]] rfl ⟨tt_,Qf⟩ ?_
 obtain⟨l10,hl23,h⟩:=Qb h
 refine AK.loop (body:=(fun st=>QcP l3 size2 st.1 st.2)) (fun st σ=>σ=⟨[(0,.own 100000 st.2.length),(1,.i .i64 size2),(10,.sl 1 (l3.map Qe)),(11,.i .i64 (l3.length:Int)),(12,.i .i64 st.1)],[(100000,.arr 1 (st.2.map QaQ))]⟩) (fun q e σ=>e=.exit 0∧σ=⟨[(0,.own 100000 q.length)],[(100000,.arr 1 (q.map QaQ))]⟩) hl23 rfl ?_ ?_
 ·rintro ⟨x6,l7⟩ o σ rfl h
  replace h:QcP l3 size2 x6 l7=some o:=h
  unfold QcP at h
  refine Qa hC [.n 6] rfl tt_ ?_
  rcases bifE h with⟨hc11,h⟩|⟨hc11,h⟩
  ·obtain⟨e12,he12,h⟩:=Qb h
   refine Qa hC [.br true,.n 6,.o (.row (Qe e12)),.n 12,.keep [0,1,8,9,10,11,12] [100000]] rfl ⟨⟨tt_,hc11⟩,(idxM he12)⟩ ?_
   obtain⟨l18,hl22,h⟩:=Qb h
   refine AK.loop (body:=(fun st=>Qb5 e12 st.1 st.2)) (fun st σ=>σ=⟨[(0,.own 100000 st.2.length),(1,.i .i64 size2),(8,.i .i64 e12),(9,.i .i64 st.1),(10,.sl 1 (l3.map Qe)),(11,.i .i64 (l3.length:Int)),(12,.i .i64 x6)],[(100000,.arr 1 (st.2.map QaQ))]⟩) (fun q e σ=>e=.exit 2∧σ=⟨[(0,.own 100000 q.length),(1,.i .i64 size2),(10,.sl 1 (l3.map Qe)),(11,.i .i64 (l3.length:Int)),(12,.i .i64 x6)],[(100000,.arr 1 (q.map QaQ))]⟩) hl22 rfl ?_ ?_
   ·rintro ⟨k14,l15⟩ o σ rfl h
    replace h:Qb5 e12 k14 l15=some o:=h
    unfold Qb5 at h
    refine Qa hC [.n 7] rfl tt_ ?_
    rcases bifE h with⟨hc19,h⟩|⟨hc19,h⟩
    ·obtain⟨_,hk20,h⟩:=Qb h
     replace hk20:=chkE hk20
     obtain⟨_,hk21,h⟩:=Qb h
     replace hk21:=chkE hk21
     refine Qa hC [.br true,.n 9,.o (.any (.i .i64 (shrI .i64 e12 (w64 (8*k14)))) none),.o (.any (.i .u8 (IntKind.u8.wrap (shrI .i64 e12 (w64 (8*k14))))) none),.v (.bd []) [] (.sl 1 (([(IntKind.u8.wrap (shrI .i64 e12 (w64 (8*k14))))]:List Int).map QaQ)),.app ((l15++([(IntKind.u8.wrap (shrI .i64 e12 (w64 (8*k14))))]:List Int)).map QaQ) (l15++([(IntKind.u8.wrap (shrI .i64 e12 (w64 (8*k14))))]:List Int)).length,.n 9,.keep [0,1,8,9,10,11,12] [100000]] rfl ⟨⟨⟨⟨⟨tt_,hc19⟩,(fun σ h1 h2 _=>Stp.shr rfl rfl (bleN hC.n rfl) (h1 _ _ rfl) (h1 _ _ rfl) (of_decide_eq_true hk20))⟩,(fun σ h1 h2 _=>Stp.convI rfl rfl (bleN hC.n rfl) (h1 _ _ rfl) it_3 it_5)⟩,rfl⟩,⟨Qf,Qdm hk21 Qf,Qch,Qe8 Qf⟩⟩ ?_
     cases h
     exact rndN rfl rfl
    ·refine Qa hC [.br false,.n 2,.keep [0,1,10,11,12] [100000]] rfl ⟨tt_,hc19⟩ ?_
     cases h
     exact rndX rfl (an_ rfl rfl)
   ·replace h:QhO x6 l18=some o:=h
    unfold QhO at h
    rintro e σ ⟨rfl,rfl⟩
    refine Qa hC [.n 7,.keep [0,1,10,11,12] [100000]] rfl tt_ ?_
    cases h
    exact rndN rfl rfl
  ·refine Qa hC [.br false,.n 2,.keep [0] [100000]] rfl ⟨tt_,hc11⟩ ?_
   cases h
   exact rndX rfl (an_ rfl rfl)
 ·replace h:Qki l10=some r:=h
  unfold Qki at h
  rintro e σ ⟨rfl,rfl⟩
  refine Qa hC [.n 9,.keep [6] [100000]] rfl tt_ ?_
  cases h
  exact AK.done (ex_ [_] (an_ (an_ rfl tt_) (gives ⟨rfl,tt_⟩)))
def QhP (e15:QBg):Option Bool:=
 (Qce e15).bind fun x18=>
 bif (!x18)then
 some true
 else
 bif (decide (65535<(e15.length:Int)))then
 some true
 else
 bif (decide (0<(e15.length:Int)))then
 (idx e15 (w64 ((e15.length:Int)-1))).bind fun e22=>
 some (decide (4294967295<e22.1))
 else
 some false
def QcQ (e15:QBg)(x26:Int)(l27:(List Int)):Option ((Int×(List Int))⊕(List Int)):=
 bif (decide (x26<(e15.length:Int)))then
 (idx e15 x26).bind fun e32=>
 (QeF l27 4 ([e32.1,e32.2]:List Int)).bind fun x33=>
 some (.inl ((w64 (x26+1)),x33))
 else
 some (.inr l27)
def QhQ (x9:Int)(l30:(List Int)):Option ((Int×(List Int))⊕(Unit⊕(List Int))):=
 some (.inl ((w64 (x9+1)),l30))
def Qfy (l10:(List Int))(e15:QBg)(x9:Int)(x16:Bool):Option ((Int×(List Int))⊕(Unit⊕(List Int))):=
 bif x16 then
 some (.inr (.inl ()))
 else
 (QeF l10 2 ([(e15.length:Int)]:List Int)).bind fun x24=>
 (QC (fun st=>QcQ e15 st.1 st.2) (0,x24)).bind (fun q=>QhQ x9 q)
def QcR (m1:QMk)(x9:Int)(l10:(List Int)):Option ((Int×(List Int))⊕(Unit⊕(List Int))):=
 bif (decide (x9<(m1.length:Int)))then
 (idx m1 x9).bind fun e15=>
 (QhP e15).bind (fun x16=>Qfy l10 e15 x9 x16)
 else
 some (.inr (.inr l10))
def Qkj : Option ((List Int)×Int):=
 some (([]:List Int),1)
def Qkk (l13:(List Int)):Option ((List Int)×Int):=
 some (l13,0)
def Qgg (m1:QMk):Option ((List Int)×Int):=
 bif (decide (64<(m1.length:Int)))then
 some (([]:List Int),1)
 else
 (Qj3 1 ([(m1.length:Int)]:List Int)).bind fun x7=>
 (QC (fun st=>QcR m1 st.1 st.2) (0,x7)).bind (Sum.elim (fun q=>Qkj) (fun q=>Qkk q))
theorem Qq0 (m1:QMk){r:((List Int)×Int)}(h:Qgg m1=some r):Qc Tryz.prog 56 [.sl 1 (m1.map Qh)] [] (Gives (.tup [.sl 1 (r.1.map QaQ),.i .i64 r.2]) []):=by
 refine Qc.walk 66 Tryz.func56 rfl Tryz.ntmps56 rfl fun C hC=>?_
 unfold Qgg at h
 refine Qa hC [.n 10,.o (.ln m1.length),.n 3] rfl ⟨tt_,Qf⟩ ?_
 rcases bifE h with⟨hc6,h⟩|⟨hc6,h⟩
 ·refine Qa hC [.br true,.n 8,.denil 2 [some 1],.keep [2,3] []] rfl ⟨tt_,hc6⟩ ?_
  cases h
  exact AK.done (ex_ [_,_] (an_ (an_ rfl (an_ rfl tt_)) (gives tt_)))
 ·obtain⟨x7,hx7,h⟩:=Qb h
  refine Qa hC [.br false,.n 5,.o (.ln m1.length),.v (.bd []) [] (.sl 1 (([(m1.length:Int)]:List Int).map Qe)),.cm (.fn) [] [(15,30000)] [] [.d,.d,.d] [(30000,.arr 1 (x7.map QaQ))] (.own 30000 x7.length),.n 7,.o (.ln m1.length),.n 4,.keep [4,16,17,18] [15]] rfl ⟨⟨⟨⟨⟨tt_,hc6⟩,Qf⟩,rfl⟩,(QqZ _ _ hx7)⟩,Qf⟩ ?_
  obtain⟨o35,hl35,h⟩:=Qb h
  refine AK.loop (body:=(fun st=>QcR m1 st.1 st.2)) (fun st σ=>σ=⟨[(4,.own 15 st.2.length),(16,.sl 1 (m1.map Qh)),(17,.i .i64 (m1.length:Int)),(18,.i .i64 st.1)],[(15,.arr 1 (st.2.map QaQ))]⟩) (Sum.elim (fun q e σ=>e=.ret∧σ=⟨[(2,.lit (.slice none 0 0)),(3,.i .i64 1)],[]⟩) (fun q e σ=>e=.exit 0∧σ=⟨[(4,.own 15 q.length)],[(15,.arr 1 (q.map QaQ))]⟩)) hl35 rfl ?_ ?_
  ·rintro ⟨x9,l10⟩ o σ rfl h
   replace h:QcR m1 x9 l10=some o:=h
   unfold QcR at h
   refine Qa hC [.n 6] rfl tt_ ?_
   rcases bifE h with⟨hc14,h⟩|⟨hc14,h⟩
   ·obtain⟨e15,he15,h⟩:=Qb h
    refine Qa hC [.br true,.n 6,.o (.row (Qh e15)),.n 6] rfl ⟨⟨tt_,hc14⟩,(idxM he15)⟩ ?_
    obtain⟨x16,hv17,h⟩:=Qb h
    replace h:Qfy l10 e15 x9 x16=some o:=h
    refine AK.meetX (fun σ=>σ=⟨[(4,.own 15 l10.length),(6,.sl 2 (e15.map Qy)),(16,.sl 1 (m1.map Qh)),(17,.i .i64 (m1.length:Int)),(18,.i .i64 x9),(44,.b x16)],[(15,.arr 1 (l10.map QaQ))]⟩) ?_ ?_
    ·replace h:=hv17
     unfold QhP at h
     obtain⟨x18,hx18,h⟩:=Qb h
     refine Qa hC [.n 2,.o (.c false [.d] (.b x18)),.n 2] rfl ⟨tt_,(Qfh _ hx18)⟩ ?_
     rcases bifE h with⟨hc19,h⟩|⟨hc19,h⟩
     ·refine Qa hC [.say 25 (.b true),.n 20,.keep [4,6,16,17,18,44] [15]] rfl ⟨tt_,(congrArg V.b hc19)⟩ ?_
      cases h
      exact AK.met rfl
     ·refine Qa hC [.say 25 (.b false),.n 1,.o (.ln e15.length),.n 3] rfl ⟨⟨tt_,(congrArg V.b hc19)⟩,Qf⟩ ?_
      rcases bifE h with⟨hc20,h⟩|⟨hc20,h⟩
      ·refine Qa hC [.say 30 (.b true),.n 15,.keep [4,6,16,17,18,44] [15]] rfl ⟨tt_,(congrArg V.b hc20)⟩ ?_
       cases h
       exact AK.met rfl
      ·refine Qa hC [.say 30 (.b false),.n 1,.o (.ln e15.length),.n 2] rfl ⟨⟨tt_,(congrArg V.b hc20)⟩,Qf⟩ ?_
       rcases bifE h with⟨hc21,h⟩|⟨hc21,h⟩
       ·obtain⟨e22,he22,h⟩:=Qb h
        refine Qa hC [.say 34 (.b true),.n 2,.o (.ln e15.length),.n 1,.o (.row (Qy e22)),.n 6,.keep [4,6,16,17,18,44] [15]] rfl ⟨⟨⟨tt_,(congrArg V.b hc21)⟩,Qf⟩,(idxM he22)⟩ ?_
        cases h
        exact AK.met rfl
       ·refine Qa hC [.say 34 (.b false),.n 11,.keep [4,6,16,17,18,44] [15]] rfl ⟨tt_,(congrArg V.b hc21)⟩ ?_
        cases h
        exact AK.met rfl
    ·rintro σ rfl
     replace h:Qfy l10 e15 x9 x16=some o:=h
     unfold Qfy at h
     refine Qa hC [.n 1] rfl tt_ ?_
     rcases bifE h with⟨hc23,h⟩|⟨hc23,h⟩
     ·refine Qa hC [.br true,.n 10,.keep [2,3] []] rfl ⟨tt_,hc23⟩ ?_
      cases h
      exact rndR rfl (an_ rfl rfl)
     ·obtain⟨x24,hx24,h⟩:=Qb h
      refine Qa hC [.br false,.n 6,.o (.ln e15.length),.v (.bd []) [] (.sl 1 (([(e15.length:Int)]:List Int).map Qe)),.cm (.fn) [(100000,15)] [(15,100000)] [15] [.d,.d,.d] [(100000,.arr 1 (x24.map QaQ))] (.own 100000 x24.length),.n 6,.o (.ln e15.length),.n 4,.keep [4,16,17,18,50,51,52] [15]] rfl ⟨⟨⟨⟨⟨tt_,hc23⟩,Qf⟩,rfl⟩,(QmL _ _ _ hx24)⟩,Qf⟩ ?_
      obtain⟨l30,hl34,h⟩:=Qb h
      refine AK.loop (body:=(fun st=>QcQ e15 st.1 st.2)) (fun st σ=>σ=⟨[(4,.own 15 st.2.length),(16,.sl 1 (m1.map Qh)),(17,.i .i64 (m1.length:Int)),(18,.i .i64 x9),(50,.sl 2 (e15.map Qy)),(51,.i .i64 (e15.length:Int)),(52,.i .i64 st.1)],[(15,.arr 1 (st.2.map QaQ))]⟩) (fun q e σ=>e=.exit 2∧σ=⟨[(4,.own 15 q.length),(16,.sl 1 (m1.map Qh)),(17,.i .i64 (m1.length:Int)),(18,.i .i64 x9)],[(15,.arr 1 (q.map QaQ))]⟩) hl34 rfl ?_ ?_
      ·rintro ⟨x26,l27⟩ o σ rfl h
       replace h:QcQ e15 x26 l27=some o:=h
       unfold QcQ at h
       refine Qa hC [.n 6] rfl tt_ ?_
       rcases bifE h with⟨hc31,h⟩|⟨hc31,h⟩
       ·obtain⟨e32,he32,h⟩:=Qb h
        obtain⟨x33,hx33,h⟩:=Qb h
        refine Qa hC [.br true,.n 6,.o (.row (Qy e32)),.v .no [] (.agg (Qy e32)),.n 2,.sayO 8 (.var (Qy e32)),.n 8,.v (.bd []) [] (.sl 1 (([e32.1,e32.2]:List Int).map Qe)),.cm (.fn) [(100000,15)] [(15,100000)] [15] [.d,.d,.d] [(100000,.arr 1 (x33.map QaQ))] (.own 100000 x33.length),.n 8,.keep [4,16,17,18,50,51,52] [15]] rfl ⟨⟨⟨⟨⟨⟨tt_,hc31⟩,(idxM he32)⟩,rfl⟩,rfl⟩,rfl⟩,(QmL _ _ _ hx33)⟩ ?_
        cases h
        exact rndN rfl rfl
       ·refine Qa hC [.br false,.n 2,.keep [4,16,17,18] [15]] rfl ⟨tt_,hc31⟩ ?_
        cases h
        exact rndX rfl (an_ rfl rfl)
      ·replace h:QhQ x9 l30=some o:=h
       unfold QhQ at h
       rintro e σ ⟨rfl,rfl⟩
       refine Qa hC [.n 7,.keep [4,16,17,18] [15]] rfl tt_ ?_
       cases h
       exact rndN rfl rfl
   ·refine Qa hC [.br false,.n 2,.keep [4] [15]] rfl ⟨tt_,hc14⟩ ?_
    cases h
    exact rndX rfl (an_ rfl rfl)
  ·rcases o35 with(_ | l13)
   ·replace h:Qkj=some r:=h
    unfold Qkj at h
    rintro e σ ⟨rfl,rfl⟩
    refine Qa hC [.n 2,.denil 2 [some 1],.keep [2,3] []] rfl tt_ ?_
    cases h
    exact AK.done (ex_ [_,_] (an_ (an_ rfl (an_ rfl tt_)) (gives tt_)))
   ·replace h:Qkk l13=some r:=h
    unfold Qkk at h
    rintro e σ ⟨rfl,rfl⟩
    refine Qa hC [.n 10,.frz 15 (l13.map QaQ) [2] [],.keep [2,3] []] rfl ⟨tt_,⟨tt_,(frzL Qf)⟩⟩ ?_
    cases h
    exact AK.done (ex_ [_,_] (an_ (an_ rfl (an_ rfl tt_)) (gives tt_)))
def Qfz (m1:QMk):Option ByteArray:=
 (Qgg m1).bind fun x3=>
 some (Qnw x3.1)
theorem QkQ (m1:QMk){r:ByteArray}(h:Qfz m1=some r):Qc Tryz.prog 29 [.sl 1 (m1.map Qh)] [] (Gives (.s r) []):=by
 refine Qc.walk 12 Tryz.func29 rfl Tryz.ntmps29 rfl fun C hC=>?_
 unfold Qfz at h
 obtain⟨x3,hx3,h⟩:=Qb h
 refine Qa hC [.n 8,.o (.c false [.d] (.tup [.sl 1 (x3.1.map QaQ),.i .i64 x3.2])),.n 10,.o (.any (.s (Qnw x3.1)) none),.n 4,.keep [2] []] rfl ⟨⟨tt_,(Qq0 _ hx3)⟩,(fun σ h1 h2 _=>Stp.b2s rfl rfl (bleN hC.n rfl) (h1 _ _ rfl) rfl QxO it_5 (Qo.sb rfl))⟩ ?_
 cases h
 exact AK.done (ex_ [_] (an_ (an_ rfl tt_) (gives tt_)))
def Qbj (s1:QMk):Option QMk:=
 (chk (decide (([]:List QBg).length+s1.length≤4294967296))).bind fun _=>
 some (([]:List QBg)++s1)
theorem QiK (s1:QMk){r:QMk}(h:Qbj s1=some r):Qc Tryz.prog 57 [.sl 1 (s1.map Qh)] [] (Gives (.own 30000 r.length) [(30000,.arr 1 (r.map Qh))]):=by
 refine Qc.walk 8 Tryz.func57 rfl Tryz.ntmps57 rfl fun C hC=>?_
 unfold Qbj at h
 refine Qa hC [.n 9] rfl tt_ ?_
 refine AK.eqNil rfl rfl rfl (bleN hC.n rfl) rfl rfl Qx9 ?_ ?_
 ·intro hz4
  replace h:some ([]:List QBg)=some r:=by simpa [chk,List.map_eq_nil_iff.1 hz4] using h
  refine Qa hC [.n 10,.adopt 2 30000 1,.sayO 30000 (.arr 1 (([]:List QBg).map Qh)),.say 2 (.own 30000 ([]:List QBg).length),.keep [2] [30000]] rfl ⟨⟨tt_,rfl⟩,rfl⟩ ?_
  cases h
  exact AK.done (ex_ [_] (an_ (an_ rfl tt_) (gives ⟨rfl,tt_⟩)))
 ·obtain⟨_,hk5,h⟩:=Qb h
  replace hk5:=chkE hk5
  refine Qa hC [.n 8,.sayO 5 (.arr 1 (([]:List QBg).map Qh)),.say 5 (.own 5 ([]:List QBg).length),.n 1,.app ((([]:List QBg)++s1).map Qh) (([]:List QBg)++s1).length,.n 4,.keep [2] [5],.ren 5 30000,.keep [2] [30000]] rfl ⟨⟨⟨tt_,rfl⟩,rfl⟩,⟨Qf,Qdm hk5 Qf,Qch,Qe8 Qf⟩⟩ ?_
  cases h
  exact AK.done (ex_ [_] (an_ (an_ rfl tt_) (gives ⟨rfl,tt_⟩)))
def Qcj (s1:QBg):Option QBg:=
 (chk (decide (([]:List (Int×Int)).length+s1.length≤4294967296))).bind fun _=>
 some (([]:List (Int×Int))++s1)
theorem QkI (s1:QBg){r:QBg}(h:Qcj s1=some r):Qc Tryz.prog 58 [.sl 2 (s1.map Qy)] [] (Gives (.own 30000 r.length) [(30000,.arr 2 (r.map Qy))]):=by
 refine Qc.walk 8 Tryz.func58 rfl Tryz.ntmps58 rfl fun C hC=>?_
 unfold Qcj at h
 refine Qa hC [.n 9] rfl tt_ ?_
 refine AK.eqNil rfl rfl rfl (bleN hC.n rfl) rfl rfl Qyb ?_ ?_
 ·intro hz4
  replace h:some ([]:List (Int×Int))=some r:=by simpa [chk,List.map_eq_nil_iff.1 hz4] using h
  refine Qa hC [.n 10,.adopt 2 30000 2,.sayO 30000 (.arr 2 (([]:List (Int×Int)).map Qy)),.say 2 (.own 30000 ([]:List (Int×Int)).length),.keep [2] [30000]] rfl ⟨⟨tt_,rfl⟩,rfl⟩ ?_
  cases h
  exact AK.done (ex_ [_] (an_ (an_ rfl tt_) (gives ⟨rfl,tt_⟩)))
 ·obtain⟨_,hk5,h⟩:=Qb h
  replace hk5:=chkE hk5
  refine Qa hC [.n 8,.sayO 5 (.arr 2 (([]:List (Int×Int)).map Qy)),.say 5 (.own 5 ([]:List (Int×Int)).length),.n 1,.app ((([]:List (Int×Int))++s1).map Qy) (([]:List (Int×Int))++s1).length,.n 4,.keep [2] [5],.ren 5 30000,.keep [2] [30000]] rfl ⟨⟨⟨tt_,rfl⟩,rfl⟩,⟨Qf,Qdm hk5 Qf,Qch,Qe8 Qf⟩⟩ ?_
  cases h
  exact AK.done (ex_ [_] (an_ (an_ rfl tt_) (gives ⟨rfl,tt_⟩)))
def QdY (x3:QMk)(x5:Int)(l6:QMk):Option ((Int×QMk)⊕QMk):=
 bif (decide (x5<(x3.length:Int)))then
 (idx l6 x5).bind fun e11=>
 (Qcj e11).bind fun x12=>
 (idx l6 x5).bind fun e13=>
 some (.inl ((w64 (x5+1)),(l6.set x5.toNat x12)))
 else
 some (.inr l6)
def Qlt (l9:QMk):Option QMk:=
 some l9
def Qin (m1:QMk):Option QMk:=
 (Qbj m1).bind fun x3=>
 (QC (fun st=>QdY x3 st.1 st.2) (0,x3)).bind (fun q=>Qlt q)
theorem QnZ (m1:QMk){r:QMk}(h:Qin m1=some r):Qc Tryz.prog 30 [.sl 1 (m1.map Qh)] [] (Gives (.own 30000 r.length) [(30000,.arr 1 (r.map Qh))]):=by
 refine Qc.walk 22 Tryz.func30 rfl Tryz.ntmps30 rfl fun C hC=>?_
 unfold Qin at h
 obtain⟨x3,hx3,h⟩:=Qb h
 refine Qa hC [.n 8,.o (.co false [.d] 1 (x3.map Qh) x3.length),.n 12,.keep [3,8,9,10] [7]] rfl ⟨tt_,⟨(QiK _ hx3),Qf,.inl rfl⟩⟩ ?_
 obtain⟨l9,hl14,h⟩:=Qb h
 refine AK.loop (body:=(fun st=>QdY x3 st.1 st.2)) (fun st σ=>σ=⟨[(3,.own 7 st.2.length),(8,.own 7 st.2.length),(9,.i .i64 (x3.length:Int)),(10,.i .i64 st.1)],[(7,.arr 1 (st.2.map Qh))]⟩) (fun q e σ=>e=.exit 0∧σ=⟨[(3,.own 7 q.length)],[(7,.arr 1 (q.map Qh))]⟩) hl14 rfl ?_ ?_
 ·rintro ⟨x5,l6⟩ o σ rfl h
  replace h:QdY x3 x5 l6=some o:=h
  unfold QdY at h
  refine Qa hC [.n 6] rfl tt_ ?_
  rcases bifE h with⟨hc10,h⟩|⟨hc10,h⟩
  ·obtain⟨e11,he11,h⟩:=Qb h
   obtain⟨x12,hx12,h⟩:=Qb h
   obtain⟨e13,he13,h⟩:=Qb h
   refine Qa hC [.br true,.n 8,.o (.row (Qh e11)),.n 8,.o (.co false [.d] 2 (x12.map Qy) x12.length),.n 1,.frz 18 (x12.map Qy) [18] [],.st (Qh e13) ((l6.set x5.toNat x12).map Qh),.n 7,.say 3 (.own 7 (l6.set x5.toNat x12).length),.say 8 (.own 7 (l6.set x5.toNat x12).length),.keep [3,8,9,10] [7]] rfl ⟨⟨⟨⟨⟨⟨⟨⟨⟨tt_,hc10⟩,(Qd4 he11 rfl)⟩,(Qcm (idxE he11).2)⟩,⟨(QkI _ hx12),Qf,.inl rfl⟩⟩,(Qd4 he13 rfl)⟩,⟨tt_,(frzL Qf)⟩⟩,⟨(Qcm (idxE he13).2),QkM rfl⟩⟩,(congrArg (fun n=>V.own 7 n) (by simp))⟩,(congrArg (fun n=>V.own 7 n) (by simp))⟩ ?_
   cases h
   exact rndN rfl rfl
  ·refine Qa hC [.br false,.n 2,.keep [3] [7]] rfl ⟨tt_,hc10⟩ ?_
   cases h
   exact rndX rfl (an_ rfl rfl)
 ·replace h:Qlt l9=some r:=h
  unfold Qlt at h
  rintro e σ ⟨rfl,rfl⟩
  refine Qa hC [.n 9,.keep [2] [7],.ren 7 30000,.keep [2] [30000]] rfl tt_ ?_
  cases h
  exact AK.done (ex_ [_] (an_ (an_ rfl tt_) (gives ⟨rfl,tt_⟩)))
def QdB (l10:QLL):Option QLL:=
 some l10
def Qg1 (arcs2:Int)(x13:Int)(l14:(List Int)):Option ((Int×(List Int))⊕(List Int)):=
 bif (decide (x13<arcs2))then
 (chk (decide (l14.length+([x13]:List Int).length≤4294967296))).bind fun _=>
 some (.inl ((w64 (x13+1)),(l14++([x13]:List Int))))
 else
 some (.inr l14)
def Qjv (l17:(List Int)):Option QLL:=
 some ([l17]:List (List Int))
def Qg2 (arcs2:Int)(x23:Int)(l24:QLL):Option ((Int×QLL)⊕QLL):=
 bif (decide (x23<arcs2))then
 (chk (decide (l24.length+([([x23]:List Int)]:List (List Int)).length≤4294967296))).bind fun _=>
 some (.inl ((w64 (x23+1)),(l24++([([x23]:List Int)]:List (List Int)))))
 else
 some (.inr l24)
def Qjw (l27:QLL):Option QLL:=
 QdB l27
def Qg3 (x41:Int)(l47:(List Int)):Option ((Int×(List Int))⊕(List Int)):=
 some (.inl ((w64 (x41+1)),l47))
def Qg4 (arcs2:Int)(set_33:Int)(x41:Int)(l42:(List Int)):Option ((Int×(List Int))⊕(List Int)):=
 bif (decide (x41<arcs2))then
 (chk (decide (0≤x41))).bind fun _=>
 bif ((andI .i64 (shrI .i64 set_33 x41) 1)==1)then
 (chk (decide (l42.length+([x41]:List Int).length≤4294967296))).bind fun _=>
 Qg3 x41 (l42++([x41]:List Int))
 else
 Qg3 x41 l42
 else
 some (.inr l42)
def Qjx (l34:QLL)(set_33:Int)(l45:(List Int)):Option ((Int×QLL)⊕QLL):=
 (chk (decide (l34.length+([l45]:List (List Int)).length≤4294967296))).bind fun _=>
 some (.inl ((w64 (set_33+1)),(l34++([l45]:List (List Int)))))
def Qg5 (arcs2:Int)(set_33:Int)(l34:QLL):Option ((Int×QLL)⊕QLL):=
 (chk (decide (0≤arcs2))).bind fun _=>
 bif (decide (set_33<(shlI .i64 1 arcs2)))then
 (QC (fun st=>Qg4 arcs2 set_33 st.1 st.2) (0,([]:List Int))).bind (fun q=>Qjx l34 set_33 q)
 else
 some (.inr l34)
def QiT (l37:QLL):Option QLL:=
 QdB l37
def QbM (kind1:Int)(arcs2:Int):Option QLL:=
 bif ((decide (arcs2<0))||((decide (16<arcs2))||((kind1==3)&&(decide (4<arcs2)))))then
 some ([]:List (List Int))
 else
 bif (kind1==1)then
 (QC (fun st=>Qg1 arcs2 st.1 st.2) (0,([]:List Int))).bind (fun q=>Qjv q)
 else
 bif (kind1==2)then
 (QC (fun st=>Qg2 arcs2 st.1 st.2) (0,([]:List (List Int)))).bind (fun q=>Qjw q)
 else
 bif (kind1==3)then
 (QC (fun st=>Qg5 arcs2 st.1 st.2) (1,([]:List (List Int)))).bind (fun q=>QiT q)
 else
 QdB ([]:List (List Int))
theorem Qjy (kind1:Int)(arcs2:Int){r:QLL}(h:QbM kind1 arcs2=some r):Qc Tryz.prog 76 [.i .i64 kind1,.i .i64 arcs2] [] (Gives (.own 30000 r.length) [(30000,.arr 1 (r.map Qz))]):=by
 refine Qc.walk 79 Tryz.func76 rfl Tryz.ntmps76 rfl fun C hC=>?_
 unfold QbM at h
 refine Qa hC [.n 7] rfl tt_ ?_
 refine AK.meetX (fun σ=>σ=⟨[(0,.i .i64 kind1),(1,.i .i64 arcs2),(25,.b ((decide (arcs2<0))||((decide (16<arcs2))||((kind1==3)&&(decide (4<arcs2))))))],[]⟩) ?_ ?_
 ·refine Qa hC [.n 4] rfl tt_ ?_
  rcases QG (decide (arcs2<0))with hc6 | hc6
  ·refine Qa hC [.say 14 (.b true),.n 12,.say 25 (.b ((decide (arcs2<0))||((decide (16<arcs2))||((kind1==3)&&(decide (4<arcs2)))))),.keep [0,1,25] []] rfl ⟨⟨tt_,(congrArg V.b hc6)⟩,(congrArg V.b (orT hc6 rfl))⟩ ?_
   exact AK.met rfl
  ·refine Qa hC [.say 14 (.b false),.n 4] rfl ⟨tt_,(congrArg V.b hc6)⟩ ?_
   rcases QG (decide (16<arcs2))with hc7 | hc7
   ·refine Qa hC [.say 18 (.b true),.n 8,.say 25 (.b ((decide (arcs2<0))||((decide (16<arcs2))||((kind1==3)&&(decide (4<arcs2)))))),.keep [0,1,25] []] rfl ⟨⟨tt_,(congrArg V.b hc7)⟩,(congrArg V.b (orF hc6 (orT hc7 rfl)))⟩ ?_
    exact AK.met rfl
   ·refine Qa hC [.say 18 (.b false),.n 3] rfl ⟨tt_,(congrArg V.b hc7)⟩ ?_
    rcases QG (kind1==3)with hc8 | hc8
    ·refine Qa hC [.say 21 (.b true),.n 5,.say 25 (.b ((decide (arcs2<0))||((decide (16<arcs2))||((kind1==3)&&(decide (4<arcs2)))))),.keep [0,1,25] []] rfl ⟨⟨tt_,(congrArg V.b hc8)⟩,(congrArg V.b (orF hc6 (orF hc7 (andT hc8 rfl))))⟩ ?_
     exact AK.met rfl
    ·refine Qa hC [.say 21 (.b false),.n 5,.say 25 (.b ((decide (arcs2<0))||((decide (16<arcs2))||((kind1==3)&&(decide (4<arcs2)))))),.keep [0,1,25] []] rfl ⟨⟨tt_,(congrArg V.b hc8)⟩,(congrArg V.b (orF hc6 (orF hc7 (andF hc8 rfl))))⟩ ?_
     exact AK.met rfl
 ·rintro σ rfl
  refine Qa hC [.n 1] rfl tt_ ?_
  rcases bifE h with⟨hc9,h⟩|⟨hc9,h⟩
  ·refine Qa hC [.br true,.n 7,.adopt 4 30000 1,.sayO 30000 (.arr 1 (([]:List (List Int)).map Qz)),.say 4 (.own 30000 ([]:List (List Int)).length),.keep [4] [30000]] rfl ⟨⟨⟨tt_,hc9⟩,rfl⟩,rfl⟩ ?_
   cases h
   exact AK.done (ex_ [_] (an_ (an_ rfl tt_) (gives ⟨rfl,tt_⟩)))
  ·refine Qa hC [.br false,.n 7] rfl ⟨tt_,hc9⟩ ?_
   refine AK.meet (fun σ=>∃l10:QLL,σ=⟨[(5,.own 40005 l10.length)],[(40005,.arr 1 (l10.map Qz))]⟩∧QdB l10=some r) ?_ ?_
   ·refine Qa hC [.n 12] rfl tt_ ?_
    rcases bifE h with⟨hc11,h⟩|⟨hc11,h⟩
    ·refine Qa hC [.br true,.n 13,.adopt 6 33 1,.sayO 33 (.arr 1 (([]:List Int).map Qe)),.say 6 (.own 33 ([]:List Int).length),.keep [6,29,30] [33]] rfl ⟨⟨⟨tt_,hc11⟩,rfl⟩,(congrArg (fun n=>V.own 33 n) (by simp))⟩ ?_
     obtain⟨l17,hl20,h⟩:=Qb h
     refine AK.loop (body:=(fun st=>Qg1 arcs2 st.1 st.2)) (fun st σ=>σ=⟨[(6,.own 33 st.2.length),(29,.i .i64 arcs2),(30,.i .i64 st.1)],[(33,.arr 1 (st.2.map Qe))]⟩) (fun q e σ=>e=.exit 1∧σ=⟨[(6,.own 33 q.length)],[(33,.arr 1 (q.map Qe))]⟩) hl20 rfl ?_ ?_
     ·rintro ⟨x13,l14⟩ o σ rfl h
      replace h:Qg1 arcs2 x13 l14=some o:=h
      unfold Qg1 at h
      refine Qa hC [.n 6] rfl tt_ ?_
      rcases bifE h with⟨hc18,h⟩|⟨hc18,h⟩
      ·obtain⟨_,hk19,h⟩:=Qb h
       replace hk19:=chkE hk19
       refine Qa hC [.br true,.n 13,.v (.bd []) [] (.sl 1 (([x13]:List Int).map Qe)),.app ((l14++([x13]:List Int)).map Qe) (l14++([x13]:List Int)).length,.n 8,.keep [6,29,30] [33]] rfl ⟨⟨⟨tt_,hc18⟩,rfl⟩,⟨Qf,Qdm hk19 Qf,Qch,Qe8 Qf⟩⟩ ?_
       cases h
       exact rndN rfl rfl
      ·refine Qa hC [.br false,.n 2,.keep [6] [33]] rfl ⟨tt_,hc18⟩ ?_
       cases h
       exact rndX rfl (an_ rfl rfl)
     ·replace h:Qjv l17=some r:=h
      unfold Qjv at h
      rintro e σ ⟨rfl,rfl⟩
      refine Qa hC [.n 5,.frz 33 (l17.map Qe) [6,38] [],.n 1,.sayO 39 (.arr 1 (([l17]:List (List Int)).map Qz)),.say 39 (.own 39 ([l17]:List (List Int)).length),.n 6,.keep [4] [39],.ren 39 30000,.keep [4] [30000]] rfl ⟨⟨⟨tt_,⟨⟨tt_,(frzL Qf)⟩,(frzL Qf)⟩⟩,rfl⟩,rfl⟩ ?_
      cases h
      exact AK.done (ex_ [_] (an_ (an_ rfl tt_) (gives ⟨rfl,tt_⟩)))
    ·refine Qa hC [.br false,.n 6] rfl ⟨tt_,hc11⟩ ?_
     rcases bifE h with⟨hc21,h⟩|⟨hc21,h⟩
     ·refine Qa hC [.br true,.n 7,.adopt 5 46 1,.sayO 46 (.arr 1 (([]:List (List Int)).map Qz)),.say 5 (.own 46 ([]:List (List Int)).length),.keep [5,42,43] [46]] rfl ⟨⟨⟨tt_,hc21⟩,rfl⟩,(congrArg (fun n=>V.own 46 n) (by simp))⟩ ?_
      obtain⟨l27,hl30,h⟩:=Qb h
      refine AK.loop (body:=(fun st=>Qg2 arcs2 st.1 st.2)) (fun st σ=>σ=⟨[(5,.own 46 st.2.length),(42,.i .i64 arcs2),(43,.i .i64 st.1)],[(46,.arr 1 (st.2.map Qz))]⟩) (fun q e σ=>e=.exit 3∧σ=⟨[(5,.own 46 q.length)],[(46,.arr 1 (q.map Qz))]⟩) hl30 rfl ?_ ?_
      ·rintro ⟨x23,l24⟩ o σ rfl h
       replace h:Qg2 arcs2 x23 l24=some o:=h
       unfold Qg2 at h
       refine Qa hC [.n 6] rfl tt_ ?_
       rcases bifE h with⟨hc28,h⟩|⟨hc28,h⟩
       ·obtain⟨_,hk29,h⟩:=Qb h
        replace hk29:=chkE hk29
        refine Qa hC [.br true,.n 13,.v (.bd []) [] (.sl 1 (([x23]:List Int).map Qe)),.v (.bd []) [] (.sl 1 (([([x23]:List Int)]:List (List Int)).map Qz)),.app ((l24++([([x23]:List Int)]:List (List Int))).map Qz) (l24++([([x23]:List Int)]:List (List Int))).length,.n 8,.keep [5,42,43] [46]] rfl ⟨⟨⟨⟨tt_,hc28⟩,rfl⟩,rfl⟩,⟨Qf,Qdm hk29 Qf,Qch,Qe8 Qf⟩⟩ ?_
        cases h
        exact rndN rfl rfl
       ·refine Qa hC [.br false,.n 2,.keep [5] [46]] rfl ⟨tt_,hc28⟩ ?_
        cases h
        exact rndX rfl (an_ rfl rfl)
      ·replace h:Qjw l27=some r:=h
       unfold Qjw at h
       rintro e σ ⟨rfl,rfl⟩
       refine Qa hC [.n 2,.ren 46 40005,.keep [5] [40005]] rfl tt_ ?_
       exact AK.met (ex_ _ (an_ rfl h))
     ·refine Qa hC [.br false,.n 6] rfl ⟨tt_,hc21⟩ ?_
      rcases bifE h with⟨hc31,h⟩|⟨hc31,h⟩
      ·refine Qa hC [.br true,.n 6,.adopt 5 74 1,.sayO 74 (.arr 1 (([]:List (List Int)).map Qz)),.say 5 (.own 74 ([]:List (List Int)).length),.keep [1,5,9] [74]] rfl ⟨⟨⟨tt_,hc31⟩,rfl⟩,(congrArg (fun n=>V.own 74 n) (by simp))⟩ ?_
       obtain⟨l37,hl53,h⟩:=Qb h
       refine AK.loop (body:=(fun st=>Qg5 arcs2 st.1 st.2)) (fun st σ=>σ=⟨[(1,.i .i64 arcs2),(5,.own 74 st.2.length),(9,.i .i64 st.1)],[(74,.arr 1 (st.2.map Qz))]⟩) (fun q e σ=>e=.exit 5∧σ=⟨[(5,.own 74 q.length)],[(74,.arr 1 (q.map Qz))]⟩) hl53 rfl ?_ ?_
       ·rintro ⟨set_33,l34⟩ o σ rfl h
        replace h:Qg5 arcs2 set_33 l34=some o:=h
        unfold Qg5 at h
        obtain⟨_,hk38,h⟩:=Qb h
        replace hk38:=chkE hk38
        refine Qa hC [.n 5,.o (.any (.i .i64 (shlI .i64 1 arcs2)) none),.n 3] rfl ⟨tt_,(fun σ h1 h2 _=>Stp.shl rfl rfl (bleN hC.n rfl) (h1 _ _ rfl) (h1 _ _ rfl) (of_decide_eq_true hk38))⟩ ?_
        rcases bifE h with⟨hc39,h⟩|⟨hc39,h⟩
        ·refine Qa hC [.br true,.n 17,.adopt 10 69 1,.sayO 69 (.arr 1 (([]:List Int).map Qe)),.say 10 (.own 69 ([]:List Int).length),.keep [1,5,9,10,60,61] [69,74]] rfl ⟨⟨⟨tt_,hc39⟩,rfl⟩,(congrArg (fun n=>V.own 69 n) (by simp))⟩ ?_
         obtain⟨l45,hl51,h⟩:=Qb h
         refine AK.loop (body:=(fun st=>Qg4 arcs2 set_33 st.1 st.2)) (fun st σ=>σ=⟨[(1,.i .i64 arcs2),(5,.own 74 l34.length),(9,.i .i64 set_33),(10,.own 69 st.2.length),(60,.i .i64 arcs2),(61,.i .i64 st.1)],[(69,.arr 1 (st.2.map Qe)),(74,.arr 1 (l34.map Qz))]⟩) (fun q e σ=>e=.exit 7∧σ=⟨[(1,.i .i64 arcs2),(5,.own 74 l34.length),(9,.i .i64 set_33),(10,.own 69 q.length)],[(69,.arr 1 (q.map Qe)),(74,.arr 1 (l34.map Qz))]⟩) hl51 rfl ?_ ?_
         ·rintro ⟨x41,l42⟩ o σ rfl h
          replace h:Qg4 arcs2 set_33 x41 l42=some o:=h
          unfold Qg4 at h
          refine Qa hC [.n 6] rfl tt_ ?_
          rcases bifE h with⟨hc46,h⟩|⟨hc46,h⟩
          ·refine Qa hC [.br true,.n 2] rfl ⟨tt_,hc46⟩ ?_
           refine AK.meet (fun σ=>∃l47:(List Int),σ=⟨[(1,.i .i64 arcs2),(5,.own 74 l34.length),(9,.i .i64 set_33),(10,.own 69 l47.length),(60,.i .i64 arcs2),(61,.i .i64 x41)],[(69,.arr 1 (l47.map Qe)),(74,.arr 1 (l34.map Qz))]⟩∧Qg3 x41 l47=some o) ?_ ?_
           ·obtain⟨_,hk48,h⟩:=Qb h
            replace hk48:=chkE hk48
            refine Qa hC [.n 11,.o (.any (.i .i64 (shrI .i64 set_33 x41)) none),.o (.any (.i .i64 (andI .i64 (shrI .i64 set_33 x41) 1)) none),.n 3] rfl ⟨⟨tt_,(fun σ h1 h2 _=>Stp.shr rfl rfl (bleN hC.n rfl) (h1 _ _ rfl) (h1 _ _ rfl) (of_decide_eq_true hk48))⟩,(fun σ h1 h2 _=>Stp.andB rfl rfl (bleN hC.n rfl) (h1 _ _ rfl) (h1 _ _ rfl))⟩ ?_
            rcases bifE h with⟨hc49,h⟩|⟨hc49,h⟩
            ·obtain⟨_,hk50,h⟩:=Qb h
             replace hk50:=chkE hk50
             refine Qa hC [.br true,.n 3,.v (.bd []) [] (.sl 1 (([x41]:List Int).map Qe)),.app ((l42++([x41]:List Int)).map Qe) (l42++([x41]:List Int)).length,.n 3,.keep [1,5,9,10,60,61] [69,74]] rfl ⟨⟨⟨tt_,hc49⟩,rfl⟩,⟨Qf,Qdm hk50 Qf,Qch,Qe8 Qf⟩⟩ ?_
             exact AK.met (ex_ _ (an_ rfl h))
            ·refine Qa hC [.br false,.n 2,.keep [1,5,9,10,60,61] [69,74]] rfl ⟨tt_,hc49⟩ ?_
             exact AK.met (ex_ _ (an_ rfl h))
           ·rintro σ ⟨l47,rfl,h⟩
            unfold Qg3 at h
            refine Qa hC [.n 4,.keep [1,5,9,10,60,61] [69,74]] rfl tt_ ?_
            cases h
            exact rndN rfl rfl
          ·refine Qa hC [.br false,.n 2,.keep [1,5,9,10] [69,74]] rfl ⟨tt_,hc46⟩ ?_
           cases h
           exact rndX rfl (an_ rfl rfl)
         ·replace h:Qjx l34 set_33 l45=some o:=h
          unfold Qjx at h
          rintro e σ ⟨rfl,rfl⟩
          obtain⟨_,hk52,h⟩:=Qb h
          replace hk52:=chkE hk52
          refine Qa hC [.n 5,.frz 69 (l45.map Qe) [10,75] [],.v (.bd []) [] (.sl 1 (([l45]:List (List Int)).map Qz)),.app ((l34++([l45]:List (List Int))).map Qz) (l34++([l45]:List (List Int))).length,.n 9,.keep [1,5,9] [74]] rfl ⟨⟨⟨tt_,⟨⟨tt_,(frzL Qf)⟩,(frzL Qf)⟩⟩,rfl⟩,⟨Qf,Qdm hk52 Qf,Qch,Qe8 Qf⟩⟩ ?_
          cases h
          exact rndN rfl rfl
        ·refine Qa hC [.br false,.n 2,.keep [5] [74]] rfl ⟨tt_,hc39⟩ ?_
         cases h
         exact rndX rfl (an_ rfl rfl)
       ·replace h:QiT l37=some r:=h
        unfold QiT at h
        rintro e σ ⟨rfl,rfl⟩
        refine Qa hC [.n 2,.ren 74 40005,.keep [5] [40005]] rfl tt_ ?_
        exact AK.met (ex_ _ (an_ rfl h))
      ·refine Qa hC [.br false,.n 2,.adopt 5 40005 1,.sayO 40005 (.arr 1 (([]:List (List Int)).map Qz)),.say 5 (.own 40005 ([]:List (List Int)).length),.keep [5] [40005]] rfl ⟨⟨⟨tt_,hc31⟩,rfl⟩,(congrArg (fun n=>V.own 40005 n) (by simp))⟩ ?_
       exact AK.met (ex_ _ (an_ rfl h))
   ·rintro σ ⟨l10,rfl,h⟩
    unfold QdB at h
    refine Qa hC [.n 7,.keep [4] [40005],.ren 40005 30000,.keep [4] [30000]] rfl tt_ ?_
    cases h
    exact AK.done (ex_ [_] (an_ (an_ rfl tt_) (gives ⟨rfl,tt_⟩)))
def QkR (n1:TNet)(t2:Qr):Option (TNet×Qr):=
 some (n1,t2)
theorem QpB (n1:TNet)(t2:Qr){r:(TNet×Qr)}(h:QkR n1 t2=some r):Qc Tryz.prog 77 [.agg (Qd n1),.agg (Qi t2)] [] (Gives (.clo (.func 136) [] [.loc 3 0 0,.loc 2 0 0]) [(2,.var (Qd r.1)),(3,.var (Qi r.2))]):=by
 refine Qc.walk 6 Tryz.func77 rfl Tryz.ntmps77 rfl fun C hC=>?_
 unfold QkR at h
 refine Qa hC [.n 14,.keep [4] [2,3]] rfl tt_ ?_
 cases h
 exact AK.done (ex_ [_] (an_ (an_ rfl tt_) (gives ⟨rfl,rfl,tt_⟩)))
def Qaw (s1:(List Int)):Option (List Int):=
 (chk (decide (([]:List Int).length+s1.length≤4294967296))).bind fun _=>
 some (([]:List Int)++s1)
theorem QbT (s1:(List Int)){r:(List Int)}(h:Qaw s1=some r):Qc Tryz.prog 81 [.sl 1 (s1.map Qe)] [] (Gives (.own 30000 r.length) [(30000,.arr 1 (r.map Qe))]):=by
 refine Qc.walk 8 Tryz.func81 rfl Tryz.ntmps81 rfl fun C hC=>?_
 unfold Qaw at h
 refine Qa hC [.n 9] rfl tt_ ?_
 refine AK.eqNil rfl rfl rfl (bleN hC.n rfl) rfl rfl Qya ?_ ?_
 ·intro hz4
  replace h:some ([]:List Int)=some r:=by simpa [chk,List.map_eq_nil_iff.1 hz4] using h
  refine Qa hC [.n 10,.adopt 2 30000 1,.sayO 30000 (.arr 1 (([]:List Int).map Qe)),.say 2 (.own 30000 ([]:List Int).length),.keep [2] [30000]] rfl ⟨⟨tt_,rfl⟩,rfl⟩ ?_
  cases h
  exact AK.done (ex_ [_] (an_ (an_ rfl tt_) (gives ⟨rfl,tt_⟩)))
 ·obtain⟨_,hk5,h⟩:=Qb h
  replace hk5:=chkE hk5
  refine Qa hC [.n 8,.sayO 5 (.arr 1 (([]:List Int).map Qe)),.say 5 (.own 5 ([]:List Int).length),.n 1,.app ((([]:List Int)++s1).map Qe) (([]:List Int)++s1).length,.n 4,.keep [2] [5],.ren 5 30000,.keep [2] [30000]] rfl ⟨⟨⟨tt_,rfl⟩,rfl⟩,⟨Qf,Qdm hk5 Qf,Qch,Qe8 Qf⟩⟩ ?_
  cases h
  exact AK.done (ex_ [_] (an_ (an_ rfl tt_) (gives ⟨rfl,tt_⟩)))
def Qh6 (lo1:Int)(hi2:Int):Option Int:=
 bif (decide (hi2<lo1))then
 some 0
 else
 some (w64 ((w64 (min2 (IntKind.u64.wrap ((IntKind.u64.wrap hi2)-(IntKind.u64.wrap lo1))) 1024))+1))
theorem Qq1 (lo1:Int)(hi2:Int){r:Int}(h:Qh6 lo1 hi2=some r):Qc Tryz.prog 264 [.i .i64 lo1,.i .i64 hi2] [] (Gives (.i .i64 r) []):=by
 refine Qc.walk 16 Tryz.func264 rfl Tryz.ntmps264 rfl fun C hC=>?_
 unfold Qh6 at h
 refine Qa hC [.n 13] rfl tt_ ?_
 rcases bifE h with⟨hc5,h⟩|⟨hc5,h⟩
 ·refine Qa hC [.br true,.n 7,.keep [4] []] rfl ⟨tt_,hc5⟩ ?_
  cases h
  exact AK.done (ex_ [_] (an_ (an_ rfl tt_) (gives tt_)))
 ·refine Qa hC [.br false,.n 5,.o (.any (.i .u64 (IntKind.u64.wrap hi2)) none),.n 1,.o (.any (.i .u64 (IntKind.u64.wrap lo1)) none),.n 2,.o (.any (.i .i64 (w64 (min2 (IntKind.u64.wrap ((IntKind.u64.wrap hi2)-(IntKind.u64.wrap lo1))) 1024))) none),.n 5,.keep [4] []] rfl ⟨⟨⟨⟨tt_,hc5⟩,(fun σ h1 h2 _=>Stp.convI rfl rfl (bleN hC.n rfl) (h1 _ _ rfl) it_3 QpA)⟩,(fun σ h1 h2 _=>Stp.convI rfl rfl (bleN hC.n rfl) (h1 _ _ rfl) it_3 QpA)⟩,(fun σ h1 h2 _=>Stp.convI rfl rfl (bleN hC.n rfl) (h1 _ _ rfl) QpA it_3)⟩ ?_
  cases h
  exact AK.done (ex_ [_] (an_ (an_ rfl tt_) (gives tt_)))
def Qer (c1:Int):Option Bool:=
 some (bif (decide (97≤c1))then((decide (c1≤122))||((decide (65≤c1))&&(decide (c1≤90))))else((decide (65≤c1))&&(decide (c1≤90))))
theorem QlU (c1:Int){r:Bool}(h:Qer c1=some r):Qc Tryz.prog 251 [.i .u8 c1] [] (Gives (.b r) []):=by
 refine Qc.walk 17 Tryz.func251 rfl Tryz.ntmps251 rfl fun C hC=>?_
 unfold Qer at h
 refine Qa hC [.n 6] rfl tt_ ?_
 refine AK.meetX (fun σ=>σ=⟨[(2,.b (bif (decide (97≤c1))then((decide (c1≤122))||((decide (65≤c1))&&(decide (c1≤90))))else((decide (65≤c1))&&(decide (c1≤90)))))],[]⟩) ?_ ?_
 ·refine Qa hC [.n 4] rfl tt_ ?_
  rcases QG (decide (97≤c1))with hc4 | hc4
  ·refine Qa hC [.say 5 (.b true),.n 4] rfl ⟨tt_,(congrArg V.b hc4)⟩ ?_
   rcases QG (decide (c1≤122))with hc5 | hc5
   ·refine Qa hC [.say 9 (.b true),.n 9,.say 2 (.b (bif (decide (97≤c1))then((decide (c1≤122))||((decide (65≤c1))&&(decide (c1≤90))))else((decide (65≤c1))&&(decide (c1≤90))))),.keep [2] []] rfl ⟨⟨tt_,(congrArg V.b hc5)⟩,(congrArg V.b (bifT hc4 (orT hc5 rfl)))⟩ ?_
    exact AK.met rfl
   ·refine Qa hC [.say 9 (.b false),.n 3] rfl ⟨tt_,(congrArg V.b hc5)⟩ ?_
    rcases QG (decide (65≤c1))with hc6 | hc6
    ·refine Qa hC [.say 12 (.b true),.n 6,.say 2 (.b (bif (decide (97≤c1))then((decide (c1≤122))||((decide (65≤c1))&&(decide (c1≤90))))else((decide (65≤c1))&&(decide (c1≤90))))),.keep [2] []] rfl ⟨⟨tt_,(congrArg V.b hc6)⟩,(congrArg V.b (bifT hc4 (orF hc5 (andT hc6 rfl))))⟩ ?_
     exact AK.met rfl
    ·refine Qa hC [.say 12 (.b false),.n 6,.say 2 (.b (bif (decide (97≤c1))then((decide (c1≤122))||((decide (65≤c1))&&(decide (c1≤90))))else((decide (65≤c1))&&(decide (c1≤90))))),.keep [2] []] rfl ⟨⟨tt_,(congrArg V.b hc6)⟩,(congrArg V.b (bifT hc4 (orF hc5 (andF hc6 rfl))))⟩ ?_
     exact AK.met rfl
  ·refine Qa hC [.say 5 (.b false),.n 7] rfl ⟨tt_,(congrArg V.b hc4)⟩ ?_
   rcases QG (decide (65≤c1))with hc7 | hc7
   ·refine Qa hC [.say 12 (.b true),.n 6,.say 2 (.b (bif (decide (97≤c1))then((decide (c1≤122))||((decide (65≤c1))&&(decide (c1≤90))))else((decide (65≤c1))&&(decide (c1≤90))))),.keep [2] []] rfl ⟨⟨tt_,(congrArg V.b hc7)⟩,(congrArg V.b (bifF hc4 (andT hc7 rfl)))⟩ ?_
    exact AK.met rfl
   ·refine Qa hC [.say 12 (.b false),.n 6,.say 2 (.b (bif (decide (97≤c1))then((decide (c1≤122))||((decide (65≤c1))&&(decide (c1≤90))))else((decide (65≤c1))&&(decide (c1≤90))))),.keep [2] []] rfl ⟨⟨tt_,(congrArg V.b hc7)⟩,(congrArg V.b (bifF hc4 (andF hc7 rfl)))⟩ ?_
    exact AK.met rfl
 ·rintro σ rfl
  refine Qa hC [.n 2,.keep [2] []] rfl tt_ ?_
  cases h
  exact AK.done (ex_ [_] (an_ (an_ rfl tt_) (gives tt_)))
def Qkl (s1:ByteArray):Option Bool:=
 bif (QhK s1 (⟨#[]⟩:ByteArray))then
 some true
 else
 bif (decide (32<(s1.size:Int)))then
 some true
 else
 (sidx s1 0).bind fun c8=>
 (Qer c8).bind fun x9=>
 some (!x9)
def Qkm (c14:Int):Option Bool:=
 (Qer c14).bind fun x17=>
 bif (!x17)then
 bif (decide (c14<48))then
 some (c14 != 95)
 else
 bif (decide (57<c14))then
 some (c14 != 95)
 else
 some false
 else
 some false
def QfA (x11:Int)(x15:Bool):Option (Int⊕(Unit⊕Unit)):=
 bif x15 then
 some (.inr (.inl ()))
 else
 some (.inl (w64 (x11+1)))
def QdZ (s1:ByteArray)(x11:Int):Option (Int⊕(Unit⊕Unit)):=
 bif (decide (x11<(s1.size:Int)))then
 (sidx s1 x11).bind fun c14=>
 (Qkm c14).bind (fun x15=>QfA x11 x15)
 else
 some (.inr (.inr ()))
def QfB : Option Bool:=
 some false
def QfC : Option Bool:=
 some true
def QfD (s1:ByteArray)(x4:Bool):Option Bool:=
 bif x4 then
 some false
 else
 (QC (fun st=>QdZ s1 st) 0).bind (Sum.elim (fun q=>QfB) (fun q=>QfC))
def QeG (s1:ByteArray):Option Bool:=
 (Qkl s1).bind (fun x4=>QfD s1 x4)
theorem Qkn (s1:ByteArray){r:Bool}(h:QeG s1=some r):Qc Tryz.prog 208 [.s s1] [] (Gives (.b r) []):=by
 refine Qc.walk 42 Tryz.func208 rfl Tryz.ntmps208 rfl fun C hC=>?_
 unfold QeG at h
 refine Qa hC [.n 7] rfl tt_ ?_
 obtain⟨x4,hv5,h⟩:=Qb h
 replace h:QfD s1 x4=some r:=h
 refine AK.meetX (fun σ=>σ=⟨[(0,.s s1),(17,.b x4)],[]⟩) ?_ ?_
 ·replace h:=hv5
  unfold Qkl at h
  refine Qa hC [.n 4] rfl tt_ ?_
  rcases bifE h with⟨hc6,h⟩|⟨hc6,h⟩
  ·refine Qa hC [.say 7 (.b true),.n 11,.keep [0,17] []] rfl ⟨tt_,(congrArg V.b hc6)⟩ ?_
   cases h
   exact AK.met rfl
  ·refine Qa hC [.say 7 (.b false),.n 5] rfl ⟨tt_,(congrArg V.b hc6)⟩ ?_
   rcases bifE h with⟨hc7,h⟩|⟨hc7,h⟩
   ·refine Qa hC [.say 12 (.b true),.n 6,.keep [0,17] []] rfl ⟨tt_,(congrArg V.b hc7)⟩ ?_
    cases h
    exact AK.met rfl
   ·obtain⟨c8,hc8,h⟩:=Qb h
    obtain⟨x9,hx9,h⟩:=Qb h
    refine Qa hC [.say 12 (.b false),.n 1,.o (.num c8),.o (.c false [.d] (.b x9)),.n 3,.keep [0,17] []] rfl ⟨⟨⟨tt_,(congrArg V.b hc7)⟩,hc8⟩,(QlU _ hx9)⟩ ?_
    cases h
    exact AK.met rfl
 ·rintro σ rfl
  replace h:QfD s1 x4=some r:=h
  unfold QfD at h
  refine Qa hC [.n 1] rfl tt_ ?_
  rcases bifE h with⟨hc10,h⟩|⟨hc10,h⟩
  ·refine Qa hC [.br true,.n 7,.keep [2] []] rfl ⟨tt_,hc10⟩ ?_
   cases h
   exact AK.done (ex_ [_] (an_ (an_ rfl tt_) (gives tt_)))
  ·refine Qa hC [.br false,.n 11,.keep [0,19,20] []] rfl ⟨tt_,hc10⟩ ?_
   obtain⟨o22,hl22,h⟩:=Qb h
   refine AK.loop (body:=(fun st=>QdZ s1 st)) (fun st σ=>σ=⟨[(0,.s s1),(19,.i .i64 (s1.size:Int)),(20,.i .i64 st)],[]⟩) (Sum.elim (fun q e σ=>e=.ret∧σ=⟨[(2,.b false)],[]⟩) (fun q e σ=>e=.exit 0∧σ=⟨[],[]⟩)) hl22 rfl ?_ ?_
   ·rintro x11 o σ rfl h
    replace h:QdZ s1 x11=some o:=h
    unfold QdZ at h
    refine Qa hC [.n 6] rfl tt_ ?_
    rcases bifE h with⟨hc13,h⟩|⟨hc13,h⟩
    ·obtain⟨c14,hc14,h⟩:=Qb h
     refine Qa hC [.br true,.n 14,.o (.num c14),.n 4] rfl ⟨⟨tt_,hc13⟩,hc14⟩ ?_
     obtain⟨x15,hv16,h⟩:=Qb h
     replace h:QfA x11 x15=some o:=h
     refine AK.meetX (fun σ=>σ=⟨[(0,.s s1),(19,.i .i64 (s1.size:Int)),(20,.i .i64 x11),(40,.b x15)],[]⟩) ?_ ?_
     ·replace h:=hv16
      unfold Qkm at h
      obtain⟨x17,hx17,h⟩:=Qb h
      refine Qa hC [.n 2,.o (.c false [.d] (.b x17)),.n 2] rfl ⟨tt_,(QlU _ hx17)⟩ ?_
      rcases bifE h with⟨hc18,h⟩|⟨hc18,h⟩
      ·refine Qa hC [.say 29 (.b true),.n 3] rfl ⟨tt_,(congrArg V.b hc18)⟩ ?_
       rcases bifE h with⟨hc19,h⟩|⟨hc19,h⟩
       ·refine Qa hC [.say 32 (.b true),.n 9,.keep [0,19,20,40] []] rfl ⟨tt_,(congrArg V.b hc19)⟩ ?_
        cases h
        exact AK.met rfl
       ·refine Qa hC [.say 32 (.b false),.n 5] rfl ⟨tt_,(congrArg V.b hc19)⟩ ?_
        rcases bifE h with⟨hc20,h⟩|⟨hc20,h⟩
        ·refine Qa hC [.say 37 (.b true),.n 4,.keep [0,19,20,40] []] rfl ⟨tt_,(congrArg V.b hc20)⟩ ?_
         cases h
         exact AK.met rfl
        ·refine Qa hC [.say 37 (.b false),.n 4,.keep [0,19,20,40] []] rfl ⟨tt_,(congrArg V.b hc20)⟩ ?_
         cases h
         exact AK.met rfl
      ·refine Qa hC [.say 29 (.b false),.n 12,.keep [0,19,20,40] []] rfl ⟨tt_,(congrArg V.b hc18)⟩ ?_
       cases h
       exact AK.met rfl
     ·rintro σ rfl
      replace h:QfA x11 x15=some o:=h
      unfold QfA at h
      refine Qa hC [.n 1] rfl tt_ ?_
      rcases bifE h with⟨hc21,h⟩|⟨hc21,h⟩
      ·refine Qa hC [.br true,.n 8,.keep [2] []] rfl ⟨tt_,hc21⟩ ?_
       cases h
       exact rndR rfl (an_ rfl rfl)
      ·refine Qa hC [.br false,.n 7,.keep [0,19,20] []] rfl ⟨tt_,hc21⟩ ?_
       cases h
       exact rndN rfl rfl
    ·refine Qa hC [.br false,.n 2,.keep [] []] rfl ⟨tt_,hc13⟩ ?_
     cases h
     exact rndX rfl (an_ rfl rfl)
   ·rcases o22 with(_ | _)
    ·replace h:QfB=some r:=h
     unfold QfB at h
     rintro e σ ⟨rfl,rfl⟩
     refine Qa hC [.n 2,.keep [2] []] rfl tt_ ?_
     cases h
     exact AK.done (ex_ [_] (an_ (an_ rfl tt_) (gives tt_)))
    ·replace h:QfC=some r:=h
     unfold QfC at h
     rintro e σ ⟨rfl,rfl⟩
     refine Qa hC [.n 8,.keep [2] []] rfl tt_ ?_
     cases h
     exact AK.done (ex_ [_] (an_ (an_ rfl tt_) (gives tt_)))
def Qjz (e10:ByteArray)(m6:QSB):Option Bool:=
 (QeG e10).bind fun x13=>
 bif (!x13)then
 some true
 else
 some ((mget m6 e10).getD false)
def QeL (x5:Int)(m6:QSB)(e10:ByteArray)(x11:Bool):Option ((Int×QSB)⊕(Unit⊕Unit)):=
 bif x11 then
 some (.inr (.inl ()))
 else
 some (.inl ((w64 (x5+1)),(mset ltS m6 e10 true)))
def QdC (l1:(List ByteArray))(x5:Int)(m6:QSB):Option ((Int×QSB)⊕(Unit⊕Unit)):=
 bif (decide (x5<(l1.length:Int)))then
 (idx l1 x5).bind fun e10=>
 (Qjz e10 m6).bind (fun x11=>QeL x5 m6 e10 x11)
 else
 some (.inr (.inr ()))
def QeM : Option Bool:=
 some false
def QeN : Option Bool:=
 some true
def Qhg (l1:(List ByteArray)):Option Bool:=
 (QC (fun st=>QdC l1 st.1 st.2) (0,([]:QSB))).bind (Sum.elim (fun q=>QeM) (fun q=>QeN))
theorem Qqj (l1:(List ByteArray)){r:Bool}(h:Qhg l1=some r):Qc Tryz.prog 265 [.sl 1 (l1.map QdM)] [] (Gives (.b r) []):=by
 refine Qc.walk 24 Tryz.func265 rfl Tryz.ntmps265 rfl fun C hC=>?_
 unfold Qhg at h
 refine Qa hC [.n 8,.sayO 6 (.map (mapV V.s V.b ([]:QSB))),.n 7,.o (.ln l1.length),.n 4,.keep [3,7,8,9] [6]] rfl ⟨⟨tt_,rfl⟩,Qf⟩ ?_
 obtain⟨o16,hl16,h⟩:=Qb h
 refine AK.loop (body:=(fun st=>QdC l1 st.1 st.2)) (fun st σ=>σ=⟨[(3,.map 6),(7,.sl 1 (l1.map QdM)),(8,.i .i64 (l1.length:Int)),(9,.i .i64 st.1)],[(6,.map (mapV V.s V.b st.2))]⟩) (Sum.elim (fun q e σ=>e=.ret∧σ=⟨[(2,.b false)],[]⟩) (fun q e σ=>e=.exit 0∧σ=⟨[],[]⟩)) hl16 rfl ?_ ?_
 ·rintro ⟨x5,m6⟩ o σ rfl h
  replace h:QdC l1 x5 m6=some o:=h
  unfold QdC at h
  refine Qa hC [.n 6] rfl tt_ ?_
  rcases bifE h with⟨hc9,h⟩|⟨hc9,h⟩
  ·obtain⟨e10,he10,h⟩:=Qb h
   refine Qa hC [.br true,.n 6,.o (.row (QdM e10)),.n 6] rfl ⟨⟨tt_,hc9⟩,(idxM he10)⟩ ?_
   obtain⟨x11,hv12,h⟩:=Qb h
   replace h:QeL x5 m6 e10 x11=some o:=h
   refine AK.meetX (fun σ=>σ=⟨[(3,.map 6),(5,.s e10),(7,.sl 1 (l1.map QdM)),(8,.i .i64 (l1.length:Int)),(9,.i .i64 x5),(20,.b x11)],[(6,.map (mapV V.s V.b m6))]⟩) ?_ ?_
   ·replace h:=hv12
    unfold Qjz at h
    obtain⟨x13,hx13,h⟩:=Qb h
    refine Qa hC [.n 2,.o (.c false [.d] (.b x13)),.n 2] rfl ⟨tt_,(Qkn _ hx13)⟩ ?_
    rcases bifE h with⟨hc14,h⟩|⟨hc14,h⟩
    ·refine Qa hC [.say 16 (.b true),.n 5,.keep [3,5,7,8,9,20] [6]] rfl ⟨tt_,(congrArg V.b hc14)⟩ ?_
     cases h
     exact AK.met rfl
    ·refine Qa hC [.say 16 (.b false),.n 2,.o (.any (.b ((mget m6 e10).getD false)) none),.n 2,.keep [3,5,7,8,9,20] [6]] rfl ⟨⟨tt_,(congrArg V.b hc14)⟩,(fun σ h1 h2 _=>Stp.lookup (e:=V.s) (f:=V.b) (l:=m6) (k:=e10) (z:=false) rfl rfl (bleN hC.n rfl) (h1 _ _ rfl) (h2 _ _ rfl) (h1 _ _ rfl) QoD ky_9 zi_4 rfl)⟩ ?_
     cases h
     exact AK.met rfl
   ·rintro σ rfl
    replace h:QeL x5 m6 e10 x11=some o:=h
    unfold QeL at h
    refine Qa hC [.n 1] rfl tt_ ?_
    rcases bifE h with⟨hc15,h⟩|⟨hc15,h⟩
    ·refine Qa hC [.br true,.n 9,.keep [2] []] rfl ⟨tt_,hc15⟩ ?_
     cases h
     exact rndR rfl (an_ rfl rfl)
    ·refine Qa hC [.br false,.n 5,.x (fun σ=>σ.set 6 (.map (mapV V.s V.b (mset ltS m6 e10 true)))),.n 7,.keep [3,7,8,9] [6]] rfl ⟨⟨tt_,hc15⟩,(Stp.mapUpdate (e:=V.s) (f:=V.b) (l:=m6) (k:=e10) (v:=true) ltS rfl rfl rfl rfl rfl rfl QoD ky_9 rfl)⟩ ?_
     cases h
     exact rndN rfl rfl
  ·refine Qa hC [.br false,.n 2,.keep [] []] rfl ⟨tt_,hc9⟩ ?_
   cases h
   exact rndX rfl (an_ rfl rfl)
 ·rcases o16 with(_ | _)
  ·replace h:QeM=some r:=h
   unfold QeM at h
   rintro e σ ⟨rfl,rfl⟩
   refine Qa hC [.n 2,.keep [2] []] rfl tt_ ?_
   cases h
   exact AK.done (ex_ [_] (an_ (an_ rfl tt_) (gives tt_)))
  ·replace h:QeN=some r:=h
   unfold QeN at h
   rintro e σ ⟨rfl,rfl⟩
   refine Qa hC [.n 8,.keep [2] []] rfl tt_ ?_
   cases h
   exact AK.done (ex_ [_] (an_ (an_ rfl tt_) (gives tt_)))
def Qb6 : Option Int:=
 some 0
def Qh7 (c1:QA)(ahead2:(List Int)):Option Int:=
 bif (c1.Kind==1)then
 (Qh6 c1.Lo c1.Hi).bind fun x6=>
 some x6
 else
 bif (c1.Kind==2)then
 (Qhg c1.Names).bind fun x8=>
 bif x8 then
 some (c1.Names.length:Int)
 else
 Qb6
 else
 bif (c1.Kind==3)then
 bif ((decide (0≤(min2 c1.First c1.Then)))&&(decide ((max2 c1.First c1.Then)<(ahead2.length:Int))))then
 (idx ahead2 c1.First).bind fun e14=>
 (idx ahead2 c1.Then).bind fun e15=>
 some (w64 (e14*e15))
 else
 Qb6
 else
 Qb6
theorem Qq2 (c1:QA)(ahead2:(List Int)){r:Int}(h:Qh7 c1 ahead2=some r):Qc Tryz.prog 254 [.agg (Qx c1),.sl 1 (ahead2.map Qe)] [] (Gives (.i .i64 r) []):=by
 refine Qc.walk 51 Tryz.func254 rfl Tryz.ntmps254 rfl fun C hC=>?_
 unfold Qh7 at h
 refine Qa hC [.n 6] rfl tt_ ?_
 refine AK.meet (fun σ=>σ=⟨[],[]⟩∧Qb6=some r) ?_ ?_
 ·refine Qa hC [.n 13] rfl tt_ ?_
  rcases bifE h with⟨hc5,h⟩|⟨hc5,h⟩
  ·obtain⟨x6,hx6,h⟩:=Qb h
   refine Qa hC [.br true,.n 6,.o (.c false [.d,.d] (.i .i64 x6)),.n 6,.keep [4] []] rfl ⟨⟨tt_,hc5⟩,(Qq1 _ _ hx6)⟩ ?_
   cases h
   exact AK.done (ex_ [_] (an_ (an_ rfl tt_) (gives tt_)))
  ·refine Qa hC [.br false,.n 6] rfl ⟨tt_,hc5⟩ ?_
   rcases bifE h with⟨hc7,h⟩|⟨hc7,h⟩
   ·obtain⟨x8,hx8,h⟩:=Qb h
    refine Qa hC [.br true,.n 4,.o (.c false [.d] (.b x8)),.n 2] rfl ⟨⟨tt_,hc7⟩,(Qqj _ hx8)⟩ ?_
    rcases bifE h with⟨hc9,h⟩|⟨hc9,h⟩
    ·refine Qa hC [.br true,.n 4,.o (.ln c1.Names.length),.n 6,.keep [4] []] rfl ⟨⟨tt_,hc9⟩,Qf⟩ ?_
     cases h
     exact AK.done (ex_ [_] (an_ (an_ rfl tt_) (gives tt_)))
    ·refine Qa hC [.br false,.n 2,.keep [] []] rfl ⟨tt_,hc9⟩ ?_
     exact AK.met (an_ rfl h)
   ·refine Qa hC [.br false,.n 6] rfl ⟨tt_,hc7⟩ ?_
    rcases bifE h with⟨hc10,h⟩|⟨hc10,h⟩
    ·refine Qa hC [.br true,.n 1] rfl ⟨tt_,hc10⟩ ?_
     refine AK.meetX (fun σ=>σ=⟨[(1,.sl 1 (ahead2.map Qe)),(2,.loc 2 0 0),(39,.b ((decide (0≤(min2 c1.First c1.Then)))&&(decide ((max2 c1.First c1.Then)<(ahead2.length:Int)))))],[(2,.var (Qx c1))]⟩) ?_ ?_
     ·refine Qa hC [.n 8] rfl tt_ ?_
      rcases QG (decide (0≤(min2 c1.First c1.Then)))with hc12 | hc12
      ·refine Qa hC [.say 30 (.b true),.n 6,.o (.ln ahead2.length),.n 3,.say 39 (.b ((decide (0≤(min2 c1.First c1.Then)))&&(decide ((max2 c1.First c1.Then)<(ahead2.length:Int))))),.keep [1,2,39] [2]] rfl ⟨⟨⟨tt_,(congrArg V.b hc12)⟩,Qf⟩,(congrArg V.b (andT hc12 rfl))⟩ ?_
       exact AK.met rfl
      ·refine Qa hC [.say 30 (.b false),.n 10,.say 39 (.b ((decide (0≤(min2 c1.First c1.Then)))&&(decide ((max2 c1.First c1.Then)<(ahead2.length:Int))))),.keep [1,2,39] [2]] rfl ⟨⟨tt_,(congrArg V.b hc12)⟩,(congrArg V.b (andF hc12 rfl))⟩ ?_
       exact AK.met rfl
     ·rintro σ rfl
      refine Qa hC [.n 1] rfl tt_ ?_
      rcases bifE h with⟨hc13,h⟩|⟨hc13,h⟩
      ·obtain⟨e14,he14,h⟩:=Qb h
       obtain⟨e15,he15,h⟩:=Qb h
       refine Qa hC [.br true,.n 1,.keep [1,2] [2]] rfl ⟨tt_,hc13⟩ ?_
       refine AK.draw2 Qo hC mixed [.a .no none false,.a .no none false,.a .no none false,.a (.row (Qe e14)) none false,.a .no none false,.a .no none false,.a .no none false,.a .no none false,.a (.row (Qe e15)) none false,.a .no none false,.a .no none false,.a .no none false] [] [] [4] [] rfl rfl rfl ⟨⟨tt_,(idxM he14)⟩,(idxM he15)⟩ rfl (by kernel_rfl) rfl rfl rfl ?_
       refine Qa hC [.n 4,.keep [4] []] rfl tt_ ?_
       cases h
       exact AK.done (ex_ [_] (an_ (an_ rfl tt_) (gives tt_)))
      ·refine Qa hC [.br false,.n 2,.keep [] []] rfl ⟨tt_,hc13⟩ ?_
       exact AK.met (an_ rfl h)
    ·refine Qa hC [.br false,.n 2,.keep [] []] rfl ⟨tt_,hc10⟩ ?_
     exact AK.met (an_ rfl h)
 ·rintro σ ⟨rfl,h⟩
  unfold Qb6 at h
  refine Qa hC [.n 6,.keep [4] []] rfl tt_ ?_
  cases h
  exact AK.done (ex_ [_] (an_ (an_ rfl tt_) (gives tt_)))
def QjA (e16:QA)(m9:QSB)(x17:Int):Option Bool:=
 (QeG e16.Name).bind fun x20=>
 bif (!x20)then
 some true
 else
 bif ((mget m9 e16.Name).getD false)then
 some true
 else
 bif (decide (x17<1))then
 some true
 else
 some (decide (1024<x17))
def QeO (l10:(List Int))(x17:Int)(x8:Int)(m9:QSB)(e16:QA)(x18:Bool):Option ((Int×QSB×(List Int))⊕(Unit⊕(List Int))):=
 bif x18 then
 some (.inr (.inl ()))
 else
 (chk (decide (l10.length+([x17]:List Int).length≤4294967296))).bind fun _=>
 some (.inl ((w64 (x8+1)),(mset ltS m9 e16.Name true),(l10++([x17]:List Int))))
def QdD (l1:(List QA))(x8:Int)(m9:QSB)(l10:(List Int)):Option ((Int×QSB×(List Int))⊕(Unit⊕(List Int))):=
 bif (decide (x8<(l1.length:Int)))then
 (idx l1 x8).bind fun e16=>
 (Qh7 e16 l10).bind fun x17=>
 (QjA e16 m9 x17).bind (fun x18=>QeO l10 x17 x8 m9 e16 x18)
 else
 some (.inr (.inr l10))
def QjB : Option ((List Int)×Bool):=
 some (([]:List Int),false)
def QjC (l14:(List Int)):Option ((List Int)×Bool):=
 some (l14,true)
def Qfi (l1:(List QA)):Option ((List Int)×Bool):=
 bif (decide (32<(l1.length:Int)))then
 some (([]:List Int),false)
 else
 (QC (fun st=>QdD l1 st.1 st.2.1 st.2.2) (0,([]:QSB),([]:List Int))).bind (Sum.elim (fun q=>QjB) (fun q=>QjC q))
theorem Qmh (l1:(List QA)){r:((List Int)×Bool)}(h:Qfi l1=some r):Qc Tryz.prog 211 [.sl 7 (l1.map Qx)] [] (Gives (.tup [.sl 1 (r.1.map Qe),.b r.2]) []):=by
 refine Qc.walk 49 Tryz.func211 rfl Tryz.ntmps211 rfl fun C hC=>?_
 unfold Qfi at h
 refine Qa hC [.n 10,.o (.ln l1.length),.n 3] rfl ⟨tt_,Qf⟩ ?_
 rcases bifE h with⟨hc6,h⟩|⟨hc6,h⟩
 ·refine Qa hC [.br true,.n 8,.denil 2 [some 1],.keep [2,3] []] rfl ⟨tt_,hc6⟩ ?_
  cases h
  exact AK.done (ex_ [_,_] (an_ (an_ rfl (an_ rfl tt_)) (gives tt_)))
 ·refine Qa hC [.br false,.n 5,.sayO 12 (.map (mapV V.s V.b ([]:QSB))),.n 12,.o (.ln l1.length),.n 4,.adopt 5 43 1,.sayO 43 (.arr 1 (([]:List Int).map Qe)),.say 5 (.own 43 ([]:List Int).length),.keep [4,5,13,14,15] [12,43]] rfl ⟨⟨⟨⟨⟨tt_,hc6⟩,rfl⟩,Qf⟩,rfl⟩,(congrArg (fun n=>V.own 43 n) (by simp))⟩ ?_
  obtain⟨o26,hl26,h⟩:=Qb h
  refine AK.loop (body:=(fun st=>QdD l1 st.1 st.2.1 st.2.2)) (fun st σ=>σ=⟨[(4,.map 12),(5,.own 43 st.2.2.length),(13,.sl 7 (l1.map Qx)),(14,.i .i64 (l1.length:Int)),(15,.i .i64 st.1)],[(12,.map (mapV V.s V.b st.2.1)),(43,.arr 1 (st.2.2.map Qe))]⟩) (Sum.elim (fun q e σ=>e=.ret∧σ=⟨[(2,.lit (.slice none 0 0)),(3,.b false)],[]⟩) (fun q e σ=>e=.exit 0∧σ=⟨[(5,.own 43 q.length)],[(43,.arr 1 (q.map Qe))]⟩)) hl26 rfl ?_ ?_
  ·rintro ⟨x8,m9,l10⟩ o σ rfl h
   replace h:QdD l1 x8 m9 l10=some o:=h
   unfold QdD at h
   refine Qa hC [.n 6] rfl tt_ ?_
   rcases bifE h with⟨hc15,h⟩|⟨hc15,h⟩
   ·obtain⟨e16,he16,h⟩:=Qb h
    obtain⟨x17,hx17,h⟩:=Qb h
    refine Qa hC [.br true,.n 6,.o (.row (Qx e16)),.v .no [] (.agg (Qx e16)),.n 2,.sayO 7 (.var (Qx e16)),.n 4,.v .no [] (.agg (Qx e16)),.n 1,.o (.c true [.d,.o (l10.map Qe)] (.i .i64 x17)),.n 5] rfl ⟨⟨⟨⟨⟨⟨tt_,hc15⟩,(idxM he16)⟩,rfl⟩,rfl⟩,rfl⟩,⟨(Qqd rfl),(Qq2 _ _ hx17)⟩⟩ ?_
    obtain⟨x18,hv19,h⟩:=Qb h
    replace h:QeO l10 x17 x8 m9 e16 x18=some o:=h
    refine AK.meetX (fun σ=>σ=⟨[(4,.map 12),(5,.own 43 l10.length),(7,.loc 7 0 0),(8,.i .i64 x17),(13,.sl 7 (l1.map Qx)),(14,.i .i64 (l1.length:Int)),(15,.i .i64 x8),(39,.b x18)],[(7,.var (Qx e16)),(12,.map (mapV V.s V.b m9)),(43,.arr 1 (l10.map Qe))]⟩) ?_ ?_
    ·replace h:=hv19
     unfold QjA at h
     obtain⟨x20,hx20,h⟩:=Qb h
     refine Qa hC [.n 3,.o (.c false [.d] (.b x20)),.n 2] rfl ⟨tt_,(Qkn _ hx20)⟩ ?_
     rcases bifE h with⟨hc21,h⟩|⟨hc21,h⟩
     ·refine Qa hC [.say 26 (.b true),.n 14,.keep [4,5,7,8,13,14,15,39] [7,12,43]] rfl ⟨tt_,(congrArg V.b hc21)⟩ ?_
      cases h
      exact AK.met rfl
     ·refine Qa hC [.say 26 (.b false),.n 3,.o (.any (.b ((mget m9 e16.Name).getD false)) none),.n 2] rfl ⟨⟨tt_,(congrArg V.b hc21)⟩,(fun σ h1 h2 _=>Stp.lookup (e:=V.s) (f:=V.b) (l:=m9) (k:=e16.Name) (z:=false) rfl rfl (bleN hC.n rfl) (h1 _ _ rfl) (h2 _ _ rfl) (h1 _ _ rfl) QoD ky_9 zi_4 rfl)⟩ ?_
      rcases bifE h with⟨hc22,h⟩|⟨hc22,h⟩
      ·refine Qa hC [.say 32 (.b true),.n 8,.keep [4,5,7,8,13,14,15,39] [7,12,43]] rfl ⟨tt_,(congrArg V.b hc22)⟩ ?_
       cases h
       exact AK.met rfl
      ·refine Qa hC [.say 32 (.b false),.n 4] rfl ⟨tt_,(congrArg V.b hc22)⟩ ?_
       rcases bifE h with⟨hc23,h⟩|⟨hc23,h⟩
       ·refine Qa hC [.say 36 (.b true),.n 4,.keep [4,5,7,8,13,14,15,39] [7,12,43]] rfl ⟨tt_,(congrArg V.b hc23)⟩ ?_
        cases h
        exact AK.met rfl
       ·refine Qa hC [.say 36 (.b false),.n 4,.keep [4,5,7,8,13,14,15,39] [7,12,43]] rfl ⟨tt_,(congrArg V.b hc23)⟩ ?_
        cases h
        exact AK.met rfl
    ·rintro σ rfl
     replace h:QeO l10 x17 x8 m9 e16 x18=some o:=h
     unfold QeO at h
     refine Qa hC [.n 1] rfl tt_ ?_
     rcases bifE h with⟨hc24,h⟩|⟨hc24,h⟩
     ·refine Qa hC [.br true,.n 10,.keep [2,3] []] rfl ⟨tt_,hc24⟩ ?_
      cases h
      exact rndR rfl (an_ rfl rfl)
     ·obtain⟨_,hk25,h⟩:=Qb h
      replace hk25:=chkE hk25
      refine Qa hC [.br false,.n 7,.x (fun σ=>σ.set 12 (.map (mapV V.s V.b (mset ltS m9 e16.Name true)))),.n 5,.v (.bd []) [] (.sl 1 (([x17]:List Int).map Qe)),.app ((l10++([x17]:List Int)).map Qe) (l10++([x17]:List Int)).length,.n 8,.keep [4,5,13,14,15] [12,43]] rfl ⟨⟨⟨⟨tt_,hc24⟩,(Stp.mapUpdate (e:=V.s) (f:=V.b) (l:=m9) (k:=e16.Name) (v:=true) ltS rfl rfl rfl rfl rfl rfl QoD ky_9 rfl)⟩,rfl⟩,⟨Qf,Qdm hk25 Qf,Qch,Qe8 Qf⟩⟩ ?_
      cases h
      exact rndN rfl rfl
   ·refine Qa hC [.br false,.n 2,.keep [5] [43]] rfl ⟨tt_,hc15⟩ ?_
    cases h
    exact rndX rfl (an_ rfl rfl)
  ·rcases o26 with(_ | l14)
   ·replace h:QjB=some r:=h
    unfold QjB at h
    rintro e σ ⟨rfl,rfl⟩
    refine Qa hC [.n 2,.denil 2 [some 1],.keep [2,3] []] rfl tt_ ?_
    cases h
    exact AK.done (ex_ [_,_] (an_ (an_ rfl (an_ rfl tt_)) (gives tt_)))
   ·replace h:QjC l14=some r:=h
    unfold QjC at h
    rintro e σ ⟨rfl,rfl⟩
    refine Qa hC [.n 10,.frz 43 (l14.map Qe) [2] [],.keep [2,3] []] rfl ⟨tt_,⟨tt_,(frzL Qf)⟩⟩ ?_
    cases h
    exact AK.done (ex_ [_,_] (an_ (an_ rfl (an_ rfl tt_)) (gives tt_)))
def Qd8 (l1:(List QA))(k2:Int):Option (Bool×Qak):=
 (Qfi l1).bind fun x7=>
 bif ((!x7.2)||((decide (k2<0))||(decide ((l1.length:Int)≤k2))))then
 some (false,(Qak.mk ([]:(List QA)) ([]:(List Int)) 0))
 else
 some (true,(Qak.mk l1 x7.1 k2))
theorem Qlu (l1:(List QA))(k2:Int){r:(Bool×Qak)}(h:Qd8 l1 k2=some r):Qc Tryz.prog 184 [.sl 7 (l1.map Qx),.i .i64 k2] [] (Gives (.tup [.agg (QM r.2),.b r.1]) []):=by
 refine Qc.walk 30 Tryz.func184 rfl Tryz.ntmps184 rfl fun C hC=>?_
 unfold Qd8 at h
 obtain⟨x7,hx7,h⟩:=Qb h
 refine Qa hC [.n 9,.o (.c false [.d] (.tup [.sl 1 (x7.1.map Qe),.b x7.2])),.n 9] rfl ⟨tt_,(Qmh _ hx7)⟩ ?_
 refine AK.meetX (fun σ=>σ=⟨[(0,.sl 7 (l1.map Qx)),(1,.i .i64 k2),(4,.loc 4 0 0),(6,.sl 1 (x7.1.map Qe)),(24,.b ((!x7.2)||((decide (k2<0))||(decide ((l1.length:Int)≤k2)))))],[(4,.var [.lit (.slice none 0 0),.lit (.slice none 0 0),.i .i64 0])]⟩) ?_ ?_
 ·refine Qa hC [.n 4] rfl tt_ ?_
  rcases QG (!x7.2)with hc9 | hc9
  ·refine Qa hC [.say 15 (.b true),.n 10,.say 24 (.b ((!x7.2)||((decide (k2<0))||(decide ((l1.length:Int)≤k2))))),.keep [0,1,4,6,24] [4]] rfl ⟨⟨tt_,(congrArg V.b hc9)⟩,(congrArg V.b (orT hc9 rfl))⟩ ?_
   exact AK.met rfl
  ·refine Qa hC [.say 15 (.b false),.n 4] rfl ⟨tt_,(congrArg V.b hc9)⟩ ?_
   rcases QG (decide (k2<0))with hc10 | hc10
   ·refine Qa hC [.say 19 (.b true),.n 6,.say 24 (.b ((!x7.2)||((decide (k2<0))||(decide ((l1.length:Int)≤k2))))),.keep [0,1,4,6,24] [4]] rfl ⟨⟨tt_,(congrArg V.b hc10)⟩,(congrArg V.b (orF hc9 (orT hc10 rfl)))⟩ ?_
    exact AK.met rfl
   ·refine Qa hC [.say 19 (.b false),.n 2,.o (.ln l1.length),.n 3,.say 24 (.b ((!x7.2)||((decide (k2<0))||(decide ((l1.length:Int)≤k2))))),.keep [0,1,4,6,24] [4]] rfl ⟨⟨⟨tt_,(congrArg V.b hc10)⟩,Qf⟩,(congrArg V.b (orF hc9 (orF hc10 rfl)))⟩ ?_
    exact AK.met rfl
 ·rintro σ rfl
  refine Qa hC [.n 1] rfl tt_ ?_
  rcases bifE h with⟨hc11,h⟩|⟨hc11,h⟩
  ·refine Qa hC [.br true,.n 2,.v .no [some 7,some 1,none] (.agg (QM (Qak.mk ([]:(List QA)) ([]:(List Int)) 0))),.n 1,.sayO 4 (.var (QM (Qak.mk ([]:(List QA)) ([]:(List Int)) 0))),.n 5,.keep [4,5] [4]] rfl ⟨⟨⟨tt_,hc11⟩,rfl⟩,rfl⟩ ?_
   cases h
   exact AK.done (ex_ [_,_] (an_ (an_ (ex_ _ (ex_ _ (an_ rfl (an_ rfl (Or.inl (an_ (Qo.ag rfl) (an_ (Qo.sz rfl) rfl))))))) (an_ rfl tt_)) (gives tt_)))
  ·refine Qa hC [.br false,.n 7,.v .no [] (.agg (QM (Qak.mk l1 x7.1 k2))),.n 1,.sayO 4 (.var (QM (Qak.mk l1 x7.1 k2))),.n 4,.keep [4,5] [4]] rfl ⟨⟨⟨tt_,hc11⟩,rfl⟩,rfl⟩ ?_
   cases h
   exact AK.done (ex_ [_,_] (an_ (an_ (ex_ _ (ex_ _ (an_ rfl (an_ rfl (Or.inl (an_ (Qo.ag rfl) (an_ (Qo.sz rfl) rfl))))))) (an_ rfl tt_)) (gives tt_)))
def QdO (m2:Int)(s1:Qak):Option Bool:=
 bif (decide (0≤m2))then
 (idx s1.sizes s1.k).bind fun e7=>
 some (decide (m2<e7))
 else
 some false
def Qf5 (x4:Bool):Option Bool:=
 some x4
def Qb7 (s1:Qak)(m2:Int):Option Bool:=
 (QdO m2 s1).bind (fun x4=>Qf5 x4)
theorem Qlr (s1:Qak)(m2:Int){r:Bool}(h:Qb7 s1 m2=some r):Qc Tryz.prog 200 [.agg (QM s1),.i .i64 m2] [] (Gives (.b r) []):=by
 refine Qc.walk 17 Tryz.func200 rfl Tryz.ntmps200 rfl fun C hC=>?_
 unfold Qb7 at h
 refine Qa hC [.n 7] rfl tt_ ?_
 obtain⟨x4,hv5,h⟩:=Qb h
 replace h:Qf5 x4=some r:=h
 refine AK.meetX (fun σ=>σ=⟨[(4,.b x4)],[]⟩) ?_ ?_
 ·replace h:=hv5
  unfold QdO at h
  refine Qa hC [.n 4] rfl tt_ ?_
  rcases bifE h with⟨hc6,h⟩|⟨hc6,h⟩
  ·obtain⟨e7,he7,h⟩:=Qb h
   refine Qa hC [.say 7 (.b true),.n 5,.o (.row (Qe e7)),.n 5,.keep [4] []] rfl ⟨⟨tt_,(congrArg V.b hc6)⟩,(idxM he7)⟩ ?_
   cases h
   exact AK.met rfl
  ·refine Qa hC [.say 7 (.b false),.n 11,.keep [4] []] rfl ⟨tt_,(congrArg V.b hc6)⟩ ?_
   cases h
   exact AK.met rfl
 ·rintro σ rfl
  replace h:Qf5 x4=some r:=h
  unfold Qf5 at h
  refine Qa hC [.n 2,.keep [4] []] rfl tt_ ?_
  cases h
  exact AK.done (ex_ [_] (an_ (an_ rfl tt_) (gives tt_)))
def QbS (s1:Qak):Option QA:=
 (idx s1.all s1.k).bind fun e3=>
 some e3
theorem QgM (s1:Qak){r:QA}(h:QbS s1=some r):Qc Tryz.prog 201 [.agg (QM s1)] [] (Gives (.agg (Qx r)) []):=by
 refine Qc.walk 9 Tryz.func201 rfl Tryz.ntmps201 rfl fun C hC=>?_
 unfold QbS at h
 obtain⟨e3,he3,h⟩:=Qb h
 refine Qa hC [.n 12,.o (.row (Qx e3)),.v .no [] (.agg (Qx e3)),.n 1,.sayO 2 (.var (Qx e3)),.n 3,.keep [2] [2]] rfl ⟨⟨⟨tt_,(idxM he3)⟩,rfl⟩,rfl⟩ ?_
 cases h
 exact AK.done (ex_ [_] (an_ (an_ (ex_ _ (ex_ _ (an_ rfl (an_ rfl (Or.inl (an_ (Qo.ag rfl) (an_ (Qo.sz rfl) rfl))))))) tt_) (gives tt_)))
def Qgn (x8:(Bool×Qak))(m3:Int):Option Bool:=
 bif (!x8.1)then
 some true
 else
 (Qb7 x8.2 m3).bind fun x12=>
 some (!x12)
def Qc2 (x8:(Bool×Qak))(m3:Int)(x9:Bool):Option (Int×Bool):=
 bif x9 then
 some (0,false)
 else
 (QbS x8.2).bind fun x14=>
 bif (x14.Kind==1)then
 (QbS x8.2).bind fun x16=>
 some ((w64 (x16.Lo+m3)),true)
 else
 some (m3,true)
def Qdn (l1:(List QA))(k2:Int)(m3:Int):Option (Int×Bool):=
 (Qd8 l1 k2).bind fun x8=>
 (Qgn x8 m3).bind (fun x9=>Qc2 x8 m3 x9)
theorem QpC (l1:(List QA))(k2:Int)(m3:Int){r:(Int×Bool)}(h:Qdn l1 k2 m3=some r):Qc Tryz.prog 138 [.sl 7 (l1.map Qx),.i .i64 k2,.i .i64 m3] [] (Gives (.tup [.i .i64 r.1,.b r.2]) []):=by
 refine Qc.walk 36 Tryz.func138 rfl Tryz.ntmps138 rfl fun C hC=>?_
 unfold Qdn at h
 obtain⟨x8,hx8,h⟩:=Qb h
 refine Qa hC [.n 10,.o (.c false [.d,.d] (.tup [.agg (QM x8.2),.b x8.1])),.n 5,.sayO 8 (.var (QM x8.2)),.n 6] rfl ⟨⟨tt_,(Qlu _ _ hx8)⟩,rfl⟩ ?_
 obtain⟨x9,hv10,h⟩:=Qb h
 replace h:Qc2 x8 m3 x9=some r:=h
 refine AK.meetX (fun σ=>σ=⟨[(2,.i .i64 m3),(8,.loc 8 0 0),(16,.b x9)],[(8,.var (QM x8.2))]⟩) ?_ ?_
 ·replace h:=hv10
  unfold Qgn at h
  refine Qa hC [.n 4] rfl tt_ ?_
  rcases bifE h with⟨hc11,h⟩|⟨hc11,h⟩
  ·refine Qa hC [.say 19 (.b true),.n 7,.keep [2,8,16] [8]] rfl ⟨tt_,(congrArg V.b hc11)⟩ ?_
   cases h
   exact AK.met rfl
  ·obtain⟨x12,hx12,h⟩:=Qb h
   refine Qa hC [.say 19 (.b false),.v .no [] (.agg (QM x8.2)),.n 1,.o (.c false [.d,.d] (.b x12)),.n 4,.keep [2,8,16] [8]] rfl ⟨⟨⟨tt_,(congrArg V.b hc11)⟩,rfl⟩,(Qlr _ _ hx12)⟩ ?_
   cases h
   exact AK.met rfl
 ·rintro σ rfl
  replace h:Qc2 x8 m3 x9=some r:=h
  unfold Qc2 at h
  refine Qa hC [.n 1] rfl tt_ ?_
  rcases bifE h with⟨hc13,h⟩|⟨hc13,h⟩
  ·refine Qa hC [.br true,.n 9,.keep [6,7] []] rfl ⟨tt_,hc13⟩ ?_
   cases h
   exact AK.done (ex_ [_,_] (an_ (an_ rfl (an_ rfl tt_)) (gives tt_)))
  ·obtain⟨x14,hx14,h⟩:=Qb h
   refine Qa hC [.br false,.n 2,.v .no [] (.agg (QM x8.2)),.o (.c false [.d] (.agg (Qx x14))),.o (.any (.i .i64 x14.Kind) none),.n 4] rfl ⟨⟨⟨⟨tt_,hc13⟩,rfl⟩,(QgM _ hx14)⟩,(fun σ h1 h2 _=>Stp.field rfl rfl (bleN hC.n rfl) (h1 _ _ rfl) Qxn rfl)⟩ ?_
   rcases bifE h with⟨hc15,h⟩|⟨hc15,h⟩
   ·obtain⟨x16,hx16,h⟩:=Qb h
    refine Qa hC [.br true,.n 2,.v .no [] (.agg (QM x8.2)),.o (.c false [.d] (.agg (Qx x16))),.o (.any (.i .i64 x16.Lo) none),.n 9,.keep [6,7] []] rfl ⟨⟨⟨⟨tt_,hc15⟩,rfl⟩,(QgM _ hx16)⟩,(fun σ h1 h2 _=>Stp.field rfl rfl (bleN hC.n rfl) (h1 _ _ rfl) Qxo rfl)⟩ ?_
    cases h
    exact AK.done (ex_ [_,_] (an_ (an_ rfl (an_ rfl tt_)) (gives tt_)))
   ·refine Qa hC [.br false,.n 11,.keep [6,7] []] rfl ⟨tt_,hc15⟩ ?_
    cases h
    exact AK.done (ex_ [_,_] (an_ (an_ rfl (an_ rfl tt_)) (gives tt_)))
def QdI (e11:Qr)(vars3:(List Int))(n1:TNet)(x15:Int)(l16:(List Int)):Option ((Int×(List Int))⊕(Unit⊕(List Int))):=
 bif (decide (x15<(e11.Vars.length:Int)))then
 (idx e11.Vars x15).bind fun e21=>
 (idx vars3 x15).bind fun e22=>
 (Qdn n1.Colours e21.Colour e22).bind fun x23=>
 bif (!x23.2)then
 some (.inr (.inl ()))
 else
 (idx l16 x15).bind fun e25=>
 some (.inl ((w64 (x15+1)),(l16.set x15.toNat x23.1)))
 else
 some (.inr (.inr l16))
def Ql2 : Option ((List Int)×Int):=
 some (([]:List Int),1)
def Ql3 (l19:(List Int)):Option ((List Int)×Int):=
 some (l19,0)
def Qd9 (n1:TNet)(task2:Int)(vars3:(List Int)):Option ((List Int)×Int):=
 bif ((decide (task2<0))||(decide ((n1.Tasks.length:Int)≤task2)))then
 some (([]:List Int),3)
 else
 (idx n1.Tasks task2).bind fun e11=>
 bif ((vars3.length:Int) != (e11.Vars.length:Int))then
 some (([]:List Int),1)
 else
 (chk (decide (0≤(e11.Vars.length:Int))&&decide ((e11.Vars.length:Int)≤(e11.Vars.length:Int))&&decide ((e11.Vars.length:Int)≤4294967296))).bind fun _=>
 (QC (fun st=>QdI e11 vars3 n1 st.1 st.2) (0,(List.replicate (e11.Vars.length:Int).toNat (0:Int)))).bind (Sum.elim (fun q=>Ql2) (fun q=>Ql3 q))
theorem Ql4 (n1:TNet)(task2:Int)(vars3:(List Int)){r:((List Int)×Int)}(h:Qd9 n1 task2 vars3=some r):Qc Tryz.prog 82 [.agg (Qd n1),.i .i64 task2,.sl 1 (vars3.map Qe)] [] (Gives (.tup [.sl 1 (r.1.map Qe),.i .i64 r.2]) []):=by
 refine Qc.walk 64 Tryz.func82 rfl Tryz.ntmps82 rfl fun C hC=>?_
 unfold Qd9 at h
 refine Qa hC [.n 9] rfl tt_ ?_
 refine AK.meetX (fun σ=>σ=⟨[(1,.i .i64 task2),(2,.sl 1 (vars3.map Qe)),(3,.loc 3 0 0),(22,.b ((decide (task2<0))||(decide ((n1.Tasks.length:Int)≤task2))))],[(3,.var (Qd n1))]⟩) ?_ ?_
 ·refine Qa hC [.n 4] rfl tt_ ?_
  rcases QG (decide (task2<0))with hc9 | hc9
  ·refine Qa hC [.say 16 (.b true),.n 7,.say 22 (.b ((decide (task2<0))||(decide ((n1.Tasks.length:Int)≤task2)))),.keep [1,2,3,22] [3]] rfl ⟨⟨tt_,(congrArg V.b hc9)⟩,(congrArg V.b (orT hc9 rfl))⟩ ?_
   exact AK.met rfl
  ·refine Qa hC [.say 16 (.b false),.n 3,.o (.ln n1.Tasks.length),.n 3,.say 22 (.b ((decide (task2<0))||(decide ((n1.Tasks.length:Int)≤task2)))),.keep [1,2,3,22] [3]] rfl ⟨⟨⟨tt_,(congrArg V.b hc9)⟩,Qf⟩,(congrArg V.b (orF hc9 rfl))⟩ ?_
   exact AK.met rfl
 ·rintro σ rfl
  refine Qa hC [.n 1] rfl tt_ ?_
  rcases bifE h with⟨hc10,h⟩|⟨hc10,h⟩
  ·refine Qa hC [.br true,.n 8,.denil 6 [some 1],.keep [6,7] []] rfl ⟨tt_,hc10⟩ ?_
   cases h
   exact AK.done (ex_ [_,_] (an_ (an_ rfl (an_ rfl tt_)) (gives tt_)))
  ·obtain⟨e11,he11,h⟩:=Qb h
   refine Qa hC [.br false,.n 7,.o (.row (Qi e11)),.n 9,.o (.ln vars3.length),.n 1,.o (.ln e11.Vars.length),.n 3] rfl ⟨⟨⟨⟨tt_,hc10⟩,(idxM he11)⟩,Qf⟩,Qf⟩ ?_
   rcases bifE h with⟨hc12,h⟩|⟨hc12,h⟩
   ·refine Qa hC [.br true,.n 8,.denil 6 [some 1],.keep [6,7] []] rfl ⟨tt_,hc12⟩ ?_
    cases h
    exact AK.done (ex_ [_,_] (an_ (an_ rfl (an_ rfl tt_)) (gives tt_)))
   ·obtain⟨_,hk13,h⟩:=Qb h
    replace hk13:=chkE hk13
    refine Qa hC [.br false,.n 5,.o (.ln e11.Vars.length),.o (.rows ((List.replicate (e11.Vars.length:Int).toNat (0:Int)).map Qe)),.say 36 (.own 36 (List.replicate (e11.Vars.length:Int).toNat (0:Int)).length),.n 7,.o (.ln e11.Vars.length),.n 4,.keep [2,3,9,37,38,39] [3,36]] rfl ⟨⟨⟨⟨⟨tt_,hc12⟩,Qf⟩,⟨hk13,Qvz rfl⟩⟩,(by simp)⟩,Qf⟩ ?_
    obtain⟨o26,hl26,h⟩:=Qb h
    refine AK.loop (body:=(fun st=>QdI e11 vars3 n1 st.1 st.2)) (fun st σ=>σ=⟨[(2,.sl 1 (vars3.map Qe)),(3,.loc 3 0 0),(9,.own 36 st.2.length),(37,.sl 2 (e11.Vars.map QE)),(38,.i .i64 (e11.Vars.length:Int)),(39,.i .i64 st.1)],[(3,.var (Qd n1)),(36,.arr 1 (st.2.map Qe))]⟩) (Sum.elim (fun q e σ=>e=.ret∧σ=⟨[(6,.lit (.slice none 0 0)),(7,.i .i64 1)],[]⟩) (fun q e σ=>e=.exit 0∧σ=⟨[(9,.own 36 q.length)],[(36,.arr 1 (q.map Qe))]⟩)) hl26 rfl ?_ ?_
    ·rintro ⟨x15,l16⟩ o σ rfl h
     replace h:QdI e11 vars3 n1 x15 l16=some o:=h
     unfold QdI at h
     refine Qa hC [.n 6] rfl tt_ ?_
     rcases bifE h with⟨hc20,h⟩|⟨hc20,h⟩
     ·obtain⟨e21,he21,h⟩:=Qb h
      obtain⟨e22,he22,h⟩:=Qb h
      obtain⟨x23,hx23,h⟩:=Qb h
      refine Qa hC [.br true,.n 7,.o (.row (QE e21)),.v .no [] (.agg (QE e21)),.n 3,.sayO 11 (.var (QE e21)),.n 3,.keep [2,3,9,10,11,37,38,39] [3,11,36]] rfl ⟨⟨⟨⟨tt_,hc20⟩,(idxM he21)⟩,rfl⟩,rfl⟩ ?_
      refine AK.draw2 Qo hC mixed [.a .no none false,.a .no none false,.a .no none false,.a .no none false,.a .no none false,.a .no none false,.a (.row (Qe e22)) none false,.a .no none false,.a (.c false [.d,.d,.d] (.tup [.i .i64 x23.1,.b x23.2])) none false,.a .no none false,.a .no none false,.a .no none false,.a .no none false,.a .no none false] [] [] [2,3,9,10,12,13,37,38,39] [3,36] rfl rfl rfl ⟨⟨tt_,(idxM he22)⟩,(QpC _ _ _ hx23)⟩ rfl (by kernel_rfl) rfl rfl rfl ?_
      refine Qa hC [.n 8] rfl tt_ ?_
      rcases bifE h with⟨hc24,h⟩|⟨hc24,h⟩
      ·refine Qa hC [.br true,.n 10,.keep [6,7] []] rfl ⟨tt_,hc24⟩ ?_
       cases h
       exact rndR rfl (an_ rfl rfl)
      ·obtain⟨e25,he25,h⟩:=Qb h
       refine Qa hC [.br false,.n 7,.st (Qe e25) ((l16.set x15.toNat x23.1).map Qe),.n 7,.say 9 (.own 36 (l16.set x15.toNat x23.1).length),.keep [2,3,9,37,38,39] [3,36]] rfl ⟨⟨⟨⟨tt_,hc24⟩,(Qd4 he25 rfl)⟩,⟨(Qcm (idxE he25).2),QkM rfl⟩⟩,(congrArg (fun n=>V.own 36 n) (by simp))⟩ ?_
       cases h
       exact rndN rfl rfl
     ·refine Qa hC [.br false,.n 2,.keep [9] [36]] rfl ⟨tt_,hc20⟩ ?_
      cases h
      exact rndX rfl (an_ rfl rfl)
    ·rcases o26 with(_ | l19)
     ·replace h:Ql2=some r:=h
      unfold Ql2 at h
      rintro e σ ⟨rfl,rfl⟩
      refine Qa hC [.n 2,.denil 6 [some 1],.keep [6,7] []] rfl tt_ ?_
      cases h
      exact AK.done (ex_ [_,_] (an_ (an_ rfl (an_ rfl tt_)) (gives tt_)))
     ·replace h:Ql3 l19=some r:=h
      unfold Ql3 at h
      rintro e σ ⟨rfl,rfl⟩
      refine Qa hC [.n 10,.frz 36 (l19.map Qe) [6] [],.keep [6,7] []] rfl ⟨tt_,⟨tt_,(frzL Qf)⟩⟩ ?_
      cases h
      exact AK.done (ex_ [_,_] (an_ (an_ rfl (an_ rfl tt_)) (gives tt_)))
def Qa5 (n1:TNet)(m2:QMk)(task3:Int)(vars4:(List Int)):Option (Int×QD):=
 (Qd9 n1 task3 vars4).bind fun x9=>
 bif (x9.2 != 0)then
 some (x9.2,(QD.mk (TNet.mk ([]:(List QA)) ([]:(List QB)) ([]:(List Qr)) 0 0) ([]:QMk) (Qr.mk (⟨#[]⟩:ByteArray) ([]:(List TVar)) (Qg.mk 0 0 ([]:(List Qg))) 0 0 ([]:(List TArc)) ([]:(List TArc)) ([]:(List Int)) 0 (0,0,0)) ([]:(List Int))))
 else
 (idx n1.Tasks task3).bind fun e11=>
 some (0,(QD.mk n1 m2 e11 x9.1))
theorem Qnx (n1:TNet)(m2:QMk)(task3:Int)(vars4:(List Int)){r:(Int×QD)}(h:Qa5 n1 m2 task3 vars4=some r):Qc Tryz.prog 41 [.agg (Qd n1),.sl 1 (m2.map Qh),.i .i64 task3,.sl 1 (vars4.map Qe)] [] (Gives (.tup [.agg (Qq r.2),.i .i64 r.1]) []):=by
 refine Qc.walk 32 Tryz.func41 rfl Tryz.ntmps41 rfl fun C hC=>?_
 unfold Qa5 at h
 obtain⟨x9,hx9,h⟩:=Qb h
 refine Qa hC [.n 9,.v .no [] (.agg (Qd n1)),.n 2,.o (.c false [.d,.d,.d] (.tup [.sl 1 (x9.1.map Qe),.i .i64 x9.2])),.n 14] rfl ⟨⟨tt_,rfl⟩,(Ql4 _ _ _ hx9)⟩ ?_
 rcases bifE h with⟨hc10,h⟩|⟨hc10,h⟩
 ·refine Qa hC [.br true,.n 2,.v .no [some 7,some 3,some 14,none,none,some 1,none,some 2,none,none,some 3,none,none,some 4,some 4,some 1,none,none,none,none,some 1] (.agg (Qq (QD.mk (TNet.mk ([]:(List QA)) ([]:(List QB)) ([]:(List Qr)) 0 0) ([]:QMk) (Qr.mk (⟨#[]⟩:ByteArray) ([]:(List TVar)) (Qg.mk 0 0 ([]:(List Qg))) 0 0 ([]:(List TArc)) ([]:(List TArc)) ([]:(List Int)) 0 (0,0,0)) ([]:(List Int))))),.n 2,.sayO 8 (.var (Qq (QD.mk (TNet.mk ([]:(List QA)) ([]:(List QB)) ([]:(List Qr)) 0 0) ([]:QMk) (Qr.mk (⟨#[]⟩:ByteArray) ([]:(List TVar)) (Qg.mk 0 0 ([]:(List Qg))) 0 0 ([]:(List TArc)) ([]:(List TArc)) ([]:(List Int)) 0 (0,0,0)) ([]:(List Int))))),.n 5,.keep [8,9] [8]] rfl ⟨⟨⟨tt_,hc10⟩,rfl⟩,rfl⟩ ?_
  cases h
  exact AK.done (ex_ [_,_] (an_ (an_ (ex_ _ (ex_ _ (an_ rfl (an_ rfl (Or.inl (an_ (Qo.ag rfl) (an_ (Qo.sz rfl) rfl))))))) (an_ rfl tt_)) (gives tt_)))
 ·obtain⟨e11,he11,h⟩:=Qb h
  refine Qa hC [.br false,.n 3,.keep [1,2,4,8,9,10] [4,8]] rfl ⟨tt_,hc10⟩ ?_
  refine AK.draw2 Qo hC mixed [.a .no (some ([],.agg (Qd n1))) false,.a .no none false,.a .no none false,.a .no none false,.a .no none false,.a (.row (Qi e11)) none false,.a .no (some ([],.agg (Qi e11))) false,.a .no none false,.a .no (some ([],.agg (Qq (QD.mk n1 m2 e11 x9.1)))) false,.m .s,.m .s] [] [] [8,9] [8] rfl rfl rfl ⟨⟨⟨⟨tt_,rfl⟩,(idxM he11)⟩,rfl⟩,rfl⟩ rfl (by kernel_rfl) rfl rfl rfl ?_
  refine Qa hC [.sayO 8 (.var (Qq (QD.mk n1 m2 e11 x9.1))),.n 2,.keep [8,9] [8]] rfl ⟨tt_,rfl⟩ ?_
  cases h
  exact AK.done (ex_ [_,_] (an_ (an_ (ex_ _ (ex_ _ (an_ rfl (an_ rfl (Or.inl (an_ (Qo.ag rfl) (an_ (Qo.sz rfl) rfl))))))) (an_ rfl tt_)) (gives tt_)))
def Qes (e1:Qg)(rec_expr_Depth:Qg→Option Int)(n3:Int)(x4:Int):Option ((Int×Int)⊕Int):=
 bif (decide (x4<(e1.Kids.length:Int)))then
 (idx e1.Kids x4).bind fun e9=>
 (rec_expr_Depth e9).bind fun x10=>
 some (.inl ((max2 n3 x10),(w64 (x4+1))))
 else
 some (.inr n3)
def QiE (n7:Int):Option Int:=
 some (w64 (n7+1))
def Qjh (rec_expr_Depth:Qg→Option Int)(e1:Qg):Option Int:=
 (QC (fun st=>Qes e1 rec_expr_Depth st.1 st.2) (0,0)).bind (fun q=>QiE q)
def Qd0 : Nat→Qg→Option Int
 | 0,_=>none
 | n+1,e1=>Qjh (Qd0 n) e1
def QmM (e1:Qg):Option Int:=Qd0 (SizeOf.sizeOf e1) e1
theorem Qqk (rec_expr_Depth:Qg→Option Int)(hrec_expr_Depth:∀(e1:Qg) {r:Int},rec_expr_Depth e1=some r→Qc Tryz.prog 202 [.agg (Qm e1)] [] (Gives (.i .i64 r) []))(e1:Qg){r:Int}(h:Qjh rec_expr_Depth e1=some r):Qc Tryz.prog 202 [.agg (Qm e1)] [] (Gives (.i .i64 r) []):=by
 refine Qc.walk 20 Tryz.func202 rfl Tryz.ntmps202 rfl fun C hC=>?_
 unfold Qjh at h
 refine Qa hC [.n 16,.o (.ln e1.Kids.length),.n 4,.keep [3,7,8,9] []] rfl ⟨tt_,Qjg _⟩ ?_
 obtain⟨n7,hl11,h⟩:=Qb h
 refine AK.loop (body:=(fun st=>Qes e1 rec_expr_Depth st.1 st.2)) (fun st σ=>σ=⟨[(3,.i .i64 st.1),(7,.sl 3 (Qa4 e1.Kids)),(8,.i .i64 (e1.Kids.length:Int)),(9,.i .i64 st.2)],[]⟩) (fun q e σ=>e=.exit 0∧σ=⟨[(3,.i .i64 q)],[]⟩) hl11 rfl ?_ ?_
 ·rintro ⟨n3,x4⟩ o σ rfl h
  replace h:Qes e1 rec_expr_Depth n3 x4=some o:=h
  unfold Qes at h
  refine Qa hC [.n 6] rfl tt_ ?_
  rcases bifE h with⟨hc8,h⟩|⟨hc8,h⟩
  ·obtain⟨e9,he9,h⟩:=Qb h
   obtain⟨x10,hx10,h⟩:=Qb h
   refine Qa hC [.br true,.n 6,.o (.row (Qm e9)),.v .no [] (.agg (Qm e9)),.n 2,.sayO 5 (.var (Qm e9)),.n 4,.v .no [] (.agg (Qm e9)),.o (.c false [.d] (.i .i64 x10)),.n 9,.keep [3,7,8,9] []] rfl ⟨⟨⟨⟨⟨⟨tt_,hc8⟩,(Qd7 he9)⟩,rfl⟩,rfl⟩,rfl⟩,(hrec_expr_Depth _ hx10)⟩ ?_
   cases h
   exact rndN rfl rfl
  ·refine Qa hC [.br false,.n 2,.keep [3] []] rfl ⟨tt_,hc8⟩ ?_
   cases h
   exact rndX rfl (an_ rfl rfl)
 ·replace h:QiE n7=some r:=h
  unfold QiE at h
  rintro e σ ⟨rfl,rfl⟩
  refine Qa hC [.n 10,.keep [2] []] rfl tt_ ?_
  cases h
  exact AK.done (ex_ [_] (an_ (an_ rfl tt_) (gives tt_)))
theorem Qmi : ∀(fuel:Nat) (e1:Qg) {r:Int},Qd0 fuel e1=some r→Qc Tryz.prog 202 [.agg (Qm e1)] [] (Gives (.i .i64 r) [])
 | 0,_,_,h=>by cases h
 | n+1,e1,_,h=>Qqk (Qd0 n) (fun _ _ h=>Qmi n _ h) e1 h
theorem QrN (e1:Qg){r:Int}(h:QmM e1=some r):Qc Tryz.prog 202 [.agg (Qm e1)] [] (Gives (.i .i64 r) []):=Qmi _ e1 h
def Qfj (e1:Qg)(rec_expr_Size:Qg→Option Int)(n3:Int)(x4:Int):Option ((Int×Int)⊕Int):=
 bif (decide (x4<(e1.Kids.length:Int)))then
 (idx e1.Kids x4).bind fun e9=>
 (rec_expr_Size e9).bind fun x10=>
 some (.inl ((w64 (n3+x10)),(w64 (x4+1))))
 else
 some (.inr n3)
def Qji (n7:Int):Option Int:=
 some n7
def Qj4 (rec_expr_Size:Qg→Option Int)(e1:Qg):Option Int:=
 (QC (fun st=>Qfj e1 rec_expr_Size st.1 st.2) (1,0)).bind (fun q=>Qji q)
def QeH : Nat→Qg→Option Int
 | 0,_=>none
 | n+1,e1=>Qj4 (QeH n) e1
def QnH (e1:Qg):Option Int:=QeH (SizeOf.sizeOf e1) e1
theorem Qq3 (rec_expr_Size:Qg→Option Int)(hrec_expr_Size:∀(e1:Qg) {r:Int},rec_expr_Size e1=some r→Qc Tryz.prog 203 [.agg (Qm e1)] [] (Gives (.i .i64 r) []))(e1:Qg){r:Int}(h:Qj4 rec_expr_Size e1=some r):Qc Tryz.prog 203 [.agg (Qm e1)] [] (Gives (.i .i64 r) []):=by
 refine Qc.walk 19 Tryz.func203 rfl Tryz.ntmps203 rfl fun C hC=>?_
 unfold Qj4 at h
 refine Qa hC [.n 16,.o (.ln e1.Kids.length),.n 4,.keep [3,7,8,9] []] rfl ⟨tt_,Qjg _⟩ ?_
 obtain⟨n7,hl11,h⟩:=Qb h
 refine AK.loop (body:=(fun st=>Qfj e1 rec_expr_Size st.1 st.2)) (fun st σ=>σ=⟨[(3,.i .i64 st.1),(7,.sl 3 (Qa4 e1.Kids)),(8,.i .i64 (e1.Kids.length:Int)),(9,.i .i64 st.2)],[]⟩) (fun q e σ=>e=.exit 0∧σ=⟨[(3,.i .i64 q)],[]⟩) hl11 rfl ?_ ?_
 ·rintro ⟨n3,x4⟩ o σ rfl h
  replace h:Qfj e1 rec_expr_Size n3 x4=some o:=h
  unfold Qfj at h
  refine Qa hC [.n 6] rfl tt_ ?_
  rcases bifE h with⟨hc8,h⟩|⟨hc8,h⟩
  ·obtain⟨e9,he9,h⟩:=Qb h
   obtain⟨x10,hx10,h⟩:=Qb h
   refine Qa hC [.br true,.n 6,.o (.row (Qm e9)),.v .no [] (.agg (Qm e9)),.n 2,.sayO 5 (.var (Qm e9)),.n 4,.v .no [] (.agg (Qm e9)),.o (.c false [.d] (.i .i64 x10)),.n 9,.keep [3,7,8,9] []] rfl ⟨⟨⟨⟨⟨⟨tt_,hc8⟩,(Qd7 he9)⟩,rfl⟩,rfl⟩,rfl⟩,(hrec_expr_Size _ hx10)⟩ ?_
   cases h
   exact rndN rfl rfl
  ·refine Qa hC [.br false,.n 2,.keep [3] []] rfl ⟨tt_,hc8⟩ ?_
   cases h
   exact rndX rfl (an_ rfl rfl)
 ·replace h:Qji n7=some r:=h
  unfold Qji at h
  rintro e σ ⟨rfl,rfl⟩
  refine Qa hC [.n 9,.keep [2] []] rfl tt_ ?_
  cases h
  exact AK.done (ex_ [_] (an_ (an_ rfl tt_) (gives tt_)))
theorem QmN : ∀(fuel:Nat) (e1:Qg) {r:Int},QeH fuel e1=some r→Qc Tryz.prog 203 [.agg (Qm e1)] [] (Gives (.i .i64 r) [])
 | 0,_,_,h=>by cases h
 | n+1,e1,_,h=>Qq3 (QeH n) (fun _ _ h=>QmN n _ h) e1 h
theorem Qst (e1:Qg){r:Int}(h:QnH e1=some r):Qc Tryz.prog 203 [.agg (Qm e1)] [] (Gives (.i .i64 r) []):=QmN _ e1 h
def Qfk (kind1:Int)(x6:Bool):Option Int:=
 bif x6 then
 some 1
 else
 bif (kind1==5)then
 some 2
 else
 bif (kind1==6)then
 some 3
 else
 some (-1)
def Qfl (kind1:Int)(x4:Bool):Option Int:=
 bif x4 then
 some 0
 else
 bif (kind1==3)then
 Qfk kind1 (kind1==3)
 else
 Qfk kind1 (kind1==4)
def QjQ (kind1:Int):Option Int:=
 bif (kind1==1)then
 Qfl kind1 (kind1==1)
 else
 Qfl kind1 (kind1==2)
theorem Qsu (kind1:Int){r:Int}(h:QjQ kind1=some r):Qc Tryz.prog 240 [.i .i64 kind1] [] (Gives (.i .i64 r) []):=by
 refine Qc.walk 14 Tryz.func240 rfl Tryz.ntmps240 rfl fun C hC=>?_
 unfold QjQ at h
 refine Qa hC [.n 12] rfl tt_ ?_
 refine AK.meet (fun σ=>∃x4:Bool,σ=⟨[(3,.i .i64 kind1),(4,.b x4)],[]⟩∧Qfl kind1 x4=some r) ?_ ?_
 ·refine Qa hC [.n 6] rfl tt_ ?_
  rcases bifE h with⟨hc11,h⟩|⟨hc11,h⟩
  ·refine Qa hC [.br true,.n 1,.keep [3,4] []] rfl ⟨tt_,hc11⟩ ?_
   exact AK.met (ex_ _ (an_ rfl h))
  ·refine Qa hC [.br false,.n 4,.keep [3,4] []] rfl ⟨tt_,hc11⟩ ?_
   exact AK.met (ex_ _ (an_ rfl h))
 ·rintro σ ⟨x4,rfl,h⟩
  unfold Qfl at h
  rcases bifE h with⟨hc5,h⟩|⟨hc5,h⟩
  ·refine Qa hC [.br true,.n 8,.keep [2] []] rfl ⟨tt_,hc5⟩ ?_
   cases h
   exact AK.done (ex_ [_] (an_ (an_ rfl tt_) (gives tt_)))
  ·refine Qa hC [.br false] rfl ⟨tt_,hc5⟩ ?_
   refine AK.meet (fun σ=>∃x6:Bool,σ=⟨[(3,.i .i64 kind1),(7,.b x6)],[]⟩∧Qfk kind1 x6=some r) ?_ ?_
   ·refine Qa hC [.n 6] rfl tt_ ?_
    rcases bifE h with⟨hc10,h⟩|⟨hc10,h⟩
    ·refine Qa hC [.br true,.n 1,.keep [3,7] []] rfl ⟨tt_,hc10⟩ ?_
     exact AK.met (ex_ _ (an_ rfl h))
    ·refine Qa hC [.br false,.n 4,.keep [3,7] []] rfl ⟨tt_,hc10⟩ ?_
     exact AK.met (ex_ _ (an_ rfl h))
   ·rintro σ ⟨x6,rfl,h⟩
    unfold Qfk at h
    rcases bifE h with⟨hc7,h⟩|⟨hc7,h⟩
    ·refine Qa hC [.br true,.n 8,.keep [2] []] rfl ⟨tt_,hc7⟩ ?_
     cases h
     exact AK.done (ex_ [_] (an_ (an_ rfl tt_) (gives tt_)))
    ·refine Qa hC [.br false,.n 6] rfl ⟨tt_,hc7⟩ ?_
     rcases bifE h with⟨hc8,h⟩|⟨hc8,h⟩
     ·refine Qa hC [.br true,.n 8,.keep [2] []] rfl ⟨tt_,hc8⟩ ?_
      cases h
      exact AK.done (ex_ [_] (an_ (an_ rfl tt_) (gives tt_)))
     ·refine Qa hC [.br false,.n 6] rfl ⟨tt_,hc8⟩ ?_
      rcases bifE h with⟨hc9,h⟩|⟨hc9,h⟩
      ·refine Qa hC [.br true,.n 8,.keep [2] []] rfl ⟨tt_,hc9⟩ ?_
       cases h
       exact AK.done (ex_ [_] (an_ (an_ rfl tt_) (gives tt_)))
      ·refine Qa hC [.br false,.n 9,.keep [2] []] rfl ⟨tt_,hc9⟩ ?_
       cases h
       exact AK.done (ex_ [_] (an_ (an_ rfl tt_) (gives tt_)))
def QiU (op1:Int):Option Bool:=
 some ((decide (1≤op1))&&(decide (op1≤11)))
theorem QrO (op1:Int){r:Bool}(h:QiU op1=some r):Qc Tryz.prog 241 [.i .i64 op1] [] (Gives (.b r) []):=by
 refine Qc.walk 9 Tryz.func241 rfl Tryz.ntmps241 rfl fun C hC=>?_
 unfold QiU at h
 refine Qa hC [.n 6] rfl tt_ ?_
 refine AK.meetX (fun σ=>σ=⟨[(2,.b ((decide (1≤op1))&&(decide (op1≤11))))],[]⟩) ?_ ?_
 ·refine Qa hC [.n 4] rfl tt_ ?_
  rcases QG (decide (1≤op1))with hc4 | hc4
  ·refine Qa hC [.say 5 (.b true),.n 5,.say 2 (.b ((decide (1≤op1))&&(decide (op1≤11)))),.keep [2] []] rfl ⟨⟨tt_,(congrArg V.b hc4)⟩,(congrArg V.b (andT hc4 rfl))⟩ ?_
   exact AK.met rfl
  ·refine Qa hC [.say 5 (.b false),.n 5,.say 2 (.b ((decide (1≤op1))&&(decide (op1≤11)))),.keep [2] []] rfl ⟨⟨tt_,(congrArg V.b hc4)⟩,(congrArg V.b (andF hc4 rfl))⟩ ?_
   exact AK.met rfl
 ·rintro σ rfl
  refine Qa hC [.n 2,.keep [2] []] rfl tt_ ?_
  cases h
  exact AK.done (ex_ [_] (an_ (an_ rfl tt_) (gives tt_)))
def Qjj (rec_expr_parts:Qg→Int→Option Bool)(k1:Qg)(v2:Int):Option Bool:=
 (rec_expr_parts k1 v2).bind fun x4=>
 some (!x4)
theorem Qql (rec_expr_parts:Qg→Int→Option Bool)(hrec_expr_parts:∀(e1:Qg) (vars2:Int) {r:Bool},rec_expr_parts e1 vars2=some r→Qc Tryz.prog 204 [.agg (Qm e1),.i .i64 vars2] [] (Gives (.b r) []))(k1:Qg)(v2:Int){r:Bool}(h:Qjj rec_expr_parts k1 v2=some r):Qc Tryz.prog 243 [.agg (Qm k1),.loc 200000 0 0] [(200000,.var (Qe v2))] (Gives (.b r) [(200000,.var (Qe v2))]):=by
 refine Qc.walk 8 Tryz.func243 rfl Tryz.ntmps243 rfl fun C hC=>?_
 unfold Qjj at h
 obtain⟨x4,hx4,h⟩:=Qb h
 refine Qa hC [.n 8,.v .no [] (.agg (Qm k1)),.n 1,.o (.c false [.d,.d] (.b x4)),.n 5,.keep [3] [200000]] rfl ⟨⟨tt_,rfl⟩,(hrec_expr_parts _ _ hx4)⟩ ?_
 cases h
 exact AK.done (ex_ [_] (an_ (an_ rfl tt_) (gives ⟨rfl,tt_⟩)))
def QY (s1:(List Qg))(rec_expr_parts:Qg→Int→Option Bool)(v2:Int)(x5:Int):Option (Int⊕(Int⊕Unit)):=
 bif (decide (x5<(s1.length:Int)))then
 (idx s1 x5).bind fun e9=>
 (Qjj rec_expr_parts e9 v2).bind fun x10=>
 bif x10 then
 some (.inr (.inl x5))
 else
 some (.inl (w64 (x5+1)))
 else
 some (.inr (.inr ()))
def QbG (x7:Int):Option Int:=
 some x7
def QbH : Option Int:=
 some (-1)
def Qa6 (rec_expr_parts:Qg→Int→Option Bool)(s1:(List Qg))(v2:Int):Option Int:=
 (QC (fun st=>QY s1 rec_expr_parts v2 st) 0).bind (Sum.elim (fun q=>QbG q) (fun q=>QbH))
theorem Qh8 (rec_expr_parts:Qg→Int→Option Bool)(hrec_expr_parts:∀(e1:Qg) (vars2:Int) {r:Bool},rec_expr_parts e1 vars2=some r→Qc Tryz.prog 204 [.agg (Qm e1),.i .i64 vars2] [] (Gives (.b r) []))(s1:(List Qg))(v2:Int){r:Int}(h:Qa6 rec_expr_parts s1 v2=some r):Qc Tryz.prog 258 [.sl 3 (Qa4 s1),.clo (.func 243) [] [.loc 200000 0 0]] [(200000,.var (Qe v2))] (Gives (.i .i64 r) [(200000,.var (Qe v2))]):=by
 refine Qc.walk 19 Tryz.func258 rfl Tryz.ntmps258 rfl fun C hC=>?_
 unfold Qa6 at h
 refine Qa hC [.n 9,.o (.ln s1.length),.n 4,.keep [0,1,7,8] [200000]] rfl ⟨tt_,Qjg _⟩ ?_
 obtain⟨o12,hl12,h⟩:=Qb h
 refine AK.loop (body:=(fun st=>QY s1 rec_expr_parts v2 st)) (fun st σ=>σ=⟨[(0,.sl 3 (Qa4 s1)),(1,.clo (.func 243) [] [.loc 200000 0 0]),(7,.i .i64 (s1.length:Int)),(8,.i .i64 st)],[(200000,.var (Qe v2))]⟩) (Sum.elim (fun q e σ=>e=.ret∧σ=⟨[(4,.i .i64 q)],[(200000,.var (Qe v2))]⟩) (fun q e σ=>e=.exit 0∧σ=⟨[],[(200000,.var (Qe v2))]⟩)) hl12 rfl ?_ ?_
 ·rintro x5 o σ rfl h
  replace h:QY s1 rec_expr_parts v2 x5=some o:=h
  unfold QY at h
  refine Qa hC [.n 6] rfl tt_ ?_
  rcases bifE h with⟨hc8,h⟩|⟨hc8,h⟩
  ·obtain⟨e9,he9,h⟩:=Qb h
   obtain⟨x10,hx10,h⟩:=Qb h
   refine Qa hC [.br true,.n 15,.o (.row (Qm e9)),.v .no [] (.agg (Qm e9)),.cm (.clo) [(200000,200000)] [(200000,200000)] [] [.d,.d] [(200000,.var (Qe v2))] (.b x10),.n 2] rfl ⟨⟨⟨⟨tt_,hc8⟩,(Qd7 he9)⟩,rfl⟩,(Qql rec_expr_parts hrec_expr_parts _ _ hx10)⟩ ?_
   rcases bifE h with⟨hc11,h⟩|⟨hc11,h⟩
   ·refine Qa hC [.br true,.n 9,.keep [4] [200000]] rfl ⟨tt_,hc11⟩ ?_
    cases h
    exact rndR rfl (an_ rfl rfl)
   ·refine Qa hC [.br false,.n 7,.keep [0,1,7,8] [200000]] rfl ⟨tt_,hc11⟩ ?_
    cases h
    exact rndN rfl rfl
  ·refine Qa hC [.br false,.n 2,.keep [] [200000]] rfl ⟨tt_,hc8⟩ ?_
   cases h
   exact rndX rfl (an_ rfl rfl)
 ·rcases o12 with(x7 | _)
  ·replace h:QbG x7=some r:=h
   unfold QbG at h
   rintro e σ ⟨rfl,rfl⟩
   refine Qa hC [.n 2,.keep [4] [200000]] rfl tt_ ?_
   cases h
   exact AK.done (ex_ [_] (an_ (an_ rfl tt_) (gives ⟨rfl,tt_⟩)))
  ·replace h:QbH=some r:=h
   unfold QbH at h
   rintro e σ ⟨rfl,rfl⟩
   refine Qa hC [.n 8,.keep [4] [200000]] rfl tt_ ?_
   cases h
   exact AK.done (ex_ [_] (an_ (an_ rfl tt_) (gives ⟨rfl,tt_⟩)))
def Qaf (rec_expr_parts:Qg→Int→Option Bool)(s1:(List Qg))(v2:Int):Option Bool:=
 (Qa6 rec_expr_parts s1 v2).bind fun x4=>
 some (decide (0≤x4))
theorem Qhh (rec_expr_parts:Qg→Int→Option Bool)(hrec_expr_parts:∀(e1:Qg) (vars2:Int) {r:Bool},rec_expr_parts e1 vars2=some r→Qc Tryz.prog 204 [.agg (Qm e1),.i .i64 vars2] [] (Gives (.b r) []))(s1:(List Qg))(v2:Int){r:Bool}(h:Qaf rec_expr_parts s1 v2=some r):Qc Tryz.prog 242 [.sl 3 (Qa4 s1),.clo (.func 243) [] [.loc 200000 0 0]] [(200000,.var (Qe v2))] (Gives (.b r) [(200000,.var (Qe v2))]):=by
 refine Qc.walk 9 Tryz.func242 rfl Tryz.ntmps242 rfl fun C hC=>?_
 unfold Qaf at h
 obtain⟨x4,hx4,h⟩:=Qb h
 refine Qa hC [.n 9,.cm (.fn) [(200000,200000)] [(200000,200000)] [] [.d,.d] [(200000,.var (Qe v2))] (.i .i64 x4),.n 5,.keep [4] [200000]] rfl ⟨tt_,(Qh8 rec_expr_parts hrec_expr_parts _ _ hx4)⟩ ?_
 cases h
 exact AK.done (ex_ [_] (an_ (an_ rfl tt_) (gives ⟨rfl,tt_⟩)))
def QkS (e1:Qg):Option Bool:=
 bif (e1.Kind==5)then
 (QiU e1.Num).bind fun x14=>
 some (!x14)
 else
 some false
def Qgo (rec_expr_parts:Qg→Int→Option Bool)(e1:Qg)(vars2:Int)(x11:Bool):Option Bool:=
 bif x11 then
 some false
 else
 (Qaf rec_expr_parts e1.Kids vars2).bind fun x16=>
 some (!x16)
def Qjk (rec_expr_parts:Qg→Int→Option Bool)(e1:Qg)(vars2:Int):Option Bool:=
 (QjQ e1.Kind).bind fun x5=>
 bif ((e1.Kids.length:Int) != x5)then
 some false
 else
 bif ((e1.Kind==2)&&((decide (e1.Num<0))||(decide (vars2≤e1.Num))))then
 some false
 else
 (QkS e1).bind (fun x11=>Qgo rec_expr_parts e1 vars2 x11)
def Qd1 : Nat→Qg→Int→Option Bool
 | 0,_,_=>none
 | n+1,e1,vars2=>Qjk (Qd1 n) e1 vars2
def QmO (e1:Qg)(vars2:Int):Option Bool:=Qd1 (SizeOf.sizeOf e1) e1 vars2
theorem Qqm (rec_expr_parts:Qg→Int→Option Bool)(hrec_expr_parts:∀(e1:Qg) (vars2:Int) {r:Bool},rec_expr_parts e1 vars2=some r→Qc Tryz.prog 204 [.agg (Qm e1),.i .i64 vars2] [] (Gives (.b r) []))(e1:Qg)(vars2:Int){r:Bool}(h:Qjk rec_expr_parts e1 vars2=some r):Qc Tryz.prog 204 [.agg (Qm e1),.i .i64 vars2] [] (Gives (.b r) []):=by
 refine Qc.walk 43 Tryz.func204 rfl Tryz.ntmps204 rfl fun C hC=>?_
 unfold Qjk at h
 obtain⟨x5,hx5,h⟩:=Qb h
 refine Qa hC [.n 10,.keep [2,3] [2,3]] rfl tt_ ?_
 refine AK.draw2 Qo hC mixed [.a .no none false,.a .no none false,.a (.ln e1.Kids.length) none false,.a .no none false,.a .no none false,.a (.c false [.d] (.i .i64 x5)) none false,.a .no none false,.a .no none false] [] [] [2,3,5] [2,3] rfl rfl rfl ⟨⟨tt_,Qjg _⟩,(Qsu _ hx5)⟩ rfl (by kernel_rfl) rfl rfl rfl ?_
 refine Qa hC [.n 1] rfl tt_ ?_
 rcases bifE h with⟨hc6,h⟩|⟨hc6,h⟩
 ·refine Qa hC [.br true,.n 8,.keep [4] []] rfl ⟨tt_,hc6⟩ ?_
  cases h
  exact AK.done (ex_ [_] (an_ (an_ rfl tt_) (gives tt_)))
 ·refine Qa hC [.br false,.n 1] rfl ⟨tt_,hc6⟩ ?_
  refine AK.meetX (fun σ=>σ=⟨[(2,.loc 2 0 0),(3,.loc 3 0 0),(13,.b ((e1.Kind==2)&&((decide (e1.Num<0))||(decide (vars2≤e1.Num)))))],[(2,.var (Qm e1)),(3,.var (Qe vars2))]⟩) ?_ ?_
  ·refine Qa hC [.n 5] rfl tt_ ?_
   rcases QG (e1.Kind==2)with hc8 | hc8
   ·refine Qa hC [.say 17 (.b true),.n 4] rfl ⟨tt_,(congrArg V.b hc8)⟩ ?_
    rcases QG (decide (e1.Num<0))with hc9 | hc9
    ·refine Qa hC [.say 21 (.b true),.n 8,.say 13 (.b ((e1.Kind==2)&&((decide (e1.Num<0))||(decide (vars2≤e1.Num))))),.keep [2,3,13] [2,3]] rfl ⟨⟨tt_,(congrArg V.b hc9)⟩,(congrArg V.b (andT hc8 (orT hc9 rfl)))⟩ ?_
     exact AK.met rfl
    ·refine Qa hC [.say 21 (.b false),.n 8,.say 13 (.b ((e1.Kind==2)&&((decide (e1.Num<0))||(decide (vars2≤e1.Num))))),.keep [2,3,13] [2,3]] rfl ⟨⟨tt_,(congrArg V.b hc9)⟩,(congrArg V.b (andT hc8 (orF hc9 rfl)))⟩ ?_
     exact AK.met rfl
   ·refine Qa hC [.say 17 (.b false),.n 12,.say 13 (.b ((e1.Kind==2)&&((decide (e1.Num<0))||(decide (vars2≤e1.Num))))),.keep [2,3,13] [2,3]] rfl ⟨⟨tt_,(congrArg V.b hc8)⟩,(congrArg V.b (andF hc8 rfl))⟩ ?_
    exact AK.met rfl
  ·rintro σ rfl
   refine Qa hC [.n 1] rfl tt_ ?_
   rcases bifE h with⟨hc10,h⟩|⟨hc10,h⟩
   ·refine Qa hC [.br true,.n 8,.keep [4] []] rfl ⟨tt_,hc10⟩ ?_
    cases h
    exact AK.done (ex_ [_] (an_ (an_ rfl tt_) (gives tt_)))
   ·refine Qa hC [.br false,.n 1] rfl ⟨tt_,hc10⟩ ?_
    obtain⟨x11,hv12,h⟩:=Qb h
    replace h:Qgo rec_expr_parts e1 vars2 x11=some r:=h
    refine AK.meetX (fun σ=>σ=⟨[(2,.loc 2 0 0),(3,.loc 3 0 0),(28,.b x11)],[(2,.var (Qm e1)),(3,.var (Qe vars2))]⟩) ?_ ?_
    ·replace h:=hv12
     unfold QkS at h
     refine Qa hC [.n 5] rfl tt_ ?_
     rcases bifE h with⟨hc13,h⟩|⟨hc13,h⟩
     ·obtain⟨x14,hx14,h⟩:=Qb h
      refine Qa hC [.say 32 (.b true),.n 2,.o (.c false [.d] (.b x14)),.n 4,.keep [2,3,28] [2,3]] rfl ⟨⟨tt_,(congrArg V.b hc13)⟩,(QrO _ hx14)⟩ ?_
      cases h
      exact AK.met rfl
     ·refine Qa hC [.say 32 (.b false),.n 7,.keep [2,3,28] [2,3]] rfl ⟨tt_,(congrArg V.b hc13)⟩ ?_
      cases h
      exact AK.met rfl
    ·rintro σ rfl
     replace h:Qgo rec_expr_parts e1 vars2 x11=some r:=h
     unfold Qgo at h
     refine Qa hC [.n 1] rfl tt_ ?_
     rcases bifE h with⟨hc15,h⟩|⟨hc15,h⟩
     ·refine Qa hC [.br true,.n 8,.keep [4] []] rfl ⟨tt_,hc15⟩ ?_
      cases h
      exact AK.done (ex_ [_] (an_ (an_ rfl tt_) (gives tt_)))
     ·obtain⟨x16,hx16,h⟩:=Qb h
      refine Qa hC [.br false,.n 8,.cm (.fn) [(200000,3)] [(3,200000)] [] [.d,.d] [(200000,.var (Qe vars2))] (.b x16),.n 5,.keep [4] []] rfl ⟨⟨tt_,hc15⟩,(Qhh rec_expr_parts hrec_expr_parts _ _ hx16)⟩ ?_
      cases h
      exact AK.done (ex_ [_] (an_ (an_ rfl tt_) (gives tt_)))
theorem Qmj : ∀(fuel:Nat) (e1:Qg) (vars2:Int) {r:Bool},Qd1 fuel e1 vars2=some r→Qc Tryz.prog 204 [.agg (Qm e1),.i .i64 vars2] [] (Gives (.b r) [])
 | 0,_,_,_,h=>by cases h
 | n+1,e1,vars2,_,h=>Qqm (Qd1 n) (fun _ _ _ h=>Qmj n _ _ h) e1 vars2 h
theorem QrP (e1:Qg)(vars2:Int){r:Bool}(h:QmO e1 vars2=some r):Qc Tryz.prog 204 [.agg (Qm e1),.i .i64 vars2] [] (Gives (.b r) []):=Qmj _ e1 vars2 h
def QkT (e1:Qg)(vars2:Int):Option Bool:=
 (QmM e1).bind fun x6=>
 bif (decide (x6≤40))then
 (QnH e1).bind fun x8=>
 bif (decide (x8≤400))then
 (QmO e1 vars2).bind fun x10=>
 some x10
 else
 some false
 else
 some false
def QiF (x4:Bool):Option Bool:=
 some x4
def QfE (e1:Qg)(vars2:Int):Option Bool:=
 (QkT e1 vars2).bind (fun x4=>QiF x4)
theorem QkU (e1:Qg)(vars2:Int){r:Bool}(h:QfE e1 vars2=some r):Qc Tryz.prog 139 [.agg (Qm e1),.i .i64 vars2] [] (Gives (.b r) []):=by
 refine Qc.walk 18 Tryz.func139 rfl Tryz.ntmps139 rfl fun C hC=>?_
 unfold QfE at h
 refine Qa hC [.n 7] rfl tt_ ?_
 obtain⟨x4,hv5,h⟩:=Qb h
 replace h:QiF x4=some r:=h
 refine AK.meetX (fun σ=>σ=⟨[(4,.b x4)],[]⟩) ?_ ?_
 ·replace h:=hv5
  unfold QkT at h
  obtain⟨x6,hx6,h⟩:=Qb h
  refine Qa hC [.n 1,.v .no [] (.agg (Qm e1)),.o (.c false [.d] (.i .i64 x6)),.n 2] rfl ⟨⟨tt_,rfl⟩,(QrN _ hx6)⟩ ?_
  rcases bifE h with⟨hc7,h⟩|⟨hc7,h⟩
  ·obtain⟨x8,hx8,h⟩:=Qb h
   refine Qa hC [.say 8 (.b true),.v .no [] (.agg (Qm e1)),.o (.c false [.d] (.i .i64 x8)),.n 3] rfl ⟨⟨⟨tt_,(congrArg V.b hc7)⟩,rfl⟩,(Qst _ hx8)⟩ ?_
   rcases bifE h with⟨hc9,h⟩|⟨hc9,h⟩
   ·obtain⟨x10,hx10,h⟩:=Qb h
    refine Qa hC [.say 13 (.b true),.v .no [] (.agg (Qm e1)),.n 1,.o (.c false [.d,.d] (.b x10)),.n 3,.keep [4] []] rfl ⟨⟨⟨tt_,(congrArg V.b hc9)⟩,rfl⟩,(QrP _ _ hx10)⟩ ?_
    cases h
    exact AK.met rfl
   ·refine Qa hC [.say 13 (.b false),.n 6,.keep [4] []] rfl ⟨tt_,(congrArg V.b hc9)⟩ ?_
    cases h
    exact AK.met rfl
  ·refine Qa hC [.say 8 (.b false),.n 11,.keep [4] []] rfl ⟨tt_,(congrArg V.b hc7)⟩ ?_
   cases h
   exact AK.met rfl
 ·rintro σ rfl
  replace h:QiF x4=some r:=h
  unfold QiF at h
  refine Qa hC [.n 2,.keep [4] []] rfl tt_ ?_
  cases h
  exact AK.done (ex_ [_] (an_ (an_ rfl tt_) (gives tt_)))
def Qby (v1:(List Int))(kind2:Int)(x10:Bool):Option ((List Int)⊕((List Int)⊕((List Int)⊕((List Int)⊕(List Int))))):=
 bif x10 then
 some (.inr (.inr (.inl v1)))
 else
 bif (kind2==5)then
 some (.inr (.inr (.inr (.inl v1))))
 else
 some (.inr (.inr (.inr (.inr v1))))
def QbU (v1:(List Int))(kind2:Int):Option ((List Int)⊕((List Int)⊕((List Int)⊕((List Int)⊕(List Int))))):=
 bif (kind2==1)then
 some (.inl v1)
 else
 bif (kind2==2)then
 some (.inr (.inl v1))
 else
 bif (kind2==3)then
 Qby v1 kind2 (kind2==3)
 else
 Qby v1 kind2 (kind2==4)
theorem Qeh (v1:(List Int))(kind2:Int){r:((List Int)⊕((List Int)⊕((List Int)⊕((List Int)⊕(List Int)))))}(h:QbU v1 kind2=some r):Qc Tryz.prog 205 [.sl 1 (v1.map Qe),.i .i64 kind2] [] ((Sum.elim (fun q=>(Gives (.clo (.func 244) [.sl 1 (q.map Qe)] []) [])) (Sum.elim (fun q=>(Gives (.clo (.func 245) [.sl 1 (q.map Qe)] []) [])) (Sum.elim (fun q=>(Gives (.clo (.func 246) [.sl 1 (q.map Qe)] []) [])) (Sum.elim (fun q=>(Gives (.clo (.func 247) [.sl 1 (q.map Qe)] []) [])) (fun q=>(Gives (.clo (.func 248) [.sl 1 (q.map Qe)] []) [])))))) r):=by
 refine Qc.walk 25 Tryz.func205 rfl Tryz.ntmps205 rfl fun C hC=>?_
 unfold QbU at h
 refine Qa hC [.n 18] rfl tt_ ?_
 rcases bifE h with⟨hc8,h⟩|⟨hc8,h⟩
 ·refine Qa hC [.br true,.n 10,.keep [4] []] rfl ⟨tt_,hc8⟩ ?_
  cases h
  exact AK.done (ex_ [_] (an_ (an_ rfl tt_) (gives tt_)))
 ·refine Qa hC [.br false,.n 6] rfl ⟨tt_,hc8⟩ ?_
  rcases bifE h with⟨hc9,h⟩|⟨hc9,h⟩
  ·refine Qa hC [.br true,.n 10,.keep [4] []] rfl ⟨tt_,hc9⟩ ?_
   cases h
   exact AK.done (ex_ [_] (an_ (an_ rfl tt_) (gives tt_)))
  ·refine Qa hC [.br false] rfl ⟨tt_,hc9⟩ ?_
   refine AK.meet (fun σ=>∃x10:Bool,σ=⟨[(0,.sl 1 (v1.map Qe)),(5,.i .i64 kind2),(14,.b x10)],[]⟩∧Qby v1 kind2 x10=some r) ?_ ?_
   ·refine Qa hC [.n 6] rfl tt_ ?_
    rcases bifE h with⟨hc13,h⟩|⟨hc13,h⟩
    ·refine Qa hC [.br true,.n 1,.keep [0,5,14] []] rfl ⟨tt_,hc13⟩ ?_
     exact AK.met (ex_ _ (an_ rfl h))
    ·refine Qa hC [.br false,.n 4,.keep [0,5,14] []] rfl ⟨tt_,hc13⟩ ?_
     exact AK.met (ex_ _ (an_ rfl h))
   ·rintro σ ⟨x10,rfl,h⟩
    unfold Qby at h
    rcases bifE h with⟨hc11,h⟩|⟨hc11,h⟩
    ·refine Qa hC [.br true,.n 10,.keep [4] []] rfl ⟨tt_,hc11⟩ ?_
     cases h
     exact AK.done (ex_ [_] (an_ (an_ rfl tt_) (gives tt_)))
    ·refine Qa hC [.br false,.n 6] rfl ⟨tt_,hc11⟩ ?_
     rcases bifE h with⟨hc12,h⟩|⟨hc12,h⟩
     ·refine Qa hC [.br true,.n 10,.keep [4] []] rfl ⟨tt_,hc12⟩ ?_
      cases h
      exact AK.done (ex_ [_] (an_ (an_ rfl tt_) (gives tt_)))
     ·refine Qa hC [.br false,.n 11,.keep [4] []] rfl ⟨tt_,hc12⟩ ?_
      cases h
      exact AK.done (ex_ [_] (an_ (an_ rfl tt_) (gives tt_)))
def QjD (v1:(List Int))(e2:Qg):Option (Int×Int):=
 some (e2.Num,0)
theorem QoE (v1:(List Int))(e2:Qg){r:(Int×Int)}(h:QjD v1 e2=some r):Qc Tryz.prog 244 [.sl 1 (v1.map Qe),.agg (Qm e2)] [] (Gives (.tup [.i .i64 r.1,.i .i64 r.2]) []):=by
 refine Qc.walk 8 Tryz.func244 rfl Tryz.ntmps244 rfl fun C hC=>?_
 unfold QjD at h
 refine Qa hC [.n 16,.keep [4,5] []] rfl tt_ ?_
 cases h
 exact AK.done (ex_ [_,_] (an_ (an_ rfl (an_ rfl tt_)) (gives tt_)))
def Qf6 (v1:(List Int))(e2:Qg):Option (Int×Int):=
 (idx v1 e2.Num).bind fun e5=>
 some (e5,0)
theorem QnI (v1:(List Int))(e2:Qg){r:(Int×Int)}(h:Qf6 v1 e2=some r):Qc Tryz.prog 245 [.sl 1 (v1.map Qe),.agg (Qm e2)] [] (Gives (.tup [.i .i64 r.1,.i .i64 r.2]) []):=by
 refine Qc.walk 11 Tryz.func245 rfl Tryz.ntmps245 rfl fun C hC=>?_
 unfold Qf6 at h
 obtain⟨e5,he5,h⟩:=Qb h
 refine Qa hC [.n 12,.o (.row (Qe e5)),.n 6,.keep [4,5] []] rfl ⟨tt_,(idxM he5)⟩ ?_
 cases h
 exact AK.done (ex_ [_,_] (an_ (an_ rfl (an_ rfl tt_)) (gives tt_)))
def QkV (a1:Int)(b2:Int):Option (Int×Int):=
 bif (((decide (a1<0))==(decide (b2<0)))&&((decide ((w64 (a1+b2))<0)) != (decide (a1<0))))then
 some (0,6)
 else
 some ((w64 (a1+b2)),0)
theorem Qs7 (a1:Int)(b2:Int){r:(Int×Int)}(h:QkV a1 b2=some r):Qc Tryz.prog 266 [.i .i64 a1,.i .i64 b2] [] (Gives (.tup [.i .i64 r.1,.i .i64 r.2]) []):=by
 refine Qc.walk 23 Tryz.func266 rfl Tryz.ntmps266 rfl fun C hC=>?_
 unfold QkV at h
 refine Qa hC [.n 16] rfl tt_ ?_
 refine AK.meetX (fun σ=>σ=⟨[(6,.i .i64 (w64 (a1+b2))),(21,.b (((decide (a1<0))==(decide (b2<0)))&&((decide ((w64 (a1+b2))<0)) != (decide (a1<0)))))],[]⟩) ?_ ?_
 ·refine Qa hC [.n 7] rfl tt_ ?_
  rcases QG ((decide (a1<0))==(decide (b2<0)))with hc8 | hc8
  ·refine Qa hC [.say 15 (.b true),.n 7,.say 21 (.b (((decide (a1<0))==(decide (b2<0)))&&((decide ((w64 (a1+b2))<0)) != (decide (a1<0))))),.keep [6,21] []] rfl ⟨⟨tt_,(congrArg V.b hc8)⟩,(congrArg V.b (andT hc8 rfl))⟩ ?_
   exact AK.met rfl
  ·refine Qa hC [.say 15 (.b false),.n 7,.say 21 (.b (((decide (a1<0))==(decide (b2<0)))&&((decide ((w64 (a1+b2))<0)) != (decide (a1<0))))),.keep [6,21] []] rfl ⟨⟨tt_,(congrArg V.b hc8)⟩,(congrArg V.b (andF hc8 rfl))⟩ ?_
   exact AK.met rfl
 ·rintro σ rfl
  refine Qa hC [.n 1] rfl tt_ ?_
  rcases bifE h with⟨hc9,h⟩|⟨hc9,h⟩
  ·refine Qa hC [.br true,.n 8,.keep [4,5] []] rfl ⟨tt_,hc9⟩ ?_
   cases h
   exact AK.done (ex_ [_,_] (an_ (an_ rfl (an_ rfl tt_)) (gives tt_)))
  ·refine Qa hC [.br false,.n 10,.keep [4,5] []] rfl ⟨tt_,hc9⟩ ?_
   cases h
   exact AK.done (ex_ [_,_] (an_ (an_ rfl (an_ rfl tt_)) (gives tt_)))
def QeP (a1:Int)(b2:Int):Option (Int×Int):=
 bif (((decide (a1<0)) != (decide (b2<0)))&&((decide ((w64 (a1-b2))<0)) != (decide (a1<0))))then
 some (0,6)
 else
 some ((w64 (a1-b2)),0)
theorem QoF (a1:Int)(b2:Int){r:(Int×Int)}(h:QeP a1 b2=some r):Qc Tryz.prog 267 [.i .i64 a1,.i .i64 b2] [] (Gives (.tup [.i .i64 r.1,.i .i64 r.2]) []):=by
 refine Qc.walk 23 Tryz.func267 rfl Tryz.ntmps267 rfl fun C hC=>?_
 unfold QeP at h
 refine Qa hC [.n 16] rfl tt_ ?_
 refine AK.meetX (fun σ=>σ=⟨[(6,.i .i64 (w64 (a1-b2))),(21,.b (((decide (a1<0)) != (decide (b2<0)))&&((decide ((w64 (a1-b2))<0)) != (decide (a1<0)))))],[]⟩) ?_ ?_
 ·refine Qa hC [.n 7] rfl tt_ ?_
  rcases QG ((decide (a1<0)) != (decide (b2<0)))with hc8 | hc8
  ·refine Qa hC [.say 15 (.b true),.n 7,.say 21 (.b (((decide (a1<0)) != (decide (b2<0)))&&((decide ((w64 (a1-b2))<0)) != (decide (a1<0))))),.keep [6,21] []] rfl ⟨⟨tt_,(congrArg V.b hc8)⟩,(congrArg V.b (andT hc8 rfl))⟩ ?_
   exact AK.met rfl
  ·refine Qa hC [.say 15 (.b false),.n 7,.say 21 (.b (((decide (a1<0)) != (decide (b2<0)))&&((decide ((w64 (a1-b2))<0)) != (decide (a1<0))))),.keep [6,21] []] rfl ⟨⟨tt_,(congrArg V.b hc8)⟩,(congrArg V.b (andF hc8 rfl))⟩ ?_
   exact AK.met rfl
 ·rintro σ rfl
  refine Qa hC [.n 1] rfl tt_ ?_
  rcases bifE h with⟨hc9,h⟩|⟨hc9,h⟩
  ·refine Qa hC [.br true,.n 8,.keep [4,5] []] rfl ⟨tt_,hc9⟩ ?_
   cases h
   exact AK.done (ex_ [_,_] (an_ (an_ rfl (an_ rfl tt_)) (gives tt_)))
  ·refine Qa hC [.br false,.n 10,.keep [4,5] []] rfl ⟨tt_,hc9⟩ ?_
   cases h
   exact AK.done (ex_ [_,_] (an_ (an_ rfl (an_ rfl tt_)) (gives tt_)))
def Qio (a1:Int):Option Int:=
 bif (decide (a1<0))then
 some (IntKind.u64.wrap (0-(IntKind.u64.wrap a1)))
 else
 some (IntKind.u64.wrap a1)
theorem Qn0 (a1:Int){r:Int}(h:Qio a1=some r):Qc Tryz.prog 274 [.i .i64 a1] [] (Gives (.i .u64 r) []):=by
 refine Qc.walk 10 Tryz.func274 rfl Tryz.ntmps274 rfl fun C hC=>?_
 unfold Qio at h
 refine Qa hC [.n 12] rfl tt_ ?_
 rcases bifE h with⟨hc4,h⟩|⟨hc4,h⟩
 ·refine Qa hC [.br true,.n 3,.o (.any (.i .u64 (IntKind.u64.wrap a1)) none),.n 6,.keep [2] []] rfl ⟨⟨tt_,hc4⟩,(fun σ h1 h2 _=>Stp.convI rfl rfl (bleN hC.n rfl) (h1 _ _ rfl) it_3 QpA)⟩ ?_
  cases h
  exact AK.done (ex_ [_] (an_ (an_ rfl tt_) (gives tt_)))
 ·refine Qa hC [.br false,.n 5,.o (.any (.i .u64 (IntKind.u64.wrap a1)) none),.n 4,.keep [2] []] rfl ⟨⟨tt_,hc4⟩,(fun σ h1 h2 _=>Stp.convI rfl rfl (bleN hC.n rfl) (h1 _ _ rfl) it_3 QpA)⟩ ?_
  cases h
  exact AK.done (ex_ [_] (an_ (an_ rfl tt_) (gives tt_)))
def QeQ (p1:Int)(y2:Int):Option (Int×Int):=
 some ((IntKind.u64.wrap ((IntKind.u64.wrap ((IntKind.u64.wrap ((shrI .u64 p1 32)*(shrI .u64 y2 32)))+(shrI .u64 (IntKind.u64.wrap ((IntKind.u64.wrap ((shrI .u64 p1 32)*(andI .u64 y2 4294967295)))+(shrI .u64 (IntKind.u64.wrap ((andI .u64 p1 4294967295)*(andI .u64 y2 4294967295))) 32))) 32)))+(shrI .u64 (IntKind.u64.wrap ((andI .u64 (IntKind.u64.wrap ((IntKind.u64.wrap ((shrI .u64 p1 32)*(andI .u64 y2 4294967295)))+(shrI .u64 (IntKind.u64.wrap ((andI .u64 p1 4294967295)*(andI .u64 y2 4294967295))) 32))) 4294967295)+(IntKind.u64.wrap ((andI .u64 p1 4294967295)*(shrI .u64 y2 32))))) 32))),(IntKind.u64.wrap (p1*y2)))
theorem QoG (p1:Int)(y2:Int){r:(Int×Int)}(h:QeQ p1 y2=some r):Qc Tryz.prog 273 [.i .u64 p1,.i .u64 y2] [] (Gives (.tup [.i .u64 r.1,.i .u64 r.2]) []):=by
 refine Qc.walk 51 Tryz.func273 rfl Tryz.ntmps273 rfl fun C hC=>?_
 unfold QeQ at h
 refine Qa hC [.n 9,.o (.any (.i .u64 (andI .u64 p1 4294967295)) none),.n 6,.o (.any (.i .u64 (shrI .u64 p1 32)) none),.n 6,.o (.any (.i .u64 (andI .u64 y2 4294967295)) none),.n 6,.o (.any (.i .u64 (shrI .u64 y2 32)) none),.n 17,.o (.any (.i .u64 (shrI .u64 (IntKind.u64.wrap ((andI .u64 p1 4294967295)*(andI .u64 y2 4294967295))) 32)) none),.n 7,.o (.any (.i .u64 (andI .u64 (IntKind.u64.wrap ((IntKind.u64.wrap ((shrI .u64 p1 32)*(andI .u64 y2 4294967295)))+(shrI .u64 (IntKind.u64.wrap ((andI .u64 p1 4294967295)*(andI .u64 y2 4294967295))) 32))) 4294967295)) none),.n 6,.o (.any (.i .u64 (shrI .u64 (IntKind.u64.wrap ((IntKind.u64.wrap ((shrI .u64 p1 32)*(andI .u64 y2 4294967295)))+(shrI .u64 (IntKind.u64.wrap ((andI .u64 p1 4294967295)*(andI .u64 y2 4294967295))) 32))) 32)) none),.n 21,.o (.any (.i .u64 (shrI .u64 (IntKind.u64.wrap ((andI .u64 (IntKind.u64.wrap ((IntKind.u64.wrap ((shrI .u64 p1 32)*(andI .u64 y2 4294967295)))+(shrI .u64 (IntKind.u64.wrap ((andI .u64 p1 4294967295)*(andI .u64 y2 4294967295))) 32))) 4294967295)+(IntKind.u64.wrap ((andI .u64 p1 4294967295)*(shrI .u64 y2 32))))) 32)) none),.n 13,.keep [4,5] []] rfl ⟨⟨⟨⟨⟨⟨⟨⟨tt_,(fun σ h1 h2 _=>Stp.andB rfl rfl (bleN hC.n rfl) (h1 _ _ rfl) (h1 _ _ rfl))⟩,(fun σ h1 h2 _=>Stp.shr rfl rfl (bleN hC.n rfl) (h1 _ _ rfl) (h1 _ _ rfl) (by decide))⟩,(fun σ h1 h2 _=>Stp.andB rfl rfl (bleN hC.n rfl) (h1 _ _ rfl) (h1 _ _ rfl))⟩,(fun σ h1 h2 _=>Stp.shr rfl rfl (bleN hC.n rfl) (h1 _ _ rfl) (h1 _ _ rfl) (by decide))⟩,(fun σ h1 h2 _=>Stp.shr rfl rfl (bleN hC.n rfl) (h1 _ _ rfl) (h1 _ _ rfl) (by decide))⟩,(fun σ h1 h2 _=>Stp.andB rfl rfl (bleN hC.n rfl) (h1 _ _ rfl) (h1 _ _ rfl))⟩,(fun σ h1 h2 _=>Stp.shr rfl rfl (bleN hC.n rfl) (h1 _ _ rfl) (h1 _ _ rfl) (by decide))⟩,(fun σ h1 h2 _=>Stp.shr rfl rfl (bleN hC.n rfl) (h1 _ _ rfl) (h1 _ _ rfl) (by decide))⟩ ?_
 cases h
 exact AK.done (ex_ [_,_] (an_ (an_ rfl (an_ rfl tt_)) (gives tt_)))
def QdE (x9:(Int×Int))(a1:Int)(b2:Int)(most10:Int):Option (Int×Int):=
 bif ((decide (0<x9.1))||(decide (most10<x9.2)))then
 some (0,6)
 else
 some ((w64 (a1*b2)),0)
def Qhi (a1:Int)(b2:Int):Option (Int×Int):=
 (Qio a1).bind fun x7=>
 (Qio b2).bind fun x8=>
 (QeQ x7 x8).bind fun x9=>
 bif ((decide (a1<0)) != (decide (b2<0)))then
 QdE x9 a1 b2 (IntKind.u64.wrap (9223372036854775807+1))
 else
 QdE x9 a1 b2 9223372036854775807
theorem Qqn (a1:Int)(b2:Int){r:(Int×Int)}(h:Qhi a1 b2=some r):Qc Tryz.prog 268 [.i .i64 a1,.i .i64 b2] [] (Gives (.tup [.i .i64 r.1,.i .i64 r.2]) []):=by
 refine Qc.walk 34 Tryz.func268 rfl Tryz.ntmps268 rfl fun C hC=>?_
 unfold Qhi at h
 obtain⟨x7,hx7,h⟩:=Qb h
 obtain⟨x8,hx8,h⟩:=Qb h
 obtain⟨x9,hx9,h⟩:=Qb h
 refine Qa hC [.n 9,.o (.c false [.d] (.i .u64 x7)),.n 1,.o (.c false [.d] (.i .u64 x8)),.o (.c false [.d,.d] (.tup [.i .u64 x9.1,.i .u64 x9.2])),.n 12] rfl ⟨⟨⟨tt_,(Qn0 _ hx7)⟩,(Qn0 _ hx8)⟩,(QoG _ _ hx9)⟩ ?_
 refine AK.meet (fun σ=>∃most10:Int,σ=⟨[(0,.i .i64 a1),(1,.i .i64 b2),(6,.i .u64 x9.1),(7,.i .u64 x9.2),(8,.i .u64 most10)],[]⟩∧QdE x9 a1 b2 most10=some r) ?_ ?_
 ·refine Qa hC [.n 9] rfl tt_ ?_
  rcases bifE h with⟨hc14,h⟩|⟨hc14,h⟩
  ·refine Qa hC [.br true,.n 5,.keep [0,1,6,7,8] []] rfl ⟨tt_,hc14⟩ ?_
   exact AK.met (ex_ _ (an_ rfl h))
  ·refine Qa hC [.br false,.n 1,.keep [0,1,6,7,8] []] rfl ⟨tt_,hc14⟩ ?_
   exact AK.met (ex_ _ (an_ rfl h))
 ·rintro σ ⟨most10,rfl,h⟩
  unfold QdE at h
  refine Qa hC [.n 2] rfl tt_ ?_
  refine AK.meetX (fun σ=>σ=⟨[(0,.i .i64 a1),(1,.i .i64 b2),(30,.b ((decide (0<x9.1))||(decide (most10<x9.2))))],[]⟩) ?_ ?_
  ·refine Qa hC [.n 4] rfl tt_ ?_
   rcases QG (decide (0<x9.1))with hc12 | hc12
   ·refine Qa hC [.say 26 (.b true),.n 5,.say 30 (.b ((decide (0<x9.1))||(decide (most10<x9.2)))),.keep [0,1,30] []] rfl ⟨⟨tt_,(congrArg V.b hc12)⟩,(congrArg V.b (orT hc12 rfl))⟩ ?_
    exact AK.met rfl
   ·refine Qa hC [.say 26 (.b false),.n 5,.say 30 (.b ((decide (0<x9.1))||(decide (most10<x9.2)))),.keep [0,1,30] []] rfl ⟨⟨tt_,(congrArg V.b hc12)⟩,(congrArg V.b (orF hc12 rfl))⟩ ?_
    exact AK.met rfl
  ·rintro σ rfl
   refine Qa hC [.n 1] rfl tt_ ?_
   rcases bifE h with⟨hc13,h⟩|⟨hc13,h⟩
   ·refine Qa hC [.br true,.n 8,.keep [4,5] []] rfl ⟨tt_,hc13⟩ ?_
    cases h
    exact AK.done (ex_ [_,_] (an_ (an_ rfl (an_ rfl tt_)) (gives tt_)))
   ·refine Qa hC [.br false,.n 12,.keep [4,5] []] rfl ⟨tt_,hc13⟩ ?_
    cases h
    exact AK.done (ex_ [_,_] (an_ (an_ rfl (an_ rfl tt_)) (gives tt_)))
def Qet (a1:Int)(b2:Int):Option (Int×Int×Int):=
 bif (b2==0)then
 some (0,0,7)
 else
 bif ((a1==(-9223372036854775808))&&(b2==(-1)))then
 some (0,0,6)
 else
 (chk (b2 != 0)).bind fun _=>
 (chk (b2 != 0)).bind fun _=>
 some ((w64 (Int.tdiv a1 b2)),(Int.tmod a1 b2),0)
theorem QlV (a1:Int)(b2:Int){r:(Int×Int×Int)}(h:Qet a1 b2=some r):Qc Tryz.prog 269 [.i .i64 a1,.i .i64 b2] [] (Gives (.tup [.i .i64 r.1,.i .i64 r.2.1,.i .i64 r.2.2]) []):=by
 refine Qc.walk 23 Tryz.func269 rfl Tryz.ntmps269 rfl fun C hC=>?_
 unfold Qet at h
 refine Qa hC [.n 16] rfl tt_ ?_
 rcases bifE h with⟨hc9,h⟩|⟨hc9,h⟩
 ·refine Qa hC [.br true,.n 10,.keep [4,5,6] []] rfl ⟨tt_,hc9⟩ ?_
  cases h
  exact AK.done (ex_ [_,_,_] (an_ (an_ rfl (an_ rfl (an_ rfl tt_))) (gives tt_)))
 ·refine Qa hC [.br false,.n 1] rfl ⟨tt_,hc9⟩ ?_
  refine AK.meetX (fun σ=>σ=⟨[(0,.i .i64 a1),(1,.i .i64 b2),(10,.b ((a1==(-9223372036854775808))&&(b2==(-1))))],[]⟩) ?_ ?_
  ·refine Qa hC [.n 4] rfl tt_ ?_
   rcases QG (a1==(-9223372036854775808))with hc11 | hc11
   ·refine Qa hC [.say 13 (.b true),.n 5,.say 10 (.b ((a1==(-9223372036854775808))&&(b2==(-1)))),.keep [0,1,10] []] rfl ⟨⟨tt_,(congrArg V.b hc11)⟩,(congrArg V.b (andT hc11 rfl))⟩ ?_
    exact AK.met rfl
   ·refine Qa hC [.say 13 (.b false),.n 5,.say 10 (.b ((a1==(-9223372036854775808))&&(b2==(-1)))),.keep [0,1,10] []] rfl ⟨⟨tt_,(congrArg V.b hc11)⟩,(congrArg V.b (andF hc11 rfl))⟩ ?_
    exact AK.met rfl
  ·rintro σ rfl
   refine Qa hC [.n 1] rfl tt_ ?_
   rcases bifE h with⟨hc12,h⟩|⟨hc12,h⟩
   ·refine Qa hC [.br true,.n 10,.keep [4,5,6] []] rfl ⟨tt_,hc12⟩ ?_
    cases h
    exact AK.done (ex_ [_,_,_] (an_ (an_ rfl (an_ rfl (an_ rfl tt_))) (gives tt_)))
   ·obtain⟨_,hk13,h⟩:=Qb h
    replace hk13:=chkE hk13
    obtain⟨_,hk14,h⟩:=Qb h
    replace hk14:=chkE hk14
    refine Qa hC [.br false,.n 4,.keep [0,1] []] rfl ⟨tt_,hc12⟩ ?_
    refine AK.draw2 Qo hC mixed [.a .no none false,.a .no none false,.a .no none false,.a .no none false,.a .no none false,.a .no none false,.a .no none false,.a .no none false,.a .no none false] [] [] [4,5,6] [] rfl rfl rfl ⟨⟨tt_,(neZ hk13)⟩,(neZ hk14)⟩ rfl (by kernel_rfl) rfl rfl rfl ?_
    refine Qa hC [.n 2,.keep [4,5,6] []] rfl tt_ ?_
    cases h
    exact AK.done (ex_ [_,_,_] (an_ (an_ rfl (an_ rfl (an_ rfl tt_))) (gives tt_)))
def QcM (is1:Bool):Option (Int×Int):=
 bif is1 then
 some (1,0)
 else
 some (0,0)
theorem QdJ (is1:Bool){r:(Int×Int)}(h:QcM is1=some r):Qc Tryz.prog 270 [.b is1] [] (Gives (.tup [.i .i64 r.1,.i .i64 r.2]) []):=by
 refine Qc.walk 5 Tryz.func270 rfl Tryz.ntmps270 rfl fun C hC=>?_
 unfold QcM at h
 refine Qa hC [.n 12] rfl tt_ ?_
 rcases bifE h with⟨hc5,h⟩|⟨hc5,h⟩
 ·refine Qa hC [.br true,.n 8,.keep [2,3] []] rfl ⟨tt_,hc5⟩ ?_
  cases h
  exact AK.done (ex_ [_,_] (an_ (an_ rfl (an_ rfl tt_)) (gives tt_)))
 ·refine Qa hC [.br false,.n 9,.keep [2,3] []] rfl ⟨tt_,hc5⟩ ?_
  cases h
  exact AK.done (ex_ [_,_] (an_ (an_ rfl (an_ rfl tt_)) (gives tt_)))
def QmP (a2:Int)(b3:Int):Option (Int×Int):=
 bif (a2 != 0)then
 (QcM (b3 != 0)).bind fun x31=>
 some (x31.1,x31.2)
 else
 (QcM false).bind fun x32=>
 some (x32.1,x32.2)
def QiV (x27:Int)(x28:Int):Option (Int×Int):=
 some (x27,x28)
def QmQ (a2:Int)(b3:Int):Option (Int×Int):=
 bif (a2 != 0)then
 (QcM true).bind fun x38=>
 some (x38.1,x38.2)
 else
 (QcM (b3 != 0)).bind fun x39=>
 some (x39.1,x39.2)
def QiW (x34:Int)(x35:Int):Option (Int×Int):=
 some (x34,x35)
def QhH (op1:Int)(a2:Int)(b3:Int):Option (Int×Int):=
 bif (op1==1)then
 (QkV a2 b3).bind fun x9=>
 some (x9.1,x9.2)
 else
 bif (op1==2)then
 (QeP a2 b3).bind fun x11=>
 some (x11.1,x11.2)
 else
 bif (op1==3)then
 (Qhi a2 b3).bind fun x13=>
 some (x13.1,x13.2)
 else
 bif (op1==4)then
 (Qet a2 b3).bind fun x15=>
 some (x15.1,x15.2.2)
 else
 bif (op1==5)then
 (Qet a2 b3).bind fun x17=>
 some (x17.2.1,x17.2.2)
 else
 bif (op1==6)then
 (QcM (a2==b3)).bind fun x19=>
 some (x19.1,x19.2)
 else
 bif (op1==7)then
 (QcM (a2 != b3)).bind fun x21=>
 some (x21.1,x21.2)
 else
 bif (op1==8)then
 (QcM (decide (a2<b3))).bind fun x23=>
 some (x23.1,x23.2)
 else
 bif (op1==9)then
 (QcM (decide (a2≤b3))).bind fun x25=>
 some (x25.1,x25.2)
 else
 bif (op1==10)then
 (QmP a2 b3).bind (fun v=>QiV v.1 v.2)
 else
 bif (op1==11)then
 (QmQ a2 b3).bind (fun v=>QiW v.1 v.2)
 else
 some (0,1)
theorem QkW (op1:Int)(a2:Int)(b3:Int){r:(Int×Int)}(h:QhH op1 a2 b3=some r):Qc Tryz.prog 260 [.i .i64 op1,.i .i64 a2,.i .i64 b3] [] (Gives (.tup [.i .i64 r.1,.i .i64 r.2]) []):=by
 refine Qc.walk 112 Tryz.func260 rfl Tryz.ntmps260 rfl fun C hC=>?_
 unfold QhH at h
 refine Qa hC [.n 19] rfl tt_ ?_
 rcases bifE h with⟨hc8,h⟩|⟨hc8,h⟩
 ·obtain⟨x9,hx9,h⟩:=Qb h
  refine Qa hC [.br true,.n 4,.o (.c false [.d,.d] (.tup [.i .i64 x9.1,.i .i64 x9.2])),.n 9,.keep [6,7] []] rfl ⟨⟨tt_,hc8⟩,(Qs7 _ _ hx9)⟩ ?_
  cases h
  exact AK.done (ex_ [_,_] (an_ (an_ rfl (an_ rfl tt_)) (gives tt_)))
 ·refine Qa hC [.br false,.n 6] rfl ⟨tt_,hc8⟩ ?_
  rcases bifE h with⟨hc10,h⟩|⟨hc10,h⟩
  ·obtain⟨x11,hx11,h⟩:=Qb h
   refine Qa hC [.br true,.n 4,.o (.c false [.d,.d] (.tup [.i .i64 x11.1,.i .i64 x11.2])),.n 9,.keep [6,7] []] rfl ⟨⟨tt_,hc10⟩,(QoF _ _ hx11)⟩ ?_
   cases h
   exact AK.done (ex_ [_,_] (an_ (an_ rfl (an_ rfl tt_)) (gives tt_)))
  ·refine Qa hC [.br false,.n 6] rfl ⟨tt_,hc10⟩ ?_
   rcases bifE h with⟨hc12,h⟩|⟨hc12,h⟩
   ·obtain⟨x13,hx13,h⟩:=Qb h
    refine Qa hC [.br true,.n 4,.o (.c false [.d,.d] (.tup [.i .i64 x13.1,.i .i64 x13.2])),.n 9,.keep [6,7] []] rfl ⟨⟨tt_,hc12⟩,(Qqn _ _ hx13)⟩ ?_
    cases h
    exact AK.done (ex_ [_,_] (an_ (an_ rfl (an_ rfl tt_)) (gives tt_)))
   ·refine Qa hC [.br false,.n 6] rfl ⟨tt_,hc12⟩ ?_
    rcases bifE h with⟨hc14,h⟩|⟨hc14,h⟩
    ·obtain⟨x15,hx15,h⟩:=Qb h
     refine Qa hC [.br true,.n 4,.o (.c false [.d,.d] (.tup [.i .i64 x15.1,.i .i64 x15.2.1,.i .i64 x15.2.2])),.n 20,.keep [6,7] []] rfl ⟨⟨tt_,hc14⟩,(QlV _ _ hx15)⟩ ?_
     cases h
     exact AK.done (ex_ [_,_] (an_ (an_ rfl (an_ rfl tt_)) (gives tt_)))
    ·refine Qa hC [.br false,.n 6] rfl ⟨tt_,hc14⟩ ?_
     rcases bifE h with⟨hc16,h⟩|⟨hc16,h⟩
     ·obtain⟨x17,hx17,h⟩:=Qb h
      refine Qa hC [.br true,.n 4,.o (.c false [.d,.d] (.tup [.i .i64 x17.1,.i .i64 x17.2.1,.i .i64 x17.2.2])),.n 20,.keep [6,7] []] rfl ⟨⟨tt_,hc16⟩,(QlV _ _ hx17)⟩ ?_
      cases h
      exact AK.done (ex_ [_,_] (an_ (an_ rfl (an_ rfl tt_)) (gives tt_)))
     ·refine Qa hC [.br false,.n 6] rfl ⟨tt_,hc16⟩ ?_
      rcases bifE h with⟨hc18,h⟩|⟨hc18,h⟩
      ·obtain⟨x19,hx19,h⟩:=Qb h
       refine Qa hC [.br true,.n 5,.o (.c false [.d] (.tup [.i .i64 x19.1,.i .i64 x19.2])),.n 9,.keep [6,7] []] rfl ⟨⟨tt_,hc18⟩,(QdJ _ hx19)⟩ ?_
       cases h
       exact AK.done (ex_ [_,_] (an_ (an_ rfl (an_ rfl tt_)) (gives tt_)))
      ·refine Qa hC [.br false,.n 6] rfl ⟨tt_,hc18⟩ ?_
       rcases bifE h with⟨hc20,h⟩|⟨hc20,h⟩
       ·obtain⟨x21,hx21,h⟩:=Qb h
        refine Qa hC [.br true,.n 5,.o (.c false [.d] (.tup [.i .i64 x21.1,.i .i64 x21.2])),.n 9,.keep [6,7] []] rfl ⟨⟨tt_,hc20⟩,(QdJ _ hx21)⟩ ?_
        cases h
        exact AK.done (ex_ [_,_] (an_ (an_ rfl (an_ rfl tt_)) (gives tt_)))
       ·refine Qa hC [.br false,.n 6] rfl ⟨tt_,hc20⟩ ?_
        rcases bifE h with⟨hc22,h⟩|⟨hc22,h⟩
        ·obtain⟨x23,hx23,h⟩:=Qb h
         refine Qa hC [.br true,.n 5,.o (.c false [.d] (.tup [.i .i64 x23.1,.i .i64 x23.2])),.n 9,.keep [6,7] []] rfl ⟨⟨tt_,hc22⟩,(QdJ _ hx23)⟩ ?_
         cases h
         exact AK.done (ex_ [_,_] (an_ (an_ rfl (an_ rfl tt_)) (gives tt_)))
        ·refine Qa hC [.br false,.n 6] rfl ⟨tt_,hc22⟩ ?_
         rcases bifE h with⟨hc24,h⟩|⟨hc24,h⟩
         ·obtain⟨x25,hx25,h⟩:=Qb h
          refine Qa hC [.br true,.n 5,.o (.c false [.d] (.tup [.i .i64 x25.1,.i .i64 x25.2])),.n 9,.keep [6,7] []] rfl ⟨⟨tt_,hc24⟩,(QdJ _ hx25)⟩ ?_
          cases h
          exact AK.done (ex_ [_,_] (an_ (an_ rfl (an_ rfl tt_)) (gives tt_)))
         ·refine Qa hC [.br false,.n 6] rfl ⟨tt_,hc24⟩ ?_
          rcases bifE h with⟨hc26,h⟩|⟨hc26,h⟩
          ·refine Qa hC [.br true,.n 1] rfl ⟨tt_,hc26⟩ ?_
           obtain⟨v,hv29,h⟩:=Qb h
           replace h:QiV v.1 v.2=some r:=h
           refine AK.meetX (fun σ=>σ=⟨[(6,.i .i64 v.1),(7,.i .i64 v.2)],[]⟩) ?_ ?_
           ·replace h:=hv29
            unfold QmP at h
            refine Qa hC [.n 4] rfl tt_ ?_
            rcases bifE h with⟨hc30,h⟩|⟨hc30,h⟩
            ·obtain⟨x31,hx31,h⟩:=Qb h
             refine Qa hC [.say 94 (.b true),.n 3,.o (.c false [.d] (.tup [.i .i64 x31.1,.i .i64 x31.2])),.n 5,.keep [6,7] []] rfl ⟨⟨tt_,(congrArg V.b hc30)⟩,(QdJ _ hx31)⟩ ?_
             cases h
             exact AK.met rfl
            ·obtain⟨x32,hx32,h⟩:=Qb h
             refine Qa hC [.say 94 (.b false),.n 3,.o (.c false [.d] (.tup [.i .i64 x32.1,.i .i64 x32.2])),.n 5,.keep [6,7] []] rfl ⟨⟨tt_,(congrArg V.b hc30)⟩,(QdJ _ hx32)⟩ ?_
             cases h
             exact AK.met rfl
           ·rintro σ rfl
            obtain⟨x27,x28⟩:=v
            replace h:QiV x27 x28=some r:=h
            unfold QiV at h
            refine Qa hC [.n 4,.keep [6,7] []] rfl tt_ ?_
            cases h
            exact AK.done (ex_ [_,_] (an_ (an_ rfl (an_ rfl tt_)) (gives tt_)))
          ·refine Qa hC [.br false,.n 6] rfl ⟨tt_,hc26⟩ ?_
           rcases bifE h with⟨hc33,h⟩|⟨hc33,h⟩
           ·refine Qa hC [.br true,.n 1] rfl ⟨tt_,hc33⟩ ?_
            obtain⟨v,hv36,h⟩:=Qb h
            replace h:QiW v.1 v.2=some r:=h
            refine AK.meetX (fun σ=>σ=⟨[(6,.i .i64 v.1),(7,.i .i64 v.2)],[]⟩) ?_ ?_
            ·replace h:=hv36
             unfold QmQ at h
             refine Qa hC [.n 4] rfl tt_ ?_
             rcases bifE h with⟨hc37,h⟩|⟨hc37,h⟩
             ·obtain⟨x38,hx38,h⟩:=Qb h
              refine Qa hC [.say 105 (.b true),.n 3,.o (.c false [.d] (.tup [.i .i64 x38.1,.i .i64 x38.2])),.n 5,.keep [6,7] []] rfl ⟨⟨tt_,(congrArg V.b hc37)⟩,(QdJ _ hx38)⟩ ?_
              cases h
              exact AK.met rfl
             ·obtain⟨x39,hx39,h⟩:=Qb h
              refine Qa hC [.say 105 (.b false),.n 3,.o (.c false [.d] (.tup [.i .i64 x39.1,.i .i64 x39.2])),.n 5,.keep [6,7] []] rfl ⟨⟨tt_,(congrArg V.b hc37)⟩,(QdJ _ hx39)⟩ ?_
              cases h
              exact AK.met rfl
            ·rintro σ rfl
             obtain⟨x34,x35⟩:=v
             replace h:QiW x34 x35=some r:=h
             unfold QiW at h
             refine Qa hC [.n 4,.keep [6,7] []] rfl tt_ ?_
             cases h
             exact AK.done (ex_ [_,_] (an_ (an_ rfl (an_ rfl tt_)) (gives tt_)))
           ·refine Qa hC [.br false,.n 10,.keep [6,7] []] rfl ⟨tt_,hc33⟩ ?_
            cases h
            exact AK.done (ex_ [_,_] (an_ (an_ rfl (an_ rfl tt_)) (gives tt_)))
def QkX (a1:Int):Option (Int×Int):=
 (QhH 2 0 a1).bind fun x4=>
 some (x4.1,x4.2)
theorem Qs8 (a1:Int){r:(Int×Int)}(h:QkX a1=some r):Qc Tryz.prog 259 [.i .i64 a1] [] (Gives (.tup [.i .i64 r.1,.i .i64 r.2]) []):=by
 refine Qc.walk 8 Tryz.func259 rfl Tryz.ntmps259 rfl fun C hC=>?_
 unfold QkX at h
 obtain⟨x4,hx4,h⟩:=Qb h
 refine Qa hC [.n 9,.o (.c false [.d,.d,.d] (.tup [.i .i64 x4.1,.i .i64 x4.2])),.n 7,.keep [2,3] []] rfl ⟨tt_,(QkW _ _ _ hx4)⟩ ?_
 cases h
 exact AK.done (ex_ [_,_] (an_ (an_ rfl (an_ rfl tt_)) (gives tt_)))
def QeR (rec_expr_env_eval:(List Int)→Qg→Option (Int×Int))(v1:(List Int))(e2:Qg):Option (Int×Int):=
 (idx e2.Kids 0).bind fun e7=>
 (rec_expr_env_eval v1 e7).bind fun x8=>
 bif (x8.2 != 0)then
 some (0,x8.2)
 else
 bif (e2.Kind==3)then
 (QkX x8.1).bind fun x11=>
 some (x11.1,x11.2)
 else
 (QhH 6 x8.1 0).bind fun x12=>
 some (x12.1,x12.2)
theorem QoH (rec_expr_env_eval:(List Int)→Qg→Option (Int×Int))(hrec_expr_env_eval:∀(v1:(List Int)) (e2:Qg) {r:(Int×Int)},rec_expr_env_eval v1 e2=some r→Qc Tryz.prog 140 [.sl 1 (v1.map Qe),.agg (Qm e2)] [] (Gives (.tup [.i .i64 r.1,.i .i64 r.2]) []))(v1:(List Int))(e2:Qg){r:(Int×Int)}(h:QeR rec_expr_env_eval v1 e2=some r):Qc Tryz.prog 246 [.sl 1 (v1.map Qe),.agg (Qm e2)] [] (Gives (.tup [.i .i64 r.1,.i .i64 r.2]) []):=by
 refine Qc.walk 33 Tryz.func246 rfl Tryz.ntmps246 rfl fun C hC=>?_
 unfold QeR at h
 obtain⟨e7,he7,h⟩:=Qb h
 obtain⟨x8,hx8,h⟩:=Qb h
 refine Qa hC [.n 12,.o (.row (Qm e7)),.v .no [] (.agg (Qm e7)),.o (.c false [.d,.d] (.tup [.i .i64 x8.1,.i .i64 x8.2])),.n 16] rfl ⟨⟨⟨tt_,(Qd7 he7)⟩,rfl⟩,(hrec_expr_env_eval _ _ hx8)⟩ ?_
 rcases bifE h with⟨hc9,h⟩|⟨hc9,h⟩
 ·refine Qa hC [.br true,.n 10,.keep [4,5] []] rfl ⟨tt_,hc9⟩ ?_
  cases h
  exact AK.done (ex_ [_,_] (an_ (an_ rfl (an_ rfl tt_)) (gives tt_)))
 ·refine Qa hC [.br false,.n 8] rfl ⟨tt_,hc9⟩ ?_
  rcases bifE h with⟨hc10,h⟩|⟨hc10,h⟩
  ·obtain⟨x11,hx11,h⟩:=Qb h
   refine Qa hC [.br true,.n 3,.o (.c false [.d] (.tup [.i .i64 x11.1,.i .i64 x11.2])),.n 9,.keep [4,5] []] rfl ⟨⟨tt_,hc10⟩,(Qs8 _ hx11)⟩ ?_
   cases h
   exact AK.done (ex_ [_,_] (an_ (an_ rfl (an_ rfl tt_)) (gives tt_)))
  ·obtain⟨x12,hx12,h⟩:=Qb h
   refine Qa hC [.br false,.n 6,.o (.c false [.d,.d,.d] (.tup [.i .i64 x12.1,.i .i64 x12.2])),.n 7,.keep [4,5] []] rfl ⟨⟨tt_,hc10⟩,(QkW _ _ _ hx12)⟩ ?_
   cases h
   exact AK.done (ex_ [_,_] (an_ (an_ rfl (an_ rfl tt_)) (gives tt_)))
def Qct (x8:(Int×Int))(e2:Qg)(rec_expr_env_eval:(List Int)→Qg→Option (Int×Int))(v1:(List Int))(x10:Bool):Option (Int×Int):=
 bif x10 then
 (QhH 7 x8.1 0).bind fun x12=>
 some (x12.1,x12.2)
 else
 (idx e2.Kids 1).bind fun e13=>
 (rec_expr_env_eval v1 e13).bind fun x14=>
 bif (x14.2 != 0)then
 some (0,x14.2)
 else
 (QhH e2.Num x8.1 x14.1).bind fun x16=>
 some (x16.1,x16.2)
def Qjl (rec_expr_env_eval:(List Int)→Qg→Option (Int×Int))(v1:(List Int))(e2:Qg):Option (Int×Int):=
 (idx e2.Kids 0).bind fun e7=>
 (rec_expr_env_eval v1 e7).bind fun x8=>
 bif (x8.2 != 0)then
 some (0,x8.2)
 else
 bif ((e2.Num==10)&&(x8.1==0))then
 Qct x8 e2 rec_expr_env_eval v1 ((e2.Num==10)&&(x8.1==0))
 else
 bif (e2.Num==11)then
 Qct x8 e2 rec_expr_env_eval v1 (x8.1 != 0)
 else
 Qct x8 e2 rec_expr_env_eval v1 false
theorem Qqo (rec_expr_env_eval:(List Int)→Qg→Option (Int×Int))(hrec_expr_env_eval:∀(v1:(List Int)) (e2:Qg) {r:(Int×Int)},rec_expr_env_eval v1 e2=some r→Qc Tryz.prog 140 [.sl 1 (v1.map Qe),.agg (Qm e2)] [] (Gives (.tup [.i .i64 r.1,.i .i64 r.2]) []))(v1:(List Int))(e2:Qg){r:(Int×Int)}(h:Qjl rec_expr_env_eval v1 e2=some r):Qc Tryz.prog 247 [.sl 1 (v1.map Qe),.agg (Qm e2)] [] (Gives (.tup [.i .i64 r.1,.i .i64 r.2]) []):=by
 refine Qc.walk 60 Tryz.func247 rfl Tryz.ntmps247 rfl fun C hC=>?_
 unfold Qjl at h
 obtain⟨e7,he7,h⟩:=Qb h
 obtain⟨x8,hx8,h⟩:=Qb h
 refine Qa hC [.n 12,.o (.row (Qm e7)),.v .no [] (.agg (Qm e7)),.o (.c false [.d,.d] (.tup [.i .i64 x8.1,.i .i64 x8.2])),.n 16] rfl ⟨⟨⟨tt_,(Qd7 he7)⟩,rfl⟩,(hrec_expr_env_eval _ _ hx8)⟩ ?_
 rcases bifE h with⟨hc9,h⟩|⟨hc9,h⟩
 ·refine Qa hC [.br true,.n 10,.keep [4,5] []] rfl ⟨tt_,hc9⟩ ?_
  cases h
  exact AK.done (ex_ [_,_] (an_ (an_ rfl (an_ rfl tt_)) (gives tt_)))
 ·refine Qa hC [.br false] rfl ⟨tt_,hc9⟩ ?_
  refine AK.meet (fun σ=>∃x10:Bool,σ=⟨[(0,.sl 1 (v1.map Qe)),(3,.loc 3 0 0),(6,.i .i64 x8.1),(22,.b x10)],[(3,.var (Qm e2))]⟩∧Qct x8 e2 rec_expr_env_eval v1 x10=some r) ?_ ?_
  ·refine Qa hC [.n 1] rfl tt_ ?_
   refine AK.meetX (fun σ=>σ=⟨[(0,.sl 1 (v1.map Qe)),(3,.loc 3 0 0),(6,.i .i64 x8.1),(22,.b ((e2.Num==10)&&(x8.1==0)))],[(3,.var (Qm e2))]⟩) ?_ ?_
   ·refine Qa hC [.n 5] rfl tt_ ?_
    rcases QG (e2.Num==10)with hc18 | hc18
    ·refine Qa hC [.say 26 (.b true),.n 5,.say 22 (.b ((e2.Num==10)&&(x8.1==0))),.keep [0,3,6,22] [3]] rfl ⟨⟨tt_,(congrArg V.b hc18)⟩,(congrArg V.b (andT hc18 rfl))⟩ ?_
     exact AK.met rfl
    ·refine Qa hC [.say 26 (.b false),.n 5,.say 22 (.b ((e2.Num==10)&&(x8.1==0))),.keep [0,3,6,22] [3]] rfl ⟨⟨tt_,(congrArg V.b hc18)⟩,(congrArg V.b (andF hc18 rfl))⟩ ?_
     exact AK.met rfl
   ·rintro σ rfl
    refine Qa hC [.n 1] rfl tt_ ?_
    rcases bifE h with⟨hc19,h⟩|⟨hc19,h⟩
    ·refine Qa hC [.br true,.n 1,.keep [0,3,6,22] [3]] rfl ⟨tt_,hc19⟩ ?_
     exact AK.met (ex_ _ (an_ rfl h))
    ·refine Qa hC [.br false,.n 5] rfl ⟨tt_,hc19⟩ ?_
     rcases bifE h with⟨hc20,h⟩|⟨hc20,h⟩
     ·refine Qa hC [.say 33 (.b true),.n 5,.keep [0,3,6,22] [3]] rfl ⟨tt_,(congrArg V.b hc20)⟩ ?_
      exact AK.met (ex_ _ (an_ rfl h))
     ·refine Qa hC [.say 33 (.b false),.n 5,.keep [0,3,6,22] [3]] rfl ⟨tt_,(congrArg V.b hc20)⟩ ?_
      exact AK.met (ex_ _ (an_ rfl h))
  ·rintro σ ⟨x10,rfl,h⟩
   unfold Qct at h
   rcases bifE h with⟨hc11,h⟩|⟨hc11,h⟩
   ·obtain⟨x12,hx12,h⟩:=Qb h
    refine Qa hC [.br true,.n 3,.o (.c false [.d,.d,.d] (.tup [.i .i64 x12.1,.i .i64 x12.2])),.n 9,.keep [4,5] []] rfl ⟨⟨tt_,hc11⟩,(QkW _ _ _ hx12)⟩ ?_
    cases h
    exact AK.done (ex_ [_,_] (an_ (an_ rfl (an_ rfl tt_)) (gives tt_)))
   ·obtain⟨e13,he13,h⟩:=Qb h
    obtain⟨x14,hx14,h⟩:=Qb h
    refine Qa hC [.br false,.n 8,.o (.row (Qm e13)),.v .no [] (.agg (Qm e13)),.o (.c false [.d,.d] (.tup [.i .i64 x14.1,.i .i64 x14.2])),.n 14] rfl ⟨⟨⟨⟨tt_,hc11⟩,(Qd7 he13)⟩,rfl⟩,(hrec_expr_env_eval _ _ hx14)⟩ ?_
    rcases bifE h with⟨hc15,h⟩|⟨hc15,h⟩
    ·refine Qa hC [.br true,.n 9,.keep [4,5] []] rfl ⟨tt_,hc15⟩ ?_
     cases h
     exact AK.done (ex_ [_,_] (an_ (an_ rfl (an_ rfl tt_)) (gives tt_)))
    ·obtain⟨x16,hx16,h⟩:=Qb h
     refine Qa hC [.br false,.n 8,.o (.c false [.d,.d,.d] (.tup [.i .i64 x16.1,.i .i64 x16.2])),.n 7,.keep [4,5] []] rfl ⟨⟨tt_,hc15⟩,(QkW _ _ _ hx16)⟩ ?_
     cases h
     exact AK.done (ex_ [_,_] (an_ (an_ rfl (an_ rfl tt_)) (gives tt_)))
def Qg6 (rec_expr_env_eval:(List Int)→Qg→Option (Int×Int))(v1:(List Int))(e2:Qg):Option (Int×Int):=
 (idx e2.Kids 0).bind fun e7=>
 (rec_expr_env_eval v1 e7).bind fun x8=>
 bif (x8.2 != 0)then
 some (0,x8.2)
 else
 bif (x8.1 != 0)then
 (idx e2.Kids 1).bind fun e11=>
 (rec_expr_env_eval v1 e11).bind fun x12=>
 some (x12.1,x12.2)
 else
 (idx e2.Kids 2).bind fun e13=>
 (rec_expr_env_eval v1 e13).bind fun x14=>
 some (x14.1,x14.2)
theorem QoI (rec_expr_env_eval:(List Int)→Qg→Option (Int×Int))(hrec_expr_env_eval:∀(v1:(List Int)) (e2:Qg) {r:(Int×Int)},rec_expr_env_eval v1 e2=some r→Qc Tryz.prog 140 [.sl 1 (v1.map Qe),.agg (Qm e2)] [] (Gives (.tup [.i .i64 r.1,.i .i64 r.2]) []))(v1:(List Int))(e2:Qg){r:(Int×Int)}(h:Qg6 rec_expr_env_eval v1 e2=some r):Qc Tryz.prog 248 [.sl 1 (v1.map Qe),.agg (Qm e2)] [] (Gives (.tup [.i .i64 r.1,.i .i64 r.2]) []):=by
 refine Qc.walk 40 Tryz.func248 rfl Tryz.ntmps248 rfl fun C hC=>?_
 unfold Qg6 at h
 obtain⟨e7,he7,h⟩:=Qb h
 obtain⟨x8,hx8,h⟩:=Qb h
 refine Qa hC [.n 12,.o (.row (Qm e7)),.v .no [] (.agg (Qm e7)),.o (.c false [.d,.d] (.tup [.i .i64 x8.1,.i .i64 x8.2])),.n 16] rfl ⟨⟨⟨tt_,(Qd7 he7)⟩,rfl⟩,(hrec_expr_env_eval _ _ hx8)⟩ ?_
 rcases bifE h with⟨hc9,h⟩|⟨hc9,h⟩
 ·refine Qa hC [.br true,.n 10,.keep [4,5] []] rfl ⟨tt_,hc9⟩ ?_
  cases h
  exact AK.done (ex_ [_,_] (an_ (an_ rfl (an_ rfl tt_)) (gives tt_)))
 ·refine Qa hC [.br false,.n 7] rfl ⟨tt_,hc9⟩ ?_
  rcases bifE h with⟨hc10,h⟩|⟨hc10,h⟩
  ·obtain⟨e11,he11,h⟩:=Qb h
   obtain⟨x12,hx12,h⟩:=Qb h
   refine Qa hC [.br true,.n 5,.o (.row (Qm e11)),.v .no [] (.agg (Qm e11)),.o (.c false [.d,.d] (.tup [.i .i64 x12.1,.i .i64 x12.2])),.n 9,.keep [4,5] []] rfl ⟨⟨⟨⟨tt_,hc10⟩,(Qd7 he11)⟩,rfl⟩,(hrec_expr_env_eval _ _ hx12)⟩ ?_
   cases h
   exact AK.done (ex_ [_,_] (an_ (an_ rfl (an_ rfl tt_)) (gives tt_)))
  ·obtain⟨e13,he13,h⟩:=Qb h
   obtain⟨x14,hx14,h⟩:=Qb h
   refine Qa hC [.br false,.n 8,.o (.row (Qm e13)),.v .no [] (.agg (Qm e13)),.o (.c false [.d,.d] (.tup [.i .i64 x14.1,.i .i64 x14.2])),.n 7,.keep [4,5] []] rfl ⟨⟨⟨⟨tt_,hc10⟩,(Qd7 he13)⟩,rfl⟩,(hrec_expr_env_eval _ _ hx14)⟩ ?_
   cases h
   exact AK.done (ex_ [_,_] (an_ (an_ rfl (an_ rfl tt_)) (gives tt_)))
def QiX (e2:Qg)(a8:(List Int)):Option (Int×Int):=
 (QjD a8 e2).bind fun x13=>
 some (x13.1,x13.2)
def Qei (e2:Qg)(a9:(List Int)):Option (Int×Int):=
 (Qf6 a9 e2).bind fun x14=>
 some (x14.1,x14.2)
def Qb8 (rec_expr_env_eval:(List Int)→Qg→Option (Int×Int))(e2:Qg)(a10:(List Int)):Option (Int×Int):=
 (QeR rec_expr_env_eval a10 e2).bind fun x15=>
 some (x15.1,x15.2)
def Qej (rec_expr_env_eval:(List Int)→Qg→Option (Int×Int))(e2:Qg)(a11:(List Int)):Option (Int×Int):=
 (Qjl rec_expr_env_eval a11 e2).bind fun x16=>
 some (x16.1,x16.2)
def Qek (rec_expr_env_eval:(List Int)→Qg→Option (Int×Int))(e2:Qg)(a12:(List Int)):Option (Int×Int):=
 (Qg6 rec_expr_env_eval a12 e2).bind fun x17=>
 some (x17.1,x17.2)
def Qg7 (rec_expr_env_eval:(List Int)→Qg→Option (Int×Int))(v1:(List Int))(e2:Qg):Option (Int×Int):=
 (QbU v1 e2.Kind).bind fun x7=>
 (Sum.elim (fun q=>QiX e2 q) (Sum.elim (fun q=>Qei e2 q) (Sum.elim (fun q=>Qb8 rec_expr_env_eval e2 q) (Sum.elim (fun q=>Qej rec_expr_env_eval e2 q) (fun q=>Qek rec_expr_env_eval e2 q))))) x7
def Qau : Nat→(List Int)→Qg→Option (Int×Int)
 | 0,_,_=>none
 | n+1,v1,e2=>Qg7 (Qau n) v1 e2
def QkY (v1:(List Int))(e2:Qg):Option (Int×Int):=Qau (SizeOf.sizeOf e2) v1 e2
theorem QoJ (rec_expr_env_eval:(List Int)→Qg→Option (Int×Int))(hrec_expr_env_eval:∀(v1:(List Int)) (e2:Qg) {r:(Int×Int)},rec_expr_env_eval v1 e2=some r→Qc Tryz.prog 140 [.sl 1 (v1.map Qe),.agg (Qm e2)] [] (Gives (.tup [.i .i64 r.1,.i .i64 r.2]) []))(v1:(List Int))(e2:Qg){r:(Int×Int)}(h:Qg7 rec_expr_env_eval v1 e2=some r):Qc Tryz.prog 140 [.sl 1 (v1.map Qe),.agg (Qm e2)] [] (Gives (.tup [.i .i64 r.1,.i .i64 r.2]) []):=by
 refine Qc.walk 14 Tryz.func140 rfl Tryz.ntmps140 rfl fun C hC=>?_
 unfold Qg7 at h
 refine Qa hC [.n 8] rfl tt_ ?_
 obtain⟨x7,hx7,h⟩:=Qb h
 rcases x7 with(a8 | (a9 | (a10 | (a11 | a12))))
 ·replace h:QiX e2 a8=some r:=h
  unfold QiX at h
  obtain⟨x13,hx13,h⟩:=Qb h
  refine Qa hC [.keep [0,3,4,5] [3]] rfl tt_ ?_
  refine AK.draw2 Qo hC mixed [.a .no none false,.a .no none false,.a .no none false,.a (.any (.clo (.func 244) [.sl 1 (a8.map Qe)] []) none) none false,.a .no (some ([],.agg (Qm e2))) false,.a (.c false [.d,.d] (.tup [.i .i64 x13.1,.i .i64 x13.2])) none false,.a .no none false,.a .no none false,.m .s,.m .s] [] [] [4,5] [] rfl rfl rfl ⟨⟨⟨tt_,(fun σ h1 h2 _=>Stp.callSame (md:=.cm (.fn) [] [] [] [.d,.d] [] (.clo (.func 244) [.sl 1 (a8.map Qe)] []) []) Qo hC h1 h2 rfl ⟨tt_,(Qeh _ _ hx7)⟩)⟩,rfl⟩,(QoE _ _ hx13)⟩ rfl (by kernel_rfl) rfl rfl rfl ?_
  refine Qa hC [.n 2,.keep [4,5] []] rfl tt_ ?_
  cases h
  exact AK.done (ex_ [_,_] (an_ (an_ rfl (an_ rfl tt_)) (gives tt_)))
 ·replace h:Qei e2 a9=some r:=h
  unfold Qei at h
  obtain⟨x14,hx14,h⟩:=Qb h
  refine Qa hC [.keep [0,3,4,5] [3]] rfl tt_ ?_
  refine AK.draw2 Qo hC mixed [.a .no none false,.a .no none false,.a .no none false,.a (.any (.clo (.func 245) [.sl 1 (a9.map Qe)] []) none) none false,.a .no (some ([],.agg (Qm e2))) false,.a (.c false [.d,.d] (.tup [.i .i64 x14.1,.i .i64 x14.2])) none false,.a .no none false,.a .no none false,.m .s,.m .s] [] [] [4,5] [] rfl rfl rfl ⟨⟨⟨tt_,(fun σ h1 h2 _=>Stp.callSame (md:=.cm (.fn) [] [] [] [.d,.d] [] (.clo (.func 245) [.sl 1 (a9.map Qe)] []) []) Qo hC h1 h2 rfl ⟨tt_,(Qeh _ _ hx7)⟩)⟩,rfl⟩,(QnI _ _ hx14)⟩ rfl (by kernel_rfl) rfl rfl rfl ?_
  refine Qa hC [.n 2,.keep [4,5] []] rfl tt_ ?_
  cases h
  exact AK.done (ex_ [_,_] (an_ (an_ rfl (an_ rfl tt_)) (gives tt_)))
 ·replace h:Qb8 rec_expr_env_eval e2 a10=some r:=h
  unfold Qb8 at h
  obtain⟨x15,hx15,h⟩:=Qb h
  refine Qa hC [.keep [0,3,4,5] [3]] rfl tt_ ?_
  refine AK.draw2 Qo hC mixed [.a .no none false,.a .no none false,.a .no none false,.a (.any (.clo (.func 246) [.sl 1 (a10.map Qe)] []) none) none false,.a .no (some ([],.agg (Qm e2))) false,.a (.c false [.d,.d] (.tup [.i .i64 x15.1,.i .i64 x15.2])) none false,.a .no none false,.a .no none false,.m .s,.m .s] [] [] [4,5] [] rfl rfl rfl ⟨⟨⟨tt_,(fun σ h1 h2 _=>Stp.callSame (md:=.cm (.fn) [] [] [] [.d,.d] [] (.clo (.func 246) [.sl 1 (a10.map Qe)] []) []) Qo hC h1 h2 rfl ⟨tt_,(Qeh _ _ hx7)⟩)⟩,rfl⟩,(QoH rec_expr_env_eval hrec_expr_env_eval _ _ hx15)⟩ rfl (by kernel_rfl) rfl rfl rfl ?_
  refine Qa hC [.n 2,.keep [4,5] []] rfl tt_ ?_
  cases h
  exact AK.done (ex_ [_,_] (an_ (an_ rfl (an_ rfl tt_)) (gives tt_)))
 ·replace h:Qej rec_expr_env_eval e2 a11=some r:=h
  unfold Qej at h
  obtain⟨x16,hx16,h⟩:=Qb h
  refine Qa hC [.keep [0,3,4,5] [3]] rfl tt_ ?_
  refine AK.draw2 Qo hC mixed [.a .no none false,.a .no none false,.a .no none false,.a (.any (.clo (.func 247) [.sl 1 (a11.map Qe)] []) none) none false,.a .no (some ([],.agg (Qm e2))) false,.a (.c false [.d,.d] (.tup [.i .i64 x16.1,.i .i64 x16.2])) none false,.a .no none false,.a .no none false,.m .s,.m .s] [] [] [4,5] [] rfl rfl rfl ⟨⟨⟨tt_,(fun σ h1 h2 _=>Stp.callSame (md:=.cm (.fn) [] [] [] [.d,.d] [] (.clo (.func 247) [.sl 1 (a11.map Qe)] []) []) Qo hC h1 h2 rfl ⟨tt_,(Qeh _ _ hx7)⟩)⟩,rfl⟩,(Qqo rec_expr_env_eval hrec_expr_env_eval _ _ hx16)⟩ rfl (by kernel_rfl) rfl rfl rfl ?_
  refine Qa hC [.n 2,.keep [4,5] []] rfl tt_ ?_
  cases h
  exact AK.done (ex_ [_,_] (an_ (an_ rfl (an_ rfl tt_)) (gives tt_)))
 ·replace h:Qek rec_expr_env_eval e2 a12=some r:=h
  unfold Qek at h
  obtain⟨x17,hx17,h⟩:=Qb h
  refine Qa hC [.keep [0,3,4,5] [3]] rfl tt_ ?_
  refine AK.draw2 Qo hC mixed [.a .no none false,.a .no none false,.a .no none false,.a (.any (.clo (.func 248) [.sl 1 (a12.map Qe)] []) none) none false,.a .no (some ([],.agg (Qm e2))) false,.a (.c false [.d,.d] (.tup [.i .i64 x17.1,.i .i64 x17.2])) none false,.a .no none false,.a .no none false,.m .s,.m .s] [] [] [4,5] [] rfl rfl rfl ⟨⟨⟨tt_,(fun σ h1 h2 _=>Stp.callSame (md:=.cm (.fn) [] [] [] [.d,.d] [] (.clo (.func 248) [.sl 1 (a12.map Qe)] []) []) Qo hC h1 h2 rfl ⟨tt_,(Qeh _ _ hx7)⟩)⟩,rfl⟩,(QoI rec_expr_env_eval hrec_expr_env_eval _ _ hx17)⟩ rfl (by kernel_rfl) rfl rfl rfl ?_
  refine Qa hC [.n 2,.keep [4,5] []] rfl tt_ ?_
  cases h
  exact AK.done (ex_ [_,_] (an_ (an_ rfl (an_ rfl tt_)) (gives tt_)))
theorem QkZ : ∀(fuel:Nat) (v1:(List Int)) (e2:Qg) {r:(Int×Int)},Qau fuel v1 e2=some r→Qc Tryz.prog 140 [.sl 1 (v1.map Qe),.agg (Qm e2)] [] (Gives (.tup [.i .i64 r.1,.i .i64 r.2]) [])
 | 0,_,_,_,h=>by cases h
 | n+1,v1,e2,_,h=>QoJ (Qau n) (fun _ _ _ h=>QkZ n _ _ h) v1 e2 h
theorem QpD (v1:(List Int))(e2:Qg){r:(Int×Int)}(h:QkY v1 e2=some r):Qc Tryz.prog 140 [.sl 1 (v1.map Qe),.agg (Qm e2)] [] (Gives (.tup [.i .i64 r.1,.i .i64 r.2]) []):=QkZ _ v1 e2 h
def Qip (e1:Qg)(vars2:(List Int)):Option (Int×Int):=
 (QfE e1 (vars2.length:Int)).bind fun x7=>
 bif (!x7)then
 some (0,1)
 else
 (QkY vars2 e1).bind fun x9=>
 some (x9.1,x9.2)
theorem Qn1 (e1:Qg)(vars2:(List Int)){r:(Int×Int)}(h:Qip e1 vars2=some r):Qc Tryz.prog 83 [.agg (Qm e1),.sl 1 (vars2.map Qe)] [] (Gives (.tup [.i .i64 r.1,.i .i64 r.2]) []):=by
 refine Qc.walk 16 Tryz.func83 rfl Tryz.ntmps83 rfl fun C hC=>?_
 unfold Qip at h
 obtain⟨x7,hx7,h⟩:=Qb h
 refine Qa hC [.n 10,.v .no [] (.agg (Qm e1)),.n 1,.o (.ln vars2.length),.o (.c false [.d,.d] (.b x7)),.n 3] rfl ⟨⟨⟨tt_,rfl⟩,Qf⟩,(QkU _ _ hx7)⟩ ?_
 rcases bifE h with⟨hc8,h⟩|⟨hc8,h⟩
 ·refine Qa hC [.br true,.n 8,.keep [4,5] []] rfl ⟨tt_,hc8⟩ ?_
  cases h
  exact AK.done (ex_ [_,_] (an_ (an_ rfl (an_ rfl tt_)) (gives tt_)))
 ·obtain⟨x9,hx9,h⟩:=Qb h
  refine Qa hC [.br false,.n 5,.v .no [] (.agg (Qm e1)),.o (.c false [.d,.d] (.tup [.i .i64 x9.1,.i .i64 x9.2])),.n 7,.keep [4,5] []] rfl ⟨⟨⟨tt_,hc8⟩,rfl⟩,(QpD _ _ hx9)⟩ ?_
  cases h
  exact AK.done (ex_ [_,_] (an_ (an_ rfl (an_ rfl tt_)) (gives tt_)))
def QU (b1:QD):Option Int:=
 (Qip b1.task.Guard b1.env).bind fun x4=>
 bif (x4.2 != 0)then
 some x4.2
 else
 bif (x4.1==0)then
 some 9
 else
 some 0
theorem QiY (b1:QD){r:Int}(h:QU b1=some r):Qc Tryz.prog 42 [.agg (Qq b1)] [] (Gives (.i .i64 r) []):=by
 refine Qc.walk 21 Tryz.func42 rfl Tryz.ntmps42 rfl fun C hC=>?_
 unfold QU at h
 obtain⟨x4,hx4,h⟩:=Qb h
 refine Qa hC [.n 10,.v .no [] (.agg (Qm b1.task.Guard)),.n 2,.o (.c false [.d,.d] (.tup [.i .i64 x4.1,.i .i64 x4.2])),.n 16] rfl ⟨⟨tt_,rfl⟩,(Qn1 _ _ hx4)⟩ ?_
 rcases bifE h with⟨hc5,h⟩|⟨hc5,h⟩
 ·refine Qa hC [.br true,.n 9,.keep [2] []] rfl ⟨tt_,hc5⟩ ?_
  cases h
  exact AK.done (ex_ [_] (an_ (an_ rfl tt_) (gives tt_)))
 ·refine Qa hC [.br false,.n 7] rfl ⟨tt_,hc5⟩ ?_
  rcases bifE h with⟨hc6,h⟩|⟨hc6,h⟩
  ·refine Qa hC [.br true,.n 8,.keep [2] []] rfl ⟨tt_,hc6⟩ ?_
   cases h
   exact AK.done (ex_ [_] (an_ (an_ rfl tt_) (gives tt_)))
  ·refine Qa hC [.br false,.n 9,.keep [2] []] rfl ⟨tt_,hc6⟩ ?_
   cases h
   exact AK.done (ex_ [_] (an_ (an_ rfl tt_) (gives tt_)))
def Qdf (s1:QLL):Option QLL:=
 (chk (decide (([]:List (List Int)).length+s1.length≤4294967296))).bind fun _=>
 some (([]:List (List Int))++s1)
theorem Qlv (s1:QLL){r:QLL}(h:Qdf s1=some r):Qc Tryz.prog 79 [.sl 1 (s1.map Qz)] [] (Gives (.own 30000 r.length) [(30000,.arr 1 (r.map Qz))]):=by
 refine Qc.walk 8 Tryz.func79 rfl Tryz.ntmps79 rfl fun C hC=>?_
 unfold Qdf at h
 refine Qa hC [.n 9] rfl tt_ ?_
 refine AK.eqNil rfl rfl rfl (bleN hC.n rfl) rfl rfl QxP ?_ ?_
 ·intro hz4
  replace h:some ([]:List (List Int))=some r:=by simpa [chk,List.map_eq_nil_iff.1 hz4] using h
  refine Qa hC [.n 10,.adopt 2 30000 1,.sayO 30000 (.arr 1 (([]:List (List Int)).map Qz)),.say 2 (.own 30000 ([]:List (List Int)).length),.keep [2] [30000]] rfl ⟨⟨tt_,rfl⟩,rfl⟩ ?_
  cases h
  exact AK.done (ex_ [_] (an_ (an_ rfl tt_) (gives ⟨rfl,tt_⟩)))
 ·obtain⟨_,hk5,h⟩:=Qb h
  replace hk5:=chkE hk5
  refine Qa hC [.n 8,.sayO 5 (.arr 1 (([]:List (List Int)).map Qz)),.say 5 (.own 5 ([]:List (List Int)).length),.n 1,.app ((([]:List (List Int))++s1).map Qz) (([]:List (List Int))++s1).length,.n 4,.keep [2] [5],.ren 5 30000,.keep [2] [30000]] rfl ⟨⟨⟨tt_,rfl⟩,rfl⟩,⟨Qf,Qdm hk5 Qf,Qch,Qe8 Qf⟩⟩ ?_
  cases h
  exact AK.done (ex_ [_] (an_ (an_ rfl tt_) (gives ⟨rfl,tt_⟩)))
def Qbz (x8:(Bool×Qak))(n10:Int):Option (Int×Bool):=
 (Qb7 x8.2 n10).bind fun x11=>
 bif (!x11)then
 some (0,false)
 else
 some (n10,true)
def Qdo (l1:(List QA))(k2:Int)(n3:Int):Option (Int×Bool):=
 (Qd8 l1 k2).bind fun x8=>
 bif (!x8.1)then
 some (0,false)
 else
 (QbS x8.2).bind fun x13=>
 bif (x13.Kind==1)then
 bif ((decide (n3<x13.Lo))||(decide (x13.Hi<n3)))then
 some (0,false)
 else
 Qbz x8 (w64 (n3-x13.Lo))
 else
 Qbz x8 n3
theorem QpE (l1:(List QA))(k2:Int)(n3:Int){r:(Int×Bool)}(h:Qdo l1 k2 n3=some r):Qc Tryz.prog 141 [.sl 7 (l1.map Qx),.i .i64 k2,.i .i64 n3] [] (Gives (.tup [.i .i64 r.1,.b r.2]) []):=by
 refine Qc.walk 43 Tryz.func141 rfl Tryz.ntmps141 rfl fun C hC=>?_
 unfold Qdo at h
 obtain⟨x8,hx8,h⟩:=Qb h
 refine Qa hC [.n 10,.o (.c false [.d,.d] (.tup [.agg (QM x8.2),.b x8.1])),.n 5,.sayO 8 (.var (QM x8.2)),.n 10] rfl ⟨⟨tt_,(Qlu _ _ hx8)⟩,rfl⟩ ?_
 rcases bifE h with⟨hc9,h⟩|⟨hc9,h⟩
 ·refine Qa hC [.br true,.n 8,.keep [6,7] []] rfl ⟨tt_,hc9⟩ ?_
  cases h
  exact AK.done (ex_ [_,_] (an_ (an_ rfl (an_ rfl tt_)) (gives tt_)))
 ·refine Qa hC [.br false,.n 2] rfl ⟨tt_,hc9⟩ ?_
  refine AK.meet (fun σ=>∃n10:Int,σ=⟨[(2,.i .i64 n10),(8,.loc 8 0 0)],[(8,.var (QM x8.2))]⟩∧Qbz x8 n10=some r) ?_ ?_
  ·obtain⟨x13,hx13,h⟩:=Qb h
   refine Qa hC [.n 2,.v .no [] (.agg (QM x8.2)),.o (.c false [.d] (.agg (Qx x13))),.n 2,.sayO 10 (.var (Qx x13)),.n 9] rfl ⟨⟨⟨tt_,rfl⟩,(QgM _ hx13)⟩,rfl⟩ ?_
   rcases bifE h with⟨hc14,h⟩|⟨hc14,h⟩
   ·refine Qa hC [.br true,.n 2] rfl ⟨tt_,hc14⟩ ?_
    refine AK.meetX (fun σ=>σ=⟨[(2,.i .i64 n3),(8,.loc 8 0 0),(10,.loc 10 0 0),(33,.b ((decide (n3<x13.Lo))||(decide (x13.Hi<n3))))],[(8,.var (QM x8.2)),(10,.var (Qx x13))]⟩) ?_ ?_
    ·refine Qa hC [.n 6] rfl tt_ ?_
     rcases QG (decide (n3<x13.Lo))with hc16 | hc16
     ·refine Qa hC [.say 28 (.b true),.n 6,.say 33 (.b ((decide (n3<x13.Lo))||(decide (x13.Hi<n3)))),.keep [2,8,10,33] [8,10]] rfl ⟨⟨tt_,(congrArg V.b hc16)⟩,(congrArg V.b (orT hc16 rfl))⟩ ?_
      exact AK.met rfl
     ·refine Qa hC [.say 28 (.b false),.n 6,.say 33 (.b ((decide (n3<x13.Lo))||(decide (x13.Hi<n3)))),.keep [2,8,10,33] [8,10]] rfl ⟨⟨tt_,(congrArg V.b hc16)⟩,(congrArg V.b (orF hc16 rfl))⟩ ?_
      exact AK.met rfl
    ·rintro σ rfl
     refine Qa hC [.n 1] rfl tt_ ?_
     rcases bifE h with⟨hc17,h⟩|⟨hc17,h⟩
     ·refine Qa hC [.br true,.n 9,.keep [6,7] []] rfl ⟨tt_,hc17⟩ ?_
      cases h
      exact AK.done (ex_ [_,_] (an_ (an_ rfl (an_ rfl tt_)) (gives tt_)))
     ·refine Qa hC [.br false,.n 9,.keep [2,8] [8]] rfl ⟨tt_,hc17⟩ ?_
      exact AK.met (ex_ _ (an_ rfl h))
   ·refine Qa hC [.br false,.n 1,.keep [2,8] [8]] rfl ⟨tt_,hc14⟩ ?_
    exact AK.met (ex_ _ (an_ rfl h))
  ·rintro σ ⟨n10,rfl,h⟩
   unfold Qbz at h
   obtain⟨x11,hx11,h⟩:=Qb h
   refine Qa hC [.n 3,.v .no [] (.agg (QM x8.2)),.n 1,.o (.c false [.d,.d] (.b x11)),.n 3] rfl ⟨⟨tt_,rfl⟩,(Qlr _ _ hx11)⟩ ?_
   rcases bifE h with⟨hc12,h⟩|⟨hc12,h⟩
   ·refine Qa hC [.br true,.n 8,.keep [6,7] []] rfl ⟨tt_,hc12⟩ ?_
    cases h
    exact AK.done (ex_ [_,_] (an_ (an_ rfl (an_ rfl tt_)) (gives tt_)))
   ·refine Qa hC [.br false,.n 10,.keep [6,7] []] rfl ⟨tt_,hc12⟩ ?_
    cases h
    exact AK.done (ex_ [_,_] (an_ (an_ rfl (an_ rfl tt_)) (gives tt_)))
def QbV (m1:QBg):Option Unit:=
 some ()
theorem QjR (m1:QBg){r:Unit}(h:QbV m1=some r):Qc Tryz.prog 207 [.map 200000] [(200000,.map (mapV (V.i .i64) (V.i .i64) m1))] (Gives (.clo (.func 250) [] [.loc 1 0 0]) [(1,.var [.map 200000]),(200000,.map (mapV (V.i .i64) (V.i .i64) m1))]):=by
 refine Qc.walk 4 Tryz.func207 rfl Tryz.ntmps207 rfl fun C hC=>?_
 unfold QbV at h
 refine Qa hC [.n 13,.keep [2] [1,200000]] rfl tt_ ?_
 cases h
 exact AK.done (ex_ [_] (an_ (an_ rfl tt_) (gives ⟨rfl,rfl,tt_⟩)))
def Qba (l1:(List Int))(p2:Int):Option (List Int):=
 (chk (decide (l1.length+([p2]:List Int).length≤4294967296))).bind fun _=>
 some (l1++([p2]:List Int))
theorem Qis (lpl lpf:Nat)(l1:(List Int))(p2:Int){r:(List Int)}(h:Qba l1 p2=some r):QlS Tryz.prog lpl (Qfx lpf) [.J,.J,.loc 200001 0 0,.J,.J,.J,.J,.i .i64 p2,.J,.J,.J,.J,.J] [(200000,.lp lpl (Qfx lpf) [.J,.J,.loc 200001 0 0,.J,.J,.J,.J,.J,.J,.J,.J,.J,.J] 0),(200001,.var [.own 100000 l1.length]),(100000,.arr 1 (l1.map Qe))] (Gives (.b true) [(100000,.arr 1 (r.map Qe)),(200000,.lp lpl (Qfx lpf) [.J,.J,.loc 200001 0 0,.J,.J,.J,.J,.J,.J,.J,.J,.J,.J] 0),(200001,.var [.own 100000 r.length])]):=by
 refine QlS.walk (b:=200000) 13 rfl rfl fun C hC=>?_
 unfold Qba at h
 refine Qa hC [.n 3] rfl tt_ ?_
 refine AK.done (an_ rfl (ex_ _ (an_ rfl ?_)))
 obtain⟨_,hk4,h⟩:=Qb h
 replace hk4:=chkE hk4
 refine Qa hC [.n 4,.v (.bd []) [] (.sl 1 (([p2]:List Int).map Qe)),.app ((l1++([p2]:List Int)).map Qe) (l1++([p2]:List Int)).length,.n 1,.sayO 200001 (.var [.own 100000 (l1++([p2]:List Int)).length]),.n 2,.keep [] [100000,200000,200001]] rfl ⟨⟨⟨tt_,rfl⟩,⟨Qf,Qdm hk4 Qf,Qch,Qe8 Qf⟩⟩,rfl⟩ ?_
 cases h
 refine AK.done ?_
 exact ex_ _ (an_ rfl (gives ⟨rfl,rfl,rfl,tt_⟩))
theorem Qjm (lpl lpf:Nat)(l1:(List Int))(m2:QBg)(hlen:l1.length+m2.length≤4294967296):Qc Tryz.prog 250 [.clo (.yield lpl) [] [],.loc 200002 0 0] [(200000,.lp lpl (Qfx lpf) [.J,.J,.loc 200001 0 0,.J,.J,.J,.J,.J,.J,.J,.J,.J,.J] 0),(200001,.var [.own 100000 l1.length]),(100000,.arr 1 (l1.map Qe)),(200002,.var [.map 200003]),(200003,.map (mapV (V.i .i64) (V.i .i64) m2))] (fun v hs=>∃r:List Int,r.Perm (l1++m2.map Prod.fst)∧Gives (.tup []) [(100000,.arr 1 (r.map Qe)),(200000,.lp lpl (Qfx lpf) [.J,.J,.loc 200001 0 0,.J,.J,.J,.J,.J,.J,.J,.J,.J,.J] 0),(200001,.var [.own 100000 r.length]),(200002,.var [.map 200003]),(200003,.map (mapV (V.i .i64) (V.i .i64) m2))] v hs):=by
 refine Qc.walk 14 Tryz.func250 rfl Tryz.ntmps250 rfl fun C hC=>?_
 refine Qa hC [.n 3] rfl tt_ ?_
 refine AK.openMap (b:=200003) ky_3 rfl fun bm4 cl4 L4 hbn4 hpm4=>?_
 refine Qa hC [.x (fun σ=>(σ.set 5 (.itr bm4 cl4 #[] none)).put 5 (.loc 5 0 0)),.n 3,.keep [0,5] [5,100000,200000,200001,200002,200003]] rfl ⟨tt_,(Stp.range (b:=200003) rfl rfl (bleN hC.n rfl) rfl rfl Qeg rfl)⟩ ?_
 have hL0:Qa3 L4 #[]=L4:=by simp [Qa3]
 have hp0:(l1++(Qa3 L4 #[]).map (fun q=>q.2.1)).Perm (l1++m2.map Prod.fst):=by
  rw [hL0]
  refine List.Perm.append_left l1 ?_
  have:=hpm4.map Prod.fst
  rwa [List.map_map]at this
 refine AK.range (body:=cntM) (fun (_:Nat) seen σ=>∃(cur:Option MapEntry) (st:List Int),(st++(Qa3 L4 seen).map (fun q=>q.2.1)).Perm (l1++m2.map Prod.fst)∧σ=⟨[(0,.clo (.yield lpl) [] []),(5,.loc 5 0 0)],[(5,.itr bm4 cl4 seen cur),(100000,.arr 1 (st.map Qe)),(200000,.lp lpl (Qfx lpf) [.J,.J,.loc 200001 0 0,.J,.J,.J,.J,.J,.J,.J,.J,.J,.J] 0),(200001,.var [.own 100000 st.length]),(200002,.var [.map 200003]),(200003,.mapX bm4 cl4 (typV (V.i .i64) (V.i .i64) L4) (mapV (V.i .i64) (V.i .i64) m2))]⟩) (fun (q:Empty) _ _=>False) (fun _ e σ=>∃st:List Int,st.Perm (l1++m2.map Prod.fst)∧e=.exit 0∧σ=⟨[],[(100000,.arr 1 (st.map Qe)),(200000,.lp lpl (Qfx lpf) [.J,.J,.loc 200001 0 0,.J,.J,.J,.J,.J,.J,.J,.J,.J,.J] 0),(200001,.var [.own 100000 st.length]),(200002,.var [.map 200003]),(200003,.mapX bm4 cl4 (typV (V.i .i64) (V.i .i64) L4) (mapV (V.i .i64) (V.i .i64) m2))]⟩) hbn4 hpm4 (QvQ m2 0) (ex_ _ (ex_ l1 (an_ hp0 rfl))) ?_ ?_
 ·rintro n0 seen σ ⟨cur,l6,hpp,rfl⟩ hex
  refine Qa hC [.n 2] rfl tt_ ?_
  refine AK.nextT (b:=5) (m:=200003) rfl rfl rfl (bleN hC.n rfl) rfl rfl rfl rfl ?_ ?_
  ·intro hleft
   refine Qa hC [.n 7,.keep [] [100000,200000,200001,200002,200003]] rfl tt_ ?_
   exact AK.done (Or.inl (an_ hleft (an_ (fun h=>(by cases h)) (ex_ l6 (an_ (by simpa [hleft] using hpp) (an_ rfl rfl))))))
  ·intro xk8 k8 v9 hq5
   have hpk:=(Qot hbn4 hq5).map (fun q=>q.2.1)
   have hp2:((l6++[k8])++(Qa3 L4 (seen.push xk8.born)).map (fun q=>q.2.1)).Perm (l1++m2.map Prod.fst):=List.Perm.trans (by simpa using (List.Perm.append_left l6 hpk).symm) hpp
   have hl2:l6.length+([k8]:List Int).length≤4294967296:=by
    have:=hp2.length_eq
    simp at this ⊢
    omega
   have hx10:Qba l6 k8=some (l6++[k8]):=by
    unfold Qba
    rw [decide_eq_true hl2];rfl
   obtain⟨x10,hxe⟩:∃x,x=l6++[k8]:=⟨_,rfl⟩
   rw [←hxe]at hx10 hp2
   refine Qa hC [.n 10,.x (fun σ=>σ.put 8 (.tup [.i .i64 k8,.i .i64 v9])),.n 8,.x (fun σ=>(σ.after [100000] [(100000,.arr 1 (x10.map Qe)),(200000,.lp lpl (Qfx lpf) [.J,.J,.loc 200001 0 0,.J,.J,.J,.J,.J,.J,.J,.J,.J,.J] 0),(200001,.var [.own 100000 x10.length])]).put 12 (.b true)),.n 6,.keep [0,5] [5,100000,200000,200001,200002,200003]] rfl ⟨⟨tt_,(Stp.entryT (b:=5) (m:=200003) rfl rfl (bleN hC.n rfl) rfl hq5 rfl rfl)⟩,(Stp.yieldV (b:=200000) (M:=[(200000,200000),(200001,200001),(100000,100000)]) (N:=[(100000,100000),(200000,200000),(200001,200001)]) (dead:=[100000]) (ms:=[.d,.d,.d,.d,.d,.d,.d,.d,.d,.d,.d,.d,.d]) (outs:=[(100000,.arr 1 (x10.map Qe)),(200000,.lp lpl (Qfx lpf) [.J,.J,.loc 200001 0 0,.J,.J,.J,.J,.J,.J,.J,.J,.J,.J] 0),(200001,.var [.own 100000 x10.length])]) (r:=.b true) rfl rfl rfl rfl rfl rfl rfl (bleN hC.n rfl) hC.g rfl rfl (Qis _ _ _ _ hx10))⟩ ?_
   exact AK.done (Or.inr (ex_ _ (an_ hq5 (Or.inl (ex_ (n0+1) (an_ rfl (an_ rfl (ex_ _ (ex_ x10 (an_ hp2 rfl))))))))))
 ·rintro e σ ⟨l6,hpp,rfl,rfl⟩
  refine Qa hC [.n 1] rfl tt_ ?_
  refine AK.closeMap (b:=200003) rfl ?_
  refine Qa hC [.keep [] [100000,200000,200001,200002,200003]] rfl tt_ ?_
  refine AK.done ?_
  exact ex_ [] (an_ tt_ (ex_ l6 (an_ hpp (gives ⟨rfl,rfl,rfl,rfl,rfl,tt_⟩))))
theorem Qlq (m1:QBg)(hlen:m1.length≤4294967296):Qc Tryz.prog 261 [.lit (.slice none 0 0),.clo (.func 250) [] [.loc 200000 0 0]] [(200000,.var [.map 200001]),(200001,.map (mapV (V.i .i64) (V.i .i64) m1))] (fun v hs=>∃r:List Int,r.Perm (m1.map Prod.fst)∧Gives (.own 30000 r.length) [(30000,.arr 1 (r.map Qe)),(200000,.var [.map 200001]),(200001,.map (mapV (V.i .i64) (V.i .i64) m1))] v hs):=by
 refine Qc.walkR 13 Tryz.func261 rfl Tryz.ntmps261 rfl fun C hC hR=>?_
 refine Qa hC [.n 13,.keep [2,4,6] [2,200000,200001]] rfl tt_ ?_
 refine Qa hC [.adoptO 2 0 45040 1,.sayO 45040 (.arr 1 (([]:List Int).map Qe)),.sayO 2 (.var [.own 45040 ([]:List Int).length])] rfl ⟨⟨tt_,rfl⟩,rfl⟩ ?_
 refine AK.rangeFE (ι:=List Int) (Φ:=fun x=>x.Perm (m1.map Prod.fst)) 60000 [2] [(200000,60000),(200001,2),(100000,45040),(200002,200000),(200003,200001)] [(45040,100000),(60000,200000),(2,200001),(200000,200002),(200001,200003)] [45040] [.d,.d] Qfx hC hR (fun _=>rfl) rfl rfl rfl rfl fun lpl lpf=>?_
 refine ex_ (fun x3:List Int=>[(100000,.arr 1 (x3.map Qe)),(200000,.lp lpl (Qfx lpf) [.J,.J,.loc 200001 0 0,.J,.J,.J,.J,.J,.J,.J,.J,.J,.J] 0),(200001,.var [.own 100000 x3.length]),(200002,.var [.map 200003]),(200003,.map (mapV (V.i .i64) (V.i .i64) m1))]) (ex_ (fun _=>.tup []) (ex_ (fun x3=>_) (ex_ _ (ex_ _ (an_ rfl (an_ rfl (an_ (Qjm _ _ ([]:List Int) m1 (by simpa using hlen)) fun x3=>ex_ _ (ex_ [.J,.J,.loc 2 0 0,.J,.J,.J,.J,.J,.J,.J,.J,.J,.J] (ex_ 0 (an_ rfl (an_ rfl (an_ (bne_iff_ne.1 (show(0 != 1)=true from rfl)) fun hpp=>?_))))))))))))
 refine atJ0 rfl ?_
 refine Qa hC [.n 9,.keep [4] [45040,200000,200001],.ren 45040 30000,.keep [4] [30000,200000,200001]] rfl tt_ ?_
 exact AK.done (ex_ [_] (an_ (an_ rfl tt_) (ex_ x3 (an_ hpp (gives ⟨rfl,rfl,rfl,tt_⟩)))))
theorem Qnh (m1:QBg)(hlen:m1.length≤4294967296):Qc Tryz.prog 249 [.clo (.func 250) [] [.loc 200000 0 0]] [(200000,.var [.map 200001]),(200001,.map (mapV (V.i .i64) (V.i .i64) m1))] (fun v hs=>∃r:List Int,r.Perm (m1.map Prod.fst)∧Gives (.own 30000 r.length) [(30000,.arr 1 (r.map Qe)),(200000,.var [.map 200001]),(200001,.map (mapV (V.i .i64) (V.i .i64) m1))] v hs):=by
 refine Qc.walk 5 Tryz.func249 rfl Tryz.ntmps249 rfl fun C hC=>?_
 refine Qa hC [.n 8] rfl tt_ ?_
 refine AK.callE (ι:=List Int) (Φ:=fun x=>x.Perm (m1.map Prod.fst)) [(200000,200000),(200001,200001)] [(4,30000),(200000,200000),(200001,200001)] [] [.d,.d] (fun x3=>[(30000,.arr 1 (x3.map Qe)),(200000,.var [.map 200001]),(200001,.map (mapV (V.i .i64) (V.i .i64) m1))]) (fun x3=>(.own 30000 x3.length)) (fun x3=>_) rfl hC (Qbm.fn rfl rfl rfl) rfl (bleN hC.n rfl) rfl rfl (Qlq m1 hlen) (fun x3=>ex_ _ rfl) fun x3 hpp=>?_
 refine Qa hC [.n 4,.keep [2] [4,200000,200001],.ren 4 30000,.keep [2] [30000,200000,200001]] rfl tt_ ?_
 exact AK.done (ex_ [_] (an_ (an_ rfl tt_) (ex_ x3 (an_ hpp (gives ⟨rfl,rfl,rfl,tt_⟩)))))
def QaW (l:List Int):Option (List Int):=(chk (decide (l.length<4611686018427387904))).bind fun _=>some (Qd5 l)
theorem QfF (l:List Int){r:List Int}(h:QaW l=some r):Qc Tryz.prog 38 [.own 200000 l.length] [(200000,.arr 1 (l.map Qe))] (Gives (.tup []) [(200000,.arr 1 (r.map Qe))]):=by
 unfold QaW at h
 obtain⟨_,h1,h⟩:=Qb h
 cases h
 exact Qui QvV l (of_decide_eq_true (chkE h1))
def Qf7 (m1:QBg):Option (List Int):=
 (chk (decide (m1.length≤4294967296))).bind fun _=>
 some (Qd5 (m1.map Prod.fst))
theorem QnJ (m1:QBg){r:(List Int)}(h:Qf7 m1=some r):Qc Tryz.prog 206 [.clo (.func 250) [] [.loc 200000 0 0]] [(200000,.var [.map 200001]),(200001,.map (mapV (V.i .i64) (V.i .i64) m1))] (Gives (.own 30000 r.length) [(30000,.arr 1 (r.map Qe)),(200000,.var [.map 200001]),(200001,.map (mapV (V.i .i64) (V.i .i64) m1))]):=by
 refine Qc.walk 9 Tryz.func206 rfl Tryz.ntmps206 rfl fun C hC=>?_
 unfold Qf7 at h
 obtain⟨_,hlen,h⟩:=Qb h
 replace hlen:=of_decide_eq_true (chkE hlen)
 cases h
 refine Qa hC [.n 8] rfl tt_ ?_
 refine AK.callE (ι:=List Int) (Φ:=fun x=>x.Perm (m1.map Prod.fst)) [(200000,200000),(200001,200001)] [(5,30000),(200000,200000),(200001,200001)] [] [.d] (fun x3=>[(30000,.arr 1 (x3.map Qe)),(200000,.var [.map 200001]),(200001,.map (mapV (V.i .i64) (V.i .i64) m1))]) (fun x3=>(.own 30000 x3.length)) (fun x3=>_) rfl hC (Qbm.fn rfl rfl rfl) rfl (bleN hC.n rfl) rfl rfl (Qnh m1 hlen) (fun x3=>ex_ _ rfl) fun x3 hpp=>?_
 have hx4:QaW x3=some (Qd5 (m1.map Prod.fst)):=by
  unfold QaW
  rw [decide_eq_true (by have:=hpp.length_eq;simp at this;omega),Qu5 hpp];rfl
 have hk5:(Qd5 (m1.map Prod.fst)).length=x3.length:=by rw [QkD,hpp.length_eq]
 refine Qa hC [.n 6,.cm (.fn) [(200000,5)] [(5,200000)] [] [.d] [(200000,.arr 1 (((Qd5 (m1.map Prod.fst))).map Qe))] (.tup []),.say 3 (.own 5 (Qd5 (m1.map Prod.fst)).length),.say 5 (.own 5 (Qd5 (m1.map Prod.fst)).length),.say 6 (.own 5 (Qd5 (m1.map Prod.fst)).length),.n 9,.keep [2] [5,200000,200001],.ren 5 30000,.keep [2] [30000,200000,200001]] rfl ⟨⟨⟨⟨tt_,(QfF _ hx4)⟩,(by simp [hk5])⟩,(by simp [hk5])⟩,(by simp [hk5])⟩ ?_
 exact AK.done (ex_ [_] (an_ (an_ rfl tt_) (gives ⟨rfl,rfl,rfl,tt_⟩)))
def Qcz (x6:Int)(l12:QBg):Option ((Int×QBg)⊕QBg):=
 some (.inl ((w64 (x6+1)),l12))
def QaV (x4:(List Int))(m1:QBg)(x6:Int)(l7:QBg):Option ((Int×QBg)⊕QBg):=
 bif (decide (x6<(x4.length:Int)))then
 (idx x4 x6).bind fun e13=>
 bif (decide (0<((mget m1 e13).getD 0)))then
 (chk (decide (l7.length+([(e13,((mget m1 e13).getD 0))]:List (Int×Int)).length≤4294967296))).bind fun _=>
 Qcz x6 (l7++([(e13,((mget m1 e13).getD 0))]:List (Int×Int)))
 else
 Qcz x6 l7
 else
 some (.inr l7)
def Qit (l10:QBg):Option QBg:=
 some l10
def QcS (m1:QBg):Option QBg:=
 (QbV m1).bind fun x3=>
 (Qf7 m1).bind fun x4=>
 (QC (fun st=>QaV x4 m1 st.1 st.2) (0,([]:List (Int×Int)))).bind (fun q=>Qit q)
theorem Qiu (m1:QBg){r:QBg}(h:QcS m1=some r):Qc Tryz.prog 147 [.map 200000] [(200000,.map (mapV (V.i .i64) (V.i .i64) m1))] (Gives (.own 30000 r.length) [(30000,.arr 2 (r.map Qy)),(200000,.map (mapV (V.i .i64) (V.i .i64) m1))]):=by
 refine Qc.walk 28 Tryz.func147 rfl Tryz.ntmps147 rfl fun C hC=>?_
 unfold QcS at h
 obtain⟨x3,hx3,h⟩:=Qb h
 obtain⟨x4,hx4,h⟩:=Qb h
 refine Qa hC [.n 14,.cm (.fn) [(200000,200000)] [(7,1),(200000,200000)] [] [.d] [(1,.var [.map 200000]),(200000,.map (mapV (V.i .i64) (V.i .i64) m1))] (.clo (.func 250) [] [.loc 1 0 0]),.cm (.fn) [(200000,7),(200001,200000)] [(8,30000),(7,200000),(200000,200001)] [] [.d] [(30000,.arr 1 (x4.map Qe)),(200000,.var [.map 200001]),(200001,.map (mapV (V.i .i64) (V.i .i64) m1))] (.own 30000 x4.length),.n 5,.adopt 3 18 2,.sayO 18 (.arr 2 (([]:List (Int×Int)).map Qy)),.say 3 (.own 18 ([]:List (Int×Int)).length),.keep [0,3,8,9,10] [8,18,200000]] rfl ⟨⟨⟨⟨tt_,(QjR _ hx3)⟩,(QnJ _ hx4)⟩,rfl⟩,(congrArg (fun n=>V.own 18 n) (by simp))⟩ ?_
 obtain⟨l10,hl16,h⟩:=Qb h
 refine AK.loop (body:=(fun st=>QaV x4 m1 st.1 st.2)) (fun st σ=>σ=⟨[(0,.map 200000),(3,.own 18 st.2.length),(8,.own 8 x4.length),(9,.i .i64 (x4.length:Int)),(10,.i .i64 st.1)],[(8,.arr 1 (x4.map Qe)),(18,.arr 2 (st.2.map Qy)),(200000,.map (mapV (V.i .i64) (V.i .i64) m1))]⟩) (fun q e σ=>e=.exit 0∧σ=⟨[(3,.own 18 q.length)],[(18,.arr 2 (q.map Qy)),(200000,.map (mapV (V.i .i64) (V.i .i64) m1))]⟩) hl16 rfl ?_ ?_
 ·rintro ⟨x6,l7⟩ o σ rfl h
  replace h:QaV x4 m1 x6 l7=some o:=h
  unfold QaV at h
  refine Qa hC [.n 6] rfl tt_ ?_
  rcases bifE h with⟨hc11,h⟩|⟨hc11,h⟩
  ·refine Qa hC [.br true,.n 2] rfl ⟨tt_,hc11⟩ ?_
   refine AK.meet (fun σ=>∃l12:QBg,σ=⟨[(0,.map 200000),(3,.own 18 l12.length),(8,.own 8 x4.length),(9,.i .i64 (x4.length:Int)),(10,.i .i64 x6)],[(8,.arr 1 (x4.map Qe)),(18,.arr 2 (l12.map Qy)),(200000,.map (mapV (V.i .i64) (V.i .i64) m1))]⟩∧Qcz x6 l12=some o) ?_ ?_
   ·obtain⟨e13,he13,h⟩:=Qb h
    refine Qa hC [.n 4,.o (.row (Qe e13)),.n 7,.o (.any (.i .i64 ((mget m1 e13).getD 0)) none),.n 3] rfl ⟨⟨⟨tt_,(Qd4 he13 rfl)⟩,(Qcm (idxE he13).2)⟩,(fun σ h1 h2 _=>Stp.lookup (e:=(V.i .i64)) (f:=(V.i .i64)) (l:=m1) (k:=e13) (z:=0) rfl rfl (bleN hC.n rfl) (h1 _ _ rfl) (h2 _ _ rfl) (h1 _ _ rfl) Qeg ky_3 zi_3 rfl)⟩ ?_
    rcases bifE h with⟨hc14,h⟩|⟨hc14,h⟩
    ·obtain⟨_,hk15,h⟩:=Qb h
     replace hk15:=chkE hk15
     refine Qa hC [.br true,.n 5,.o (.any (.i .i64 ((mget m1 e13).getD 0)) none),.v .no [] (.agg (Qy (e13,((mget m1 e13).getD 0)))),.v (.bd []) [] (.sl 2 (([(e13,((mget m1 e13).getD 0))]:List (Int×Int)).map Qy)),.app ((l7++([(e13,((mget m1 e13).getD 0))]:List (Int×Int))).map Qy) (l7++([(e13,((mget m1 e13).getD 0))]:List (Int×Int))).length,.n 3,.keep [0,3,8,9,10] [8,18,200000]] rfl ⟨⟨⟨⟨⟨tt_,hc14⟩,(fun σ h1 h2 _=>Stp.lookup (e:=(V.i .i64)) (f:=(V.i .i64)) (l:=m1) (k:=e13) (z:=0) rfl rfl (bleN hC.n rfl) (h1 _ _ rfl) (h2 _ _ rfl) (h1 _ _ rfl) Qeg ky_3 zi_3 rfl)⟩,rfl⟩,rfl⟩,⟨Qf,Qdm hk15 Qf,Qch,Qe8 Qf⟩⟩ ?_
     exact AK.met (ex_ _ (an_ rfl h))
    ·refine Qa hC [.br false,.n 2,.keep [0,3,8,9,10] [8,18,200000]] rfl ⟨tt_,hc14⟩ ?_
     exact AK.met (ex_ _ (an_ rfl h))
   ·rintro σ ⟨l12,rfl,h⟩
    unfold Qcz at h
    refine Qa hC [.n 4,.keep [0,3,8,9,10] [8,18,200000]] rfl tt_ ?_
    cases h
    exact rndN rfl rfl
  ·refine Qa hC [.br false,.n 2,.keep [3] [18,200000]] rfl ⟨tt_,hc11⟩ ?_
   cases h
   exact rndX rfl (an_ rfl rfl)
 ·replace h:Qit l10=some r:=h
  unfold Qit at h
  rintro e σ ⟨rfl,rfl⟩
  refine Qa hC [.n 9,.keep [2] [18,200000],.ren 18 30000,.keep [2] [30000,200000]] rfl tt_ ?_
  cases h
  exact AK.done (ex_ [_] (an_ (an_ rfl tt_) (gives ⟨rfl,rfl,tt_⟩)))
def QjS (x4:Int)(m10:QBg):Option ((Int×QBg)⊕QBg):=
 some (.inl ((w64 (x4+1)),m10))
def Qdj (l1:(List Int))(x4:Int)(m5:QBg):Option ((Int×QBg)⊕QBg):=
 bif (decide (x4<(l1.length:Int)))then
 (idx l1 x4).bind fun e11=>
 bif (decide (0≤e11))then
 QjS x4 (mset ltI m5 e11 (min2 (w64 (((mget m5 e11).getD 0)+1)) 1048576))
 else
 QjS x4 m5
 else
 some (.inr m5)
def QjT (m8:QBg):Option QBg:=
 (QcS m8).bind fun x14=>
 some x14
def QmR (l1:(List Int)):Option QBg:=
 (QC (fun st=>Qdj l1 st.1 st.2) (0,([]:QBg))).bind (fun q=>QjT q)
theorem Qum (l1:(List Int)){r:QBg}(h:QmR l1=some r):Qc Tryz.prog 142 [.sl 1 (l1.map Qe)] [] (Gives (.own 30000 r.length) [(30000,.arr 2 (r.map Qy))]):=by
 refine Qc.walk 25 Tryz.func142 rfl Tryz.ntmps142 rfl fun C hC=>?_
 unfold QmR at h
 refine Qa hC [.n 8,.sayO 6 (.map (mapV (V.i .i64) (V.i .i64) ([]:QBg))),.n 7,.o (.ln l1.length),.n 4,.keep [3,7,8,9] [6]] rfl ⟨⟨tt_,rfl⟩,Qf⟩ ?_
 obtain⟨m8,hl13,h⟩:=Qb h
 refine AK.loop (body:=(fun st=>Qdj l1 st.1 st.2)) (fun st σ=>σ=⟨[(3,.map 6),(7,.sl 1 (l1.map Qe)),(8,.i .i64 (l1.length:Int)),(9,.i .i64 st.1)],[(6,.map (mapV (V.i .i64) (V.i .i64) st.2))]⟩) (fun q e σ=>e=.exit 0∧σ=⟨[(3,.map 6)],[(6,.map (mapV (V.i .i64) (V.i .i64) q))]⟩) hl13 rfl ?_ ?_
 ·rintro ⟨x4,m5⟩ o σ rfl h
  replace h:Qdj l1 x4 m5=some o:=h
  unfold Qdj at h
  refine Qa hC [.n 6] rfl tt_ ?_
  rcases bifE h with⟨hc9,h⟩|⟨hc9,h⟩
  ·refine Qa hC [.br true,.n 2] rfl ⟨tt_,hc9⟩ ?_
   refine AK.meet (fun σ=>∃m10:QBg,σ=⟨[(3,.map 6),(7,.sl 1 (l1.map Qe)),(8,.i .i64 (l1.length:Int)),(9,.i .i64 x4)],[(6,.map (mapV (V.i .i64) (V.i .i64) m10))]⟩∧QjS x4 m10=some o) ?_ ?_
   ·obtain⟨e11,he11,h⟩:=Qb h
    refine Qa hC [.n 3,.o (.row (Qe e11)),.n 10] rfl ⟨tt_,(idxM he11)⟩ ?_
    rcases bifE h with⟨hc12,h⟩|⟨hc12,h⟩
    ·refine Qa hC [.br true,.n 5,.o (.any (.i .i64 ((mget m5 e11).getD 0)) none),.n 2,.x (fun σ=>σ.set 6 (.map (mapV (V.i .i64) (V.i .i64) (mset ltI m5 e11 (min2 (w64 (((mget m5 e11).getD 0)+1)) 1048576))))),.n 2,.keep [3,7,8,9] [6]] rfl ⟨⟨⟨tt_,hc12⟩,(fun σ h1 h2 _=>Stp.lookup (e:=(V.i .i64)) (f:=(V.i .i64)) (l:=m5) (k:=e11) (z:=0) rfl rfl (bleN hC.n rfl) (h1 _ _ rfl) (h2 _ _ rfl) (h1 _ _ rfl) Qeg ky_3 zi_3 rfl)⟩,(Stp.mapUpdate (e:=(V.i .i64)) (f:=(V.i .i64)) (l:=m5) (k:=e11) (v:=(min2 (w64 (((mget m5 e11).getD 0)+1)) 1048576)) ltI rfl rfl rfl rfl rfl rfl Qeg ky_3 rfl)⟩ ?_
     exact AK.met (ex_ _ (an_ rfl h))
    ·refine Qa hC [.br false,.n 2,.keep [3,7,8,9] [6]] rfl ⟨tt_,hc12⟩ ?_
     exact AK.met (ex_ _ (an_ rfl h))
   ·rintro σ ⟨m10,rfl,h⟩
    unfold QjS at h
    refine Qa hC [.n 4,.keep [3,7,8,9] [6]] rfl tt_ ?_
    cases h
    exact rndN rfl rfl
  ·refine Qa hC [.br false,.n 2,.keep [3] [6]] rfl ⟨tt_,hc9⟩ ?_
   cases h
   exact rndX rfl (an_ rfl rfl)
 ·replace h:QjT m8=some r:=h
  unfold QjT at h
  rintro e σ ⟨rfl,rfl⟩
  obtain⟨x14,hx14,h⟩:=Qb h
  refine Qa hC [.n 5,.cm (.fn) [(200000,6)] [(24,30000),(6,200000)] [] [.d] [(30000,.arr 2 (x14.map Qy)),(200000,.map (mapV (V.i .i64) (V.i .i64) m8))] (.own 30000 x14.length),.n 4,.keep [2] [24],.ren 24 30000,.keep [2] [30000]] rfl ⟨tt_,(Qiu _ hx14)⟩ ?_
  cases h
  exact AK.done (ex_ [_] (an_ (an_ rfl tt_) (gives ⟨rfl,tt_⟩)))
def Qea (b1:QBg)(x6:Int)(m7:QBg):Option ((Int×QBg)⊕QBg):=
 bif (decide (x6<(b1.length:Int)))then
 (idx b1 x6).bind fun e12=>
 some (.inl ((w64 (x6+1)),(mset ltI m7 e12.1 e12.2)))
 else
 some (.inr m7)
def QnK (m10:QBg):Option (Unit⊕QBg):=
 some (.inr m10)
def QiZ (b1:QBg):Option (Unit⊕QBg):=
 (Qce b1).bind fun x3=>
 bif (!x3)then
 some (.inl ())
 else
 (QC (fun st=>Qea b1 st.1 st.2) (0,([]:QBg))).bind (fun q=>QnK q)
theorem Qfe (b1:QBg){r:(Unit⊕QBg)}(h:QiZ b1=some r):Qc Tryz.prog 112 [.sl 2 (b1.map Qy)] [] ((Sum.elim (fun q=>(Gives (.tup [.lit (.map none),.b false]) [])) (fun q=>(Gives (.tup [.map 30002,.b true]) [(30002,.map (mapV (V.i .i64) (V.i .i64) q))]))) r):=by
 refine Qc.walk 24 Tryz.func112 rfl Tryz.ntmps112 rfl fun C hC=>?_
 unfold QiZ at h
 obtain⟨x3,hx3,h⟩:=Qb h
 refine Qa hC [.n 10,.o (.c false [.d] (.b x3)),.n 3] rfl ⟨tt_,(Qfh _ hx3)⟩ ?_
 rcases bifE h with⟨hc4,h⟩|⟨hc4,h⟩
 ·refine Qa hC [.br true,.n 8,.keep [2,3] []] rfl ⟨tt_,hc4⟩ ?_
  cases h
  exact AK.done (ex_ [_,_] (an_ (an_ rfl (an_ rfl tt_)) (gives tt_)))
 ·refine Qa hC [.br false,.n 5,.sayO 10 (.map (mapV (V.i .i64) (V.i .i64) ([]:QBg))),.n 7,.o (.ln b1.length),.n 4,.keep [4,11,12,13] [10]] rfl ⟨⟨⟨tt_,hc4⟩,rfl⟩,Qf⟩ ?_
  obtain⟨m10,hl13,h⟩:=Qb h
  refine AK.loop (body:=(fun st=>Qea b1 st.1 st.2)) (fun st σ=>σ=⟨[(4,.map 10),(11,.sl 2 (b1.map Qy)),(12,.i .i64 (b1.length:Int)),(13,.i .i64 st.1)],[(10,.map (mapV (V.i .i64) (V.i .i64) st.2))]⟩) (fun q e σ=>e=.exit 0∧σ=⟨[(4,.map 10)],[(10,.map (mapV (V.i .i64) (V.i .i64) q))]⟩) hl13 rfl ?_ ?_
  ·rintro ⟨x6,m7⟩ o σ rfl h
   replace h:Qea b1 x6 m7=some o:=h
   unfold Qea at h
   refine Qa hC [.n 6] rfl tt_ ?_
   rcases bifE h with⟨hc11,h⟩|⟨hc11,h⟩
   ·obtain⟨e12,he12,h⟩:=Qb h
    refine Qa hC [.br true,.n 6,.o (.row (Qy e12)),.v .no [] (.agg (Qy e12)),.n 2,.sayO 6 (.var (Qy e12)),.n 8,.x (fun σ=>σ.set 10 (.map (mapV (V.i .i64) (V.i .i64) (mset ltI m7 e12.1 e12.2)))),.n 7,.keep [4,11,12,13] [10]] rfl ⟨⟨⟨⟨⟨tt_,hc11⟩,(idxM he12)⟩,rfl⟩,rfl⟩,(Stp.mapUpdate (e:=(V.i .i64)) (f:=(V.i .i64)) (l:=m7) (k:=e12.1) (v:=e12.2) ltI rfl rfl rfl rfl rfl rfl Qeg ky_3 rfl)⟩ ?_
    cases h
    exact rndN rfl rfl
   ·refine Qa hC [.br false,.n 2,.keep [4] [10]] rfl ⟨tt_,hc11⟩ ?_
    cases h
    exact rndX rfl (an_ rfl rfl)
  ·replace h:QnK m10=some r:=h
   unfold QnK at h
   rintro e σ ⟨rfl,rfl⟩
   refine Qa hC [.n 10,.keep [2,3] [10],.ren 10 30002,.keep [2,3] [30002]] rfl tt_ ?_
   cases h
   exact AK.done (ex_ [_,_] (an_ (an_ rfl (an_ rfl tt_)) (gives ⟨rfl,tt_⟩)))
def Ql5 (a11:Unit):Option (Unit⊕(QBg⊕(QBg⊕(QBg×QBg)))):=
 some (.inl ())
def Ql6 (a12:QBg):Option (Unit⊕(QBg⊕(QBg⊕(QBg×QBg)))):=
 some (.inr (.inl a12))
def Qj5 (b2:QBg)(a8:Unit):Option (Unit⊕(QBg⊕(QBg⊕(QBg×QBg)))):=
 (QiZ b2).bind (Sum.elim (fun q=>Ql5 q) (fun q=>Ql6 q))
def Ql7 (a9:QBg)(a14:Unit):Option (Unit⊕(QBg⊕(QBg⊕(QBg×QBg)))):=
 some (.inr (.inr (.inl a9)))
def Ql8 (a9:QBg)(a15:QBg):Option (Unit⊕(QBg⊕(QBg⊕(QBg×QBg)))):=
 some (.inr (.inr (.inr (a9,a15))))
def Qj6 (b2:QBg)(a9:QBg):Option (Unit⊕(QBg⊕(QBg⊕(QBg×QBg)))):=
 (QiZ b2).bind (Sum.elim (fun q=>Ql7 a9 q) (fun q=>Ql8 a9 q))
def QhR (a1:QBg)(b2:QBg):Option (Unit⊕(QBg⊕(QBg⊕(QBg×QBg)))):=
 (QiZ a1).bind (Sum.elim (fun q=>Qj5 b2 q) (fun q=>Qj6 b2 q))
theorem Qbl (a1:QBg)(b2:QBg){r:(Unit⊕(QBg⊕(QBg⊕(QBg×QBg))))}(h:QhR a1 b2=some r):Qc Tryz.prog 145 [.sl 2 (a1.map Qy),.sl 2 (b2.map Qy)] [] ((Sum.elim (fun q=>(Gives (.tup [.lit (.map none),.lit (.map none),.b false]) [])) (Sum.elim (fun q=>(Gives (.tup [.lit (.map none),.map 30005,.b false]) [(30005,.map (mapV (V.i .i64) (V.i .i64) q))])) (Sum.elim (fun q=>(Gives (.tup [.map 30004,.lit (.map none),.b false]) [(30004,.map (mapV (V.i .i64) (V.i .i64) q))])) (fun q=>(Gives (.tup [.map 30004,.map 30005,.b true]) [(30004,.map (mapV (V.i .i64) (V.i .i64) q.1)),(30005,.map (mapV (V.i .i64) (V.i .i64) q.2))]))))) r):=by
 refine Qc.walk 25 Tryz.func145 rfl Tryz.ntmps145 rfl fun C hC=>?_
 unfold QhR at h
 obtain⟨x7,hx7,h⟩:=Qb h
 refine Qa hC [.n 10] rfl tt_ ?_
 rcases x7 with(a8 | a9)
 ·replace h:Qj5 b2 a8=some r:=h
  unfold Qj5 at h
  obtain⟨x10,hx10,h⟩:=Qb h
  refine Qa hC [.cm (.fn) [] [] [] [.d] [] (.tup [.lit (.map none),.b false]),.n 10] rfl ⟨tt_,(Qfe _ hx7)⟩ ?_
  rcases x10 with(a11 | a12)
  ·replace h:Ql5 a11=some r:=h
   unfold Ql5 at h
   refine Qa hC [.cm (.fn) [] [] [] [.d] [] (.tup [.lit (.map none),.b false]),.n 21,.keep [4,5,6] []] rfl ⟨tt_,(Qfe _ hx10)⟩ ?_
   cases h
   exact AK.done (ex_ [_,_,_] (an_ (an_ rfl (an_ rfl (an_ rfl tt_))) (gives tt_)))
  ·replace h:Ql6 a12=some r:=h
   unfold Ql6 at h
   refine Qa hC [.cm (.fn) [] [(16,30002)] [] [.d] [(30002,.map (mapV (V.i .i64) (V.i .i64) a12))] (.tup [.map 30002,.b true]),.n 21,.keep [4,5,6] [16],.ren 16 30005,.keep [4,5,6] [30005]] rfl ⟨tt_,(Qfe _ hx10)⟩ ?_
   cases h
   exact AK.done (ex_ [_,_,_] (an_ (an_ rfl (an_ rfl (an_ rfl tt_))) (gives ⟨rfl,tt_⟩)))
 ·replace h:Qj6 b2 a9=some r:=h
  unfold Qj6 at h
  obtain⟨x13,hx13,h⟩:=Qb h
  refine Qa hC [.cm (.fn) [] [(11,30002)] [] [.d] [(30002,.map (mapV (V.i .i64) (V.i .i64) a9))] (.tup [.map 30002,.b true]),.n 10] rfl ⟨tt_,(Qfe _ hx7)⟩ ?_
  rcases x13 with(a14 | a15)
  ·replace h:Ql7 a9 a14=some r:=h
   unfold Ql7 at h
   refine Qa hC [.cm (.fn) [] [] [] [.d] [] (.tup [.lit (.map none),.b false]),.n 21,.keep [4,5,6] [11],.ren 11 30004,.keep [4,5,6] [30004]] rfl ⟨tt_,(Qfe _ hx13)⟩ ?_
   cases h
   exact AK.done (ex_ [_,_,_] (an_ (an_ rfl (an_ rfl (an_ rfl tt_))) (gives ⟨rfl,tt_⟩)))
  ·replace h:Ql8 a9 a15=some r:=h
   unfold Ql8 at h
   refine Qa hC [.cm (.fn) [] [(16,30002)] [] [.d] [(30002,.map (mapV (V.i .i64) (V.i .i64) a15))] (.tup [.map 30002,.b true]),.n 21,.keep [4,5,6] [11,16],.ren 11 30004,.keep [4,5,6] [16,30004],.ren 16 30005,.keep [4,5,6] [30004,30005]] rfl ⟨tt_,(Qfe _ hx13)⟩ ?_
   cases h
   exact AK.done (ex_ [_,_,_] (an_ (an_ rfl (an_ rfl (an_ rfl tt_))) (gives ⟨rfl,rfl,tt_⟩)))
def QmS (a8:Unit):Option (QBg×Int):=
 some (([]:List (Int×Int)),1)
def QmT (a9:QBg):Option (QBg×Int):=
 some (([]:List (Int×Int)),1)
def QmU (a10:QBg):Option (QBg×Int):=
 some (([]:List (Int×Int)),1)
def QfG (m14:QBg)(k16:Int)(v17:Int):Option (QBg⊕Unit):=
 bif (decide (1048576<((mget (mset ltI m14 k16 (w64 (((mget m14 k16).getD 0)+v17))) k16).getD 0)))then
 some (.inr ())
 else
 some (.inl (mset ltI m14 k16 (w64 (((mget m14 k16).getD 0)+v17))))
def Qk0 (m14:QBg):Option (QBg×Int):=
 (QcS m14).bind fun x20=>
 some (x20,0)
def QmV : Option (QBg×Int):=
 some (([]:List (Int×Int)),2)
def Qk1 (a11:(QBg×QBg)):Option (QBg×Int):=
 (Qh5 (fun st p=>QfG st p.1 p.2) a11.1 a11.2).bind (Sum.elim (fun q=>Qk0 q) (fun q=>QmV))
def Qbg (a1:QBg)(b2:QBg):Option (QBg×Int):=
 (QhR a1 b2).bind (Sum.elim (fun q=>QmS q) (Sum.elim (fun q=>QmT q) (Sum.elim (fun q=>QmU q) (fun q=>Qk1 q))))
theorem QpF (a1:QBg)(b2:QBg){r:(QBg×Int)}(h:Qbg a1 b2=some r):Qc Tryz.prog 96 [.sl 2 (a1.map Qy),.sl 2 (b2.map Qy)] [] (Gives (.tup [.sl 2 (r.1.map Qy),.i .i64 r.2]) []):=by
 refine Qc.walk 38 Tryz.func96 rfl Tryz.ntmps96 rfl fun C hC=>?_
 unfold Qbg at h
 obtain⟨x7,hx7,h⟩:=Qb h
 refine Qa hC [.n 10] rfl tt_ ?_
 rcases x7 with(a8 | (a9 | (a10 | a11)))
 ·replace h:QmS a8=some r:=h
  unfold QmS at h
  refine Qa hC [.cm (.fn) [] [] [] [.d,.d] [] (.tup [.lit (.map none),.lit (.map none),.b false]),.n 25,.denil 4 [some 2],.keep [4,5] []] rfl ⟨tt_,(Qbl _ _ hx7)⟩ ?_
  cases h
  exact AK.done (ex_ [_,_] (an_ (an_ rfl (an_ rfl tt_)) (gives tt_)))
 ·replace h:QmT a9=some r:=h
  unfold QmT at h
  refine Qa hC [.cm (.fn) [] [(14,30005)] [] [.d,.d] [(30005,.map (mapV (V.i .i64) (V.i .i64) a9))] (.tup [.lit (.map none),.map 30005,.b false]),.n 25,.denil 4 [some 2],.keep [4,5] []] rfl ⟨tt_,(Qbl _ _ hx7)⟩ ?_
  cases h
  exact AK.done (ex_ [_,_] (an_ (an_ rfl (an_ rfl tt_)) (gives tt_)))
 ·replace h:QmU a10=some r:=h
  unfold QmU at h
  refine Qa hC [.cm (.fn) [] [(14,30004)] [] [.d,.d] [(30004,.map (mapV (V.i .i64) (V.i .i64) a10))] (.tup [.map 30004,.lit (.map none),.b false]),.n 25,.denil 4 [some 2],.keep [4,5] []] rfl ⟨tt_,(Qbl _ _ hx7)⟩ ?_
  cases h
  exact AK.done (ex_ [_,_] (an_ (an_ rfl (an_ rfl tt_)) (gives tt_)))
 ·replace h:Qk1 a11=some r:=h
  unfold Qk1 at h
  refine Qa hC [.cm (.fn) [] [(14,30004),(50000,30005)] [] [.d,.d] [(30004,.map (mapV (V.i .i64) (V.i .i64) a11.1)),(30005,.map (mapV (V.i .i64) (V.i .i64) a11.2))] (.tup [.map 30004,.map 30005,.b true]),.n 23] rfl ⟨tt_,(Qbl _ _ hx7)⟩ ?_
  refine AK.openMap (b:=50000) ky_3 rfl fun bm12 cl12 L12 hbn12 hpm12=>?_
  refine Qa hC [.x (fun σ=>(σ.set 21 (.itr bm12 cl12 #[] none)).put 21 (.loc 21 0 0)),.n 3,.keep [6,21] [14,21,50000]] rfl ⟨tt_,(Stp.range (b:=50000) rfl rfl (bleN hC.n rfl) rfl rfl Qeg rfl)⟩ ?_
  obtain⟨o19,hl19,h⟩:=Qb h
  refine AK.range (body:=(fun st p=>QfG st p.1 p.2)) (fun st seen σ=>∃cur:Option MapEntry,σ=⟨[(6,.map 14),(21,.loc 21 0 0)],[(14,.map (mapV (V.i .i64) (V.i .i64) st)),(21,.itr bm12 cl12 seen cur),(50000,.mapX bm12 cl12 (typV (V.i .i64) (V.i .i64) L12) (mapV (V.i .i64) (V.i .i64) a11.2))]⟩) (fun q e σ=>e=.ret∧σ=⟨[(4,.lit (.slice none 0 0)),(5,.i .i64 2)],[]⟩) (fun st e σ=>e=.exit 0∧σ=⟨[(6,.map 14)],[(14,.map (mapV (V.i .i64) (V.i .i64) st))]⟩) hbn12 hpm12 hl19 (ex_ _ rfl) ?_ ?_
  ·rintro m14 seen σ ⟨cur,rfl⟩ hex
   refine Qa hC [.n 2] rfl tt_ ?_
   refine AK.nextT (b:=21) (m:=50000) rfl rfl rfl (bleN hC.n rfl) rfl rfl rfl rfl ?_ ?_
   ·intro hleft
    refine Qa hC [.n 7,.keep [6] [14]] rfl tt_ ?_
    exact AK.done (Or.inl (an_ hleft (an_ (fun h=>(by cases h)) (an_ rfl rfl))))
   ·intro xk16 k16 v17 hq13
    obtain⟨o,h⟩:=hex _ hq13
    have ho:=h
    replace h:QfG m14 k16 v17=some o:=h
    unfold QfG at h
    refine Qa hC [.n 10,.x (fun σ=>σ.put 24 (.tup [.i .i64 k16,.i .i64 v17])),.n 10,.o (.any (.i .i64 ((mget m14 k16).getD 0)) none),.n 2,.x (fun σ=>σ.set 14 (.map (mapV (V.i .i64) (V.i .i64) (mset ltI m14 k16 (w64 (((mget m14 k16).getD 0)+v17)))))),.n 6,.o (.any (.i .i64 ((mget (mset ltI m14 k16 (w64 (((mget m14 k16).getD 0)+v17))) k16).getD 0)) none),.n 3] rfl ⟨⟨⟨⟨tt_,(Stp.entryT (b:=21) (m:=50000) rfl rfl (bleN hC.n rfl) rfl hq13 rfl rfl)⟩,(fun σ h1 h2 _=>Stp.lookup (e:=(V.i .i64)) (f:=(V.i .i64)) (l:=m14) (k:=k16) (z:=0) rfl rfl (bleN hC.n rfl) (h1 _ _ rfl) (h2 _ _ rfl) (h1 _ _ rfl) Qeg ky_3 zi_3 rfl)⟩,(Stp.mapUpdate (e:=(V.i .i64)) (f:=(V.i .i64)) (l:=m14) (k:=k16) (v:=(w64 (((mget m14 k16).getD 0)+v17))) ltI rfl rfl rfl rfl rfl rfl Qeg ky_3 rfl)⟩,(fun σ h1 h2 _=>Stp.lookup (e:=(V.i .i64)) (f:=(V.i .i64)) (l:=(mset ltI m14 k16 (w64 (((mget m14 k16).getD 0)+v17)))) (k:=k16) (z:=0) rfl rfl (bleN hC.n rfl) (h1 _ _ rfl) (h2 _ _ rfl) (h1 _ _ rfl) Qeg ky_3 zi_3 rfl)⟩ ?_
    rcases bifE h with⟨hc18,h⟩|⟨hc18,h⟩
    ·refine Qa hC [.br true,.n 8,.keep [4,5] []] rfl ⟨tt_,hc18⟩ ?_
     cases h
     exact AK.done (Or.inr (ex_ _ (an_ hq13 (Or.inr (ex_ _ (an_ ho (an_ (fun h=>(by cases h)) (an_ rfl rfl))))))))
    ·refine Qa hC [.br false,.n 2,.keep [6,21] [14,21,50000]] rfl ⟨tt_,hc18⟩ ?_
     cases h
     exact AK.done (Or.inr (ex_ _ (an_ hq13 (Or.inl (ex_ _ (an_ ho (an_ rfl (ex_ _ rfl))))))))
  ·rcases o19 with(m14 | _)
   ·replace h:Qk0 m14=some r:=h
    unfold Qk0 at h
    rintro e σ ⟨rfl,rfl⟩
    obtain⟨x20,hx20,h⟩:=Qb h
    refine Qa hC [.n 5,.cm (.fn) [(200000,14)] [(37,30000),(14,200000)] [] [.d] [(30000,.arr 2 (x20.map Qy)),(200000,.map (mapV (V.i .i64) (V.i .i64) m14))] (.own 30000 x20.length),.n 5,.frz 37 (x20.map Qy) [4] [],.keep [4,5] []] rfl ⟨⟨tt_,(Qiu _ hx20)⟩,⟨tt_,(frzL Qf)⟩⟩ ?_
    cases h
    exact AK.done (ex_ [_,_] (an_ (an_ rfl (an_ rfl tt_)) (gives tt_)))
   ·replace h:QmV=some r:=h
    unfold QmV at h
    rintro e σ ⟨rfl,rfl⟩
    refine Qa hC [.n 2,.denil 4 [some 2],.keep [4,5] []] rfl tt_ ?_
    cases h
    exact AK.done (ex_ [_,_] (an_ (an_ rfl (an_ rfl tt_)) (gives tt_)))
def Qd2 (which3:(List Int))(l2:(List TArc))(env4:(List Int))(n1:TNet)(x11:Int)(l12:QMk):Option ((Int×QMk)⊕(Int⊕QMk)):=
 bif (decide (x11<(which3.length:Int)))then
 (idx which3 x11).bind fun e18=>
 bif ((decide (e18<0))||(decide ((l2.length:Int)≤e18)))then
 some (.inr (.inl 11))
 else
 (idx l2 e18).bind fun e22=>
 (Qip e22.Expr env4).bind fun x23=>
 bif (x23.2 != 0)then
 some (.inr (.inl x23.2))
 else
 (idx l2 e18).bind fun e25=>
 bif ((decide (e25.Place<0))||(decide ((n1.Places.length:Int)≤e25.Place)))then
 some (.inr (.inl 3))
 else
 (idx n1.Places e25.Place).bind fun e29=>
 (Qdo n1.Colours e29.Colour x23.1).bind fun x30=>
 bif (!x30.2)then
 some (.inr (.inl 8))
 else
 (idx l12 e25.Place).bind fun e32=>
 (QmR ([x30.1]:List Int)).bind fun x33=>
 (Qbg e32 x33).bind fun x34=>
 (idx l12 e25.Place).bind fun e35=>
 bif (x34.2 != 0)then
 some (.inr (.inl x34.2))
 else
 some (.inl ((w64 (x11+1)),(l12.set e25.Place.toNat x34.1)))
 else
 some (.inr (.inr l12))
def Qko (x15:Int):Option (QMk×Int):=
 some (([]:List QBg),x15)
def Qkp (l16:QMk):Option (QMk×Int):=
 some (l16,0)
def QcN (n1:TNet)(l2:(List TArc))(which3:(List Int))(env4:(List Int)):Option (QMk×Int):=
 (chk (decide (0≤(n1.Places.length:Int))&&decide ((n1.Places.length:Int)≤(n1.Places.length:Int))&&decide ((n1.Places.length:Int)≤4294967296))).bind fun _=>
 (QC (fun st=>Qd2 which3 l2 env4 n1 st.1 st.2) (0,(List.replicate (n1.Places.length:Int).toNat (([]:QBg):QBg)))).bind (Sum.elim (fun q=>Qko q) (fun q=>Qkp q))
theorem QfH (n1:TNet)(l2:(List TArc))(which3:(List Int))(env4:(List Int)){r:(QMk×Int)}(h:QcN n1 l2 which3 env4=some r):Qc Tryz.prog 87 [.agg (Qd n1),.sl 4 (l2.map QH),.sl 1 (which3.map Qe),.sl 1 (env4.map Qe)] [] (Gives (.tup [.sl 1 (r.1.map Qh),.i .i64 r.2]) []):=by
 refine Qc.walk 97 Tryz.func87 rfl Tryz.ntmps87 rfl fun C hC=>?_
 unfold QcN at h
 obtain⟨_,hk9,h⟩:=Qb h
 replace hk9:=chkE hk9
 refine Qa hC [.n 11,.o (.ln n1.Places.length),.o (.rows (List.replicate (n1.Places.length:Int).toNat [.lit (.slice none 0 0)]))] rfl ⟨⟨tt_,Qf⟩,⟨hk9,rfl⟩⟩ ?_
 refine AK.denilA (b:=21) [some 2] rfl (QtM (f:=Qh) (x:=([]:QBg)) rfl) ?_
 refine Qa hC [.say 21 (.own 21 (List.replicate (n1.Places.length:Int).toNat (([]:QBg):QBg)).length),.n 7,.o (.ln which3.length),.n 4,.keep [1,3,4,10,22,23,24] [4,21]] rfl ⟨⟨tt_,(by simp)⟩,Qf⟩ ?_
 obtain⟨o37,hl37,h⟩:=Qb h
 refine AK.loop (body:=(fun st=>Qd2 which3 l2 env4 n1 st.1 st.2)) (fun st σ=>σ=⟨[(1,.sl 4 (l2.map QH)),(3,.sl 1 (env4.map Qe)),(4,.loc 4 0 0),(10,.own 21 st.2.length),(22,.sl 1 (which3.map Qe)),(23,.i .i64 (which3.length:Int)),(24,.i .i64 st.1)],[(4,.var (Qd n1)),(21,.arr 1 (st.2.map Qh))]⟩) (Sum.elim (fun q e σ=>e=.ret∧σ=⟨[(8,.lit (.slice none 0 0)),(9,.i .i64 q)],[]⟩) (fun q e σ=>e=.exit 0∧σ=⟨[(10,.own 21 q.length)],[(21,.arr 1 (q.map Qh))]⟩)) hl37 rfl ?_ ?_
 ·rintro ⟨x11,l12⟩ o σ rfl h
  replace h:Qd2 which3 l2 env4 n1 x11 l12=some o:=h
  unfold Qd2 at h
  refine Qa hC [.n 6] rfl tt_ ?_
  rcases bifE h with⟨hc17,h⟩|⟨hc17,h⟩
  ·obtain⟨e18,he18,h⟩:=Qb h
   refine Qa hC [.br true,.n 6,.o (.row (Qe e18)),.n 6] rfl ⟨⟨tt_,hc17⟩,(idxM he18)⟩ ?_
   refine AK.meetX (fun σ=>σ=⟨[(1,.sl 4 (l2.map QH)),(3,.sl 1 (env4.map Qe)),(4,.loc 4 0 0),(10,.own 21 l12.length),(12,.i .i64 e18),(22,.sl 1 (which3.map Qe)),(23,.i .i64 (which3.length:Int)),(24,.i .i64 x11),(35,.b ((decide (e18<0))||(decide ((l2.length:Int)≤e18))))],[(4,.var (Qd n1)),(21,.arr 1 (l12.map Qh))]⟩) ?_ ?_
   ·refine Qa hC [.n 4] rfl tt_ ?_
    rcases QG (decide (e18<0))with hc20 | hc20
    ·refine Qa hC [.say 30 (.b true),.n 6,.say 35 (.b ((decide (e18<0))||(decide ((l2.length:Int)≤e18)))),.keep [1,3,4,10,12,22,23,24,35] [4,21]] rfl ⟨⟨tt_,(congrArg V.b hc20)⟩,(congrArg V.b (orT hc20 rfl))⟩ ?_
     exact AK.met rfl
    ·refine Qa hC [.say 30 (.b false),.n 2,.o (.ln l2.length),.n 3,.say 35 (.b ((decide (e18<0))||(decide ((l2.length:Int)≤e18)))),.keep [1,3,4,10,12,22,23,24,35] [4,21]] rfl ⟨⟨⟨tt_,(congrArg V.b hc20)⟩,Qf⟩,(congrArg V.b (orF hc20 rfl))⟩ ?_
     exact AK.met rfl
   ·rintro σ rfl
    refine Qa hC [.n 1] rfl tt_ ?_
    rcases bifE h with⟨hc21,h⟩|⟨hc21,h⟩
    ·refine Qa hC [.br true,.n 10,.keep [8,9] []] rfl ⟨tt_,hc21⟩ ?_
     cases h
     exact rndR rfl (an_ rfl rfl)
    ·obtain⟨e22,he22,h⟩:=Qb h
     obtain⟨x23,hx23,h⟩:=Qb h
     refine Qa hC [.br false,.n 6,.o (.row (QH e22)),.n 1,.v .no [] (.agg (Qm e22.Expr)),.n 1,.o (.c false [.d,.d] (.tup [.i .i64 x23.1,.i .i64 x23.2])),.n 14] rfl ⟨⟨⟨⟨tt_,hc21⟩,(idxM he22)⟩,rfl⟩,(Qn1 _ _ hx23)⟩ ?_
     rcases bifE h with⟨hc24,h⟩|⟨hc24,h⟩
     ·refine Qa hC [.br true,.n 11,.keep [8,9] []] rfl ⟨tt_,hc24⟩ ?_
      cases h
      exact rndR rfl (an_ rfl rfl)
     ·obtain⟨e25,he25,h⟩:=Qb h
      refine Qa hC [.br false,.n 6,.o (.row (QH e25)),.n 7] rfl ⟨⟨tt_,hc24⟩,(idxM he25)⟩ ?_
      refine AK.meetX (fun σ=>σ=⟨[(1,.sl 4 (l2.map QH)),(3,.sl 1 (env4.map Qe)),(4,.loc 4 0 0),(10,.own 21 l12.length),(13,.i .i64 x23.1),(15,.i .i64 e25.Place),(22,.sl 1 (which3.map Qe)),(23,.i .i64 (which3.length:Int)),(24,.i .i64 x11),(62,.b ((decide (e25.Place<0))||(decide ((n1.Places.length:Int)≤e25.Place))))],[(4,.var (Qd n1)),(21,.arr 1 (l12.map Qh))]⟩) ?_ ?_
      ·refine Qa hC [.n 4] rfl tt_ ?_
       rcases QG (decide (e25.Place<0))with hc27 | hc27
       ·refine Qa hC [.say 56 (.b true),.n 7,.say 62 (.b ((decide (e25.Place<0))||(decide ((n1.Places.length:Int)≤e25.Place)))),.keep [1,3,4,10,13,15,22,23,24,62] [4,21]] rfl ⟨⟨tt_,(congrArg V.b hc27)⟩,(congrArg V.b (orT hc27 rfl))⟩ ?_
        exact AK.met rfl
       ·refine Qa hC [.say 56 (.b false),.n 3,.o (.ln n1.Places.length),.n 3,.say 62 (.b ((decide (e25.Place<0))||(decide ((n1.Places.length:Int)≤e25.Place)))),.keep [1,3,4,10,13,15,22,23,24,62] [4,21]] rfl ⟨⟨⟨tt_,(congrArg V.b hc27)⟩,Qf⟩,(congrArg V.b (orF hc27 rfl))⟩ ?_
        exact AK.met rfl
      ·rintro σ rfl
       refine Qa hC [.n 1] rfl tt_ ?_
       rcases bifE h with⟨hc28,h⟩|⟨hc28,h⟩
       ·refine Qa hC [.br true,.n 10,.keep [8,9] []] rfl ⟨tt_,hc28⟩ ?_
        cases h
        exact rndR rfl (an_ rfl rfl)
       ·obtain⟨e29,he29,h⟩:=Qb h
        obtain⟨x30,hx30,h⟩:=Qb h
        refine Qa hC [.br false,.n 3,.keep [1,3,4,10,13,15,22,23,24] [4,21]] rfl ⟨tt_,hc28⟩ ?_
        refine AK.draw2 Qo hC mixed [.a .no none false,.a .no none false,.a .no none false,.a .no none false,.a .no none false,.a (.row (Qv e29)) none false,.a .no none false,.a .no none false,.a .no none false,.a (.c false [.d,.d,.d] (.tup [.i .i64 x30.1,.b x30.2])) none false,.a .no none false,.a .no none false,.a .no none false,.a .no none false,.a .no none false] [] [] [1,3,4,10,15,16,17,22,23,24] [4,21] rfl rfl rfl ⟨⟨tt_,(idxM he29)⟩,(QpE _ _ _ hx30)⟩ rfl (by kernel_rfl) rfl rfl rfl ?_
        refine Qa hC [.n 8] rfl tt_ ?_
        rcases bifE h with⟨hc31,h⟩|⟨hc31,h⟩
        ·refine Qa hC [.br true,.n 10,.keep [8,9] []] rfl ⟨tt_,hc31⟩ ?_
         cases h
         exact rndR rfl (an_ rfl rfl)
        ·obtain⟨e32,he32,h⟩:=Qb h
         obtain⟨x33,hx33,h⟩:=Qb h
         obtain⟨x34,hx34,h⟩:=Qb h
         obtain⟨e35,he35,h⟩:=Qb h
         refine Qa hC [.br false,.n 3,.keep [1,3,4,10,15,16,22,23,24] [4,21]] rfl ⟨tt_,hc31⟩ ?_
         refine AK.draw2 Qo hC mixed [.a .no none false,.a .no none false,.a .no none false,.a .no none false,.a .no none false,.a (.row (Qh e32)) none false,.a .no none false,.a (.bd []) (some ([],.sl 1 (([x30.1]:List Int).map Qe))) false,.a (.cd false [.d] 2 (x33.map Qy) x33.length) none false,.a (.c false [.d,.d] (.tup [.sl 2 (x34.1.map Qy),.i .i64 x34.2])) none false,.a .no none true true,.a .no none false,.a .no none true,.a .no none false,.m (.st (Qh e35) ((l12.set e25.Place.toNat x34.1).map Qh)),.a .no none false] [1,3,4,10,15,16,22,23,24] [4] [1,3,4,10,14,22,23,24] [4,21] rfl rfl rfl ⟨⟨⟨⟨⟨⟨⟨tt_,(Qd4 he32 rfl)⟩,(Qcm (idxE he32).2)⟩,rfl⟩,⟨(Qum _ hx33),Qf⟩⟩,(QpF _ _ hx34)⟩,(Qd4 he35 rfl)⟩,⟨(Qcm (idxE he35).2),QkM rfl⟩⟩ rfl (by kernel_rfl) rfl rfl rfl ?_
         refine Qa hC [.n 7] rfl tt_ ?_
         rcases bifE h with⟨hc36,h⟩|⟨hc36,h⟩
         ·refine Qa hC [.br true,.n 10,.keep [8,9] []] rfl ⟨tt_,hc36⟩ ?_
          cases h
          exact rndR rfl (an_ rfl rfl)
         ·refine Qa hC [.br false,.n 7,.say 10 (.own 21 (l12.set e25.Place.toNat x34.1).length),.keep [1,3,4,10,22,23,24] [4,21]] rfl ⟨⟨tt_,hc36⟩,(congrArg (fun n=>V.own 21 n) (by simp))⟩ ?_
          cases h
          exact rndN rfl rfl
  ·refine Qa hC [.br false,.n 2,.keep [10] [21]] rfl ⟨tt_,hc17⟩ ?_
   cases h
   exact rndX rfl (an_ rfl rfl)
 ·rcases o37 with(x15 | l16)
  ·replace h:Qko x15=some r:=h
   unfold Qko at h
   rintro e σ ⟨rfl,rfl⟩
   refine Qa hC [.n 2,.denil 8 [some 1],.keep [8,9] []] rfl tt_ ?_
   cases h
   exact AK.done (ex_ [_,_] (an_ (an_ rfl (an_ rfl tt_)) (gives tt_)))
  ·replace h:Qkp l16=some r:=h
   unfold Qkp at h
   rintro e σ ⟨rfl,rfl⟩
   refine Qa hC [.n 10,.frz 21 (l16.map Qh) [8] [],.keep [8,9] []] rfl ⟨tt_,⟨tt_,(frzL Qf)⟩⟩ ?_
   cases h
   exact AK.done (ex_ [_,_] (an_ (an_ rfl (an_ rfl tt_)) (gives tt_)))
def Q6 (b1:QD)(outs2:(List Int)):Option Int:=
 (QcN b1.net b1.task.Outs outs2 b1.env).bind fun x4=>
 some x4.2
theorem QjU (b1:QD)(outs2:(List Int)){r:Int}(h:Q6 b1 outs2=some r):Qc Tryz.prog 45 [.agg (Qq b1),.sl 1 (outs2.map Qe)] [] (Gives (.i .i64 r) []):=by
 refine Qc.walk 20 Tryz.func45 rfl Tryz.ntmps45 rfl fun C hC=>?_
 unfold Q6 at h
 obtain⟨x4,hx4,h⟩:=Qb h
 refine Qa hC [.n 9,.v .no [] (.agg (Qd b1.net)),.n 6,.o (.c false [.d,.d,.d,.d] (.tup [.sl 1 (x4.1.map Qh),.i .i64 x4.2])),.n 14,.keep [4] []] rfl ⟨⟨tt_,rfl⟩,(QfH _ _ _ _ hx4)⟩ ?_
 cases h
 exact AK.done (ex_ [_] (an_ (an_ rfl tt_) (gives tt_)))
def Qfm (row1:(List Int))(v2:QD):Option Bool:=
 (Q6 v2 row1).bind fun x4=>
 some (x4 != 0)
theorem Qmk (row1:(List Int))(v2:QD){r:Bool}(h:Qfm row1 v2=some r):Qc Tryz.prog 80 [.sl 1 (row1.map Qe),.loc 200000 0 0] [(200000,.var (Qq v2))] (Gives (.b r) [(200000,.var (Qq v2))]):=by
 refine Qc.walk 8 Tryz.func80 rfl Tryz.ntmps80 rfl fun C hC=>?_
 unfold Qfm at h
 obtain⟨x4,hx4,h⟩:=Qb h
 refine Qa hC [.n 7,.v .no [] (.agg (Qq v2)),.n 1,.o (.c false [.d,.d] (.i .i64 x4)),.n 5,.keep [3] [200000]] rfl ⟨⟨tt_,rfl⟩,(QjU _ _ hx4)⟩ ?_
 cases h
 exact AK.done (ex_ [_] (an_ (an_ rfl tt_) (gives ⟨rfl,tt_⟩)))
def Qaq (l1:QLL)(v2:QD)(x5:Int):Option (Int⊕(Int⊕Unit)):=
 bif (decide (x5<(l1.length:Int)))then
 (idx l1 x5).bind fun e9=>
 (Qfm e9 v2).bind fun x10=>
 bif x10 then
 some (.inr (.inl x5))
 else
 some (.inl (w64 (x5+1)))
 else
 some (.inr (.inr ()))
def QcT (x7:Int):Option Int:=
 some x7
def QcU : Option Int:=
 some (-1)
def Qbd (l1:QLL)(v2:QD):Option Int:=
 (QC (fun st=>Qaq l1 v2 st) 0).bind (Sum.elim (fun q=>QcT q) (fun q=>QcU))
theorem Qkq (l1:QLL)(v2:QD){r:Int}(h:Qbd l1 v2=some r):Qc Tryz.prog 137 [.own 200000 l1.length,.clo (.func 80) [] [.loc 200001 0 0]] [(200000,.arr 1 (l1.map Qz)),(200001,.var (Qq v2))] (Gives (.i .i64 r) [(200000,.arr 1 (l1.map Qz)),(200001,.var (Qq v2))]):=by
 refine Qc.walk 19 Tryz.func137 rfl Tryz.ntmps137 rfl fun C hC=>?_
 unfold Qbd at h
 refine Qa hC [.n 14,.keep [0,1,7,8] [200000,200001]] rfl tt_ ?_
 obtain⟨o12,hl12,h⟩:=Qb h
 refine AK.loop (body:=(fun st=>Qaq l1 v2 st)) (fun st σ=>σ=⟨[(0,.own 200000 l1.length),(1,.clo (.func 80) [] [.loc 200001 0 0]),(7,.i .i64 (l1.length:Int)),(8,.i .i64 st)],[(200000,.arr 1 (l1.map Qz)),(200001,.var (Qq v2))]⟩) (Sum.elim (fun q e σ=>e=.ret∧σ=⟨[(4,.i .i64 q)],[(200000,.arr 1 (l1.map Qz)),(200001,.var (Qq v2))]⟩) (fun q e σ=>e=.exit 0∧σ=⟨[],[(200000,.arr 1 (l1.map Qz)),(200001,.var (Qq v2))]⟩)) hl12 rfl ?_ ?_
 ·rintro x5 o σ rfl h
  replace h:Qaq l1 v2 x5=some o:=h
  unfold Qaq at h
  refine Qa hC [.n 6] rfl tt_ ?_
  rcases bifE h with⟨hc8,h⟩|⟨hc8,h⟩
  ·obtain⟨e9,he9,h⟩:=Qb h
   obtain⟨x10,hx10,h⟩:=Qb h
   refine Qa hC [.br true,.n 16,.o (.row (Qz e9)),.cm (.clo) [(200000,200001)] [(200001,200000)] [] [.d,.d] [(200000,.var (Qq v2))] (.b x10),.n 2] rfl ⟨⟨⟨⟨tt_,hc8⟩,(Qd4 he9 rfl)⟩,(Qcm (idxE he9).2)⟩,(Qmk _ _ hx10)⟩ ?_
   rcases bifE h with⟨hc11,h⟩|⟨hc11,h⟩
   ·refine Qa hC [.br true,.n 9,.keep [4] [200000,200001]] rfl ⟨tt_,hc11⟩ ?_
    cases h
    exact rndR rfl (an_ rfl rfl)
   ·refine Qa hC [.br false,.n 7,.keep [0,1,7,8] [200000,200001]] rfl ⟨tt_,hc11⟩ ?_
    cases h
    exact rndN rfl rfl
  ·refine Qa hC [.br false,.n 2,.keep [] [200000,200001]] rfl ⟨tt_,hc8⟩ ?_
   cases h
   exact rndX rfl (an_ rfl rfl)
 ·rcases o12 with(x7 | _)
  ·replace h:QcT x7=some r:=h
   unfold QcT at h
   rintro e σ ⟨rfl,rfl⟩
   refine Qa hC [.n 2,.keep [4] [200000,200001]] rfl tt_ ?_
   cases h
   exact AK.done (ex_ [_] (an_ (an_ rfl tt_) (gives ⟨rfl,rfl,tt_⟩)))
  ·replace h:QcU=some r:=h
   unfold QcU at h
   rintro e σ ⟨rfl,rfl⟩
   refine Qa hC [.n 8,.keep [4] [200000,200001]] rfl tt_ ?_
   cases h
   exact AK.done (ex_ [_] (an_ (an_ rfl tt_) (gives ⟨rfl,rfl,tt_⟩)))
def Qbx (j10:Int)(i18:Int)(l19:QLL):Option ((Int×Int×QLL)⊕(Int×QLL)):=
 some (.inl (i18,(w64 (j10+1)),l19))
def Qal (v2:QD)(i9:Int)(j10:Int)(l11:QLL):Option ((Int×Int×QLL)⊕(Int×QLL)):=
 bif (decide (j10<(l11.length:Int)))then
 (idx l11 j10).bind fun e20=>
 (Qfm e20 v2).bind fun x21=>
 bif (!x21)then
 (idx l11 i9).bind fun e23=>
 Qbx j10 (w64 (i9+1)) (l11.set i9.toNat e20)
 else
 Qbx j10 i9 l11
 else
 some (.inr (i9,l11))
def QaN (i15:Int)(l16:QLL):Option QLL:=
 (chk (decide (0≤i15)&&decide (i15.toNat≤l16.length))).bind fun _=>
 (chk (decide (0≤i15)&&decide (i15.toNat≤(l16.take i15.toNat++List.replicate (l16.length-i15.toNat) (([]:(List Int)):(List Int))).length))).bind fun _=>
 some ((l16.take i15.toNat++List.replicate (l16.length-i15.toNat) (([]:(List Int)):(List Int))).take i15.toNat)
def Qa7 (l1:QLL)(v2:QD):Option QLL:=
 (Qbd l1 v2).bind fun x5=>
 bif (x5==(-1))then
 some l1
 else
 (QC (fun st=>Qal v2 st.1 st.2.1 st.2.2) (x5,(w64 (x5+1)),l1)).bind (fun q=>QaN q.1 q.2)
theorem QjV (l1:QLL)(v2:QD){r:QLL}(h:Qa7 l1 v2=some r):Qc Tryz.prog 78 [.own 200000 l1.length,.clo (.func 80) [] [.loc 200001 0 0]] [(200000,.arr 1 (l1.map Qz)),(200001,.var (Qq v2))] (Gives (.own 200000 r.length) [(200000,.arr 1 (r.map Qz)),(200001,.var (Qq v2))]):=by
 refine Qc.walk 42 Tryz.func78 rfl Tryz.ntmps78 rfl fun C hC=>?_
 unfold Qa7 at h
 obtain⟨x5,hx5,h⟩:=Qb h
 refine Qa hC [.n 9,.cm (.fn) [(200000,200000),(200001,200001)] [(200000,200000),(200001,200001)] [] [.d,.d] [(200000,.arr 1 (l1.map Qz)),(200001,.var (Qq v2))] (.i .i64 x5),.n 10] rfl ⟨tt_,(Qkq _ _ hx5)⟩ ?_
 rcases bifE h with⟨hc6,h⟩|⟨hc6,h⟩
 ·refine Qa hC [.br true,.n 8,.keep [4] [200000,200001]] rfl ⟨tt_,hc6⟩ ?_
  cases h
  exact AK.done (ex_ [_] (an_ (an_ rfl tt_) (gives ⟨rfl,rfl,tt_⟩)))
 ·refine Qa hC [.br false,.n 11,.keep [0,1,5,6] [200000,200001]] rfl ⟨tt_,hc6⟩ ?_
  obtain⟨o24,hl24,h⟩:=Qb h
  refine AK.loop (body:=(fun st=>Qal v2 st.1 st.2.1 st.2.2)) (fun st σ=>σ=⟨[(0,.own 200000 st.2.2.length),(1,.clo (.func 80) [] [.loc 200001 0 0]),(5,.i .i64 st.1),(6,.i .i64 st.2.1)],[(200000,.arr 1 (st.2.2.map Qz)),(200001,.var (Qq v2))]⟩) (fun q e σ=>e=.exit 0∧σ=⟨[(0,.own 200000 q.2.length),(5,.i .i64 q.1)],[(200000,.arr 1 (q.2.map Qz)),(200001,.var (Qq v2))]⟩) hl24 rfl ?_ ?_
  ·rintro ⟨i9,j10,l11⟩ o σ rfl h
   replace h:Qal v2 i9 j10 l11=some o:=h
   unfold Qal at h
   refine Qa hC [.n 9] rfl tt_ ?_
   rcases bifE h with⟨hc17,h⟩|⟨hc17,h⟩
   ·refine Qa hC [.br true,.n 2] rfl ⟨tt_,hc17⟩ ?_
    refine AK.meet (fun σ=>∃i18:Int,∃l19:QLL,σ=⟨[(0,.own 200000 l19.length),(1,.clo (.func 80) [] [.loc 200001 0 0]),(5,.i .i64 i18),(6,.i .i64 j10)],[(200000,.arr 1 (l19.map Qz)),(200001,.var (Qq v2))]⟩∧Qbx j10 i18 l19=some o) ?_ ?_
    ·obtain⟨e20,he20,h⟩:=Qb h
     obtain⟨x21,hx21,h⟩:=Qb h
     refine Qa hC [.n 6,.o (.row (Qz e20)),.n 7,.cm (.clo) [(200000,200001)] [(200001,200000)] [] [.d,.d] [(200000,.var (Qq v2))] (.b x21),.n 3] rfl ⟨⟨⟨tt_,(Qd4 he20 rfl)⟩,(Qcm (idxE he20).2)⟩,(Qmk _ _ hx21)⟩ ?_
     rcases bifE h with⟨hc22,h⟩|⟨hc22,h⟩
     ·obtain⟨e23,he23,h⟩:=Qb h
      refine Qa hC [.br true,.n 6,.st (Qz e23) ((l11.set i9.toNat e20).map Qz),.n 8,.say 0 (.own 200000 (l11.set i9.toNat e20).length),.keep [0,1,5,6] [200000,200001]] rfl ⟨⟨⟨⟨tt_,hc22⟩,(Qd4 he23 rfl)⟩,⟨(Qcm (idxE he23).2),QkM rfl⟩⟩,(congrArg (fun n=>V.own 200000 n) (by simp))⟩ ?_
      exact AK.met (ex_ _ (ex_ _ (an_ rfl h)))
     ·refine Qa hC [.br false,.n 2,.keep [0,1,5,6] [200000,200001]] rfl ⟨tt_,hc22⟩ ?_
      exact AK.met (ex_ _ (ex_ _ (an_ rfl h)))
    ·rintro σ ⟨i18,l19,rfl,h⟩
     unfold Qbx at h
     refine Qa hC [.n 5,.keep [0,1,5,6] [200000,200001]] rfl tt_ ?_
     cases h
     exact rndN rfl rfl
   ·refine Qa hC [.br false,.n 2,.keep [0,5] [200000,200001]] rfl ⟨tt_,hc17⟩ ?_
    cases h
    exact rndX rfl (an_ rfl rfl)
  ·obtain⟨i15,l16⟩:=o24
   replace h:QaN i15 l16=some r:=h
   unfold QaN at h
   rintro e σ ⟨rfl,rfl⟩
   refine Qa hC [.n 6] rfl tt_ ?_
   obtain⟨_,hk25,h⟩:=Qb h
   replace hk25:=chkE hk25
   refine AK.clearTail (b:=200000) (l:=i15.toNat) (n:=l16.length) rfl rfl rfl rfl rfl rfl (bleN hC.n rfl) rfl rfl Qf (Qo.es rfl) Qxf rfl rfl rfl (Bnd.val rfl (of_decide_eq_true (Qpt hk25)) rfl) (of_decide_eq_true (QlR hk25)) rfl ?_
   refine AK.denilA (b:=200000) [some 1] rfl (QxK (f:=Qz) (x:=(([]:(List Int)):(List Int))) (fun _=>rfl) rfl) ?_
   obtain⟨_,hk26,h⟩:=Qb h
   replace hk26:=chkE hk26
   refine Qa hC [.say 0 (.own 200000 (l16.take i15.toNat++List.replicate (l16.length-i15.toNat) (([]:(List Int)):(List Int))).length),.say 36 (.own 200000 (l16.take i15.toNat++List.replicate (l16.length-i15.toNat) (([]:(List Int)):(List Int))).length),.n 6] rfl ⟨⟨tt_,(QvP (of_decide_eq_true (QlR hk25)))⟩,(QvP (of_decide_eq_true (QlR hk25)))⟩ ?_
   have hl27:i15.toNat=((l16.take i15.toNat++List.replicate (l16.length-i15.toNat) (([]:(List Int)):(List Int))).take i15.toNat).length:=by rw [List.length_take,Nat.min_eq_left (of_decide_eq_true (QlR hk26))]
   refine Qa hC [.x (fun σ=>(σ.set 200000 (.arr 1 (((l16.take i15.toNat++List.replicate (l16.length-i15.toNat) (([]:(List Int)):(List Int))).take i15.toNat).map Qz))).put 41 (.own 200000 i15.toNat)),.say 41 (.own 200000 ((l16.take i15.toNat++List.replicate (l16.length-i15.toNat) (([]:(List Int)):(List Int))).take i15.toNat).length),.n 4,.keep [4] [200000,200001]] rfl ⟨⟨tt_,(Stp.sliceO rfl rfl (bleN hC.n rfl) rfl rfl (Qo.es rfl) Bnd.no (Bnd.val rfl (of_decide_eq_true (Qpt hk26)) rfl) (of_decide_eq_true (QlR hk26)) (by simp))⟩,(QxG (of_decide_eq_true (QlR hk26)))⟩ ?_
   cases h
   exact AK.done (ex_ [_] (an_ (an_ rfl tt_) (gives ⟨rfl,rfl,tt_⟩)))
def QbN (m2:QBg)(k7:Int)(v8:Int):Option (Unit⊕Unit):=
 bif (decide (((mget m2 k7).getD 0)<v8))then
 some (.inr ())
 else
 some (.inl ())
def QgN : Option Bool:=
 some true
def QgO : Option Bool:=
 some false
def QcA (m1:QBg)(m2:QBg):Option Bool:=
 (Qh5 (fun st p=>QbN m2 p.1 p.2) () m1).bind (Sum.elim (fun q=>QgN) (fun q=>QgO))
theorem QjW (m1:QBg)(m2:QBg){r:Bool}(h:QcA m1 m2=some r):Qc Tryz.prog 146 [.map 200000,.map 200001] [(200000,.map (mapV (V.i .i64) (V.i .i64) m1)),(200001,.map (mapV (V.i .i64) (V.i .i64) m2))] (Gives (.b r) [(200000,.map (mapV (V.i .i64) (V.i .i64) m1)),(200001,.map (mapV (V.i .i64) (V.i .i64) m2))]):=by
 refine Qc.walk 19 Tryz.func146 rfl Tryz.ntmps146 rfl fun C hC=>?_
 unfold QcA at h
 refine Qa hC [.n 9] rfl tt_ ?_
 refine AK.openMap (b:=200000) ky_3 rfl fun bm5 cl5 L5 hbn5 hpm5=>?_
 refine Qa hC [.x (fun σ=>(σ.set 8 (.itr bm5 cl5 #[] none)).put 8 (.loc 8 0 0)),.n 3,.keep [1,8] [8,200000,200001]] rfl ⟨tt_,(Stp.range (b:=200000) rfl rfl (bleN hC.n rfl) rfl rfl Qeg rfl)⟩ ?_
 obtain⟨o10,hl10,h⟩:=Qb h
 refine AK.range (body:=(fun st p=>QbN m2 p.1 p.2)) (fun st seen σ=>∃cur:Option MapEntry,σ=⟨[(1,.map 200001),(8,.loc 8 0 0)],[(8,.itr bm5 cl5 seen cur),(200000,.mapX bm5 cl5 (typV (V.i .i64) (V.i .i64) L5) (mapV (V.i .i64) (V.i .i64) m1)),(200001,.map (mapV (V.i .i64) (V.i .i64) m2))]⟩) (fun q e σ=>e=.ret∧σ=⟨[(4,.b false)],[(200000,.mapX bm5 cl5 (typV (V.i .i64) (V.i .i64) L5) (mapV (V.i .i64) (V.i .i64) m1)),(200001,.map (mapV (V.i .i64) (V.i .i64) m2))]⟩) (fun st e σ=>e=.exit 0∧σ=⟨[],[(200000,.mapX bm5 cl5 (typV (V.i .i64) (V.i .i64) L5) (mapV (V.i .i64) (V.i .i64) m1)),(200001,.map (mapV (V.i .i64) (V.i .i64) m2))]⟩) hbn5 hpm5 hl10 (ex_ _ rfl) ?_ ?_
 ·rintro _ seen σ ⟨cur,rfl⟩ hex
  refine Qa hC [.n 2] rfl tt_ ?_
  refine AK.nextT (b:=8) (m:=200000) rfl rfl rfl (bleN hC.n rfl) rfl rfl rfl rfl ?_ ?_
  ·intro hleft
   refine Qa hC [.n 7,.keep [] [200000,200001]] rfl tt_ ?_
   exact AK.done (Or.inl (an_ hleft (an_ (fun h=>(by cases h)) (an_ rfl rfl))))
  ·intro xk7 k7 v8 hq6
   obtain⟨o,h⟩:=hex _ hq6
   have ho:=h
   replace h:QbN m2 k7 v8=some o:=h
   unfold QbN at h
   refine Qa hC [.n 10,.x (fun σ=>σ.put 11 (.tup [.i .i64 k7,.i .i64 v8])),.n 11,.o (.any (.i .i64 ((mget m2 k7).getD 0)) none),.n 3] rfl ⟨⟨tt_,(Stp.entryT (b:=8) (m:=200000) rfl rfl (bleN hC.n rfl) rfl hq6 rfl rfl)⟩,(fun σ h1 h2 _=>Stp.lookup (e:=(V.i .i64)) (f:=(V.i .i64)) (l:=m2) (k:=k7) (z:=0) rfl rfl (bleN hC.n rfl) (h1 _ _ rfl) (h2 _ _ rfl) (h1 _ _ rfl) Qeg ky_3 zi_3 rfl)⟩ ?_
   rcases bifE h with⟨hc9,h⟩|⟨hc9,h⟩
   ·refine Qa hC [.br true,.n 7,.keep [4] [200000,200001]] rfl ⟨tt_,hc9⟩ ?_
    cases h
    exact AK.done (Or.inr (ex_ _ (an_ hq6 (Or.inr (ex_ _ (an_ ho (an_ (fun h=>(by cases h)) (an_ rfl rfl))))))))
   ·refine Qa hC [.br false,.n 2,.keep [1,8] [8,200000,200001]] rfl ⟨tt_,hc9⟩ ?_
    cases h
    exact AK.done (Or.inr (ex_ _ (an_ hq6 (Or.inl (ex_ _ (an_ ho (an_ rfl (ex_ _ rfl))))))))
 ·rcases o10 with(_ | _)
  ·replace h:QgN=some r:=h
   unfold QgN at h
   rintro e σ ⟨rfl,rfl⟩
   refine Qa hC [.n 8] rfl tt_ ?_
   refine AK.closeMap (b:=200000) rfl ?_
   refine Qa hC [.keep [4] [200000,200001]] rfl tt_ ?_
   cases h
   exact AK.done (ex_ [_] (an_ (an_ rfl tt_) (gives ⟨rfl,rfl,tt_⟩)))
  ·replace h:QgO=some r:=h
   unfold QgO at h
   rintro e σ ⟨rfl,rfl⟩
   refine Qa hC [.n 2] rfl tt_ ?_
   refine AK.closeMap (b:=200000) rfl ?_
   refine Qa hC [.keep [4] [200000,200001]] rfl tt_ ?_
   cases h
   exact AK.done (ex_ [_] (an_ (an_ rfl tt_) (gives ⟨rfl,rfl,tt_⟩)))
def Qk2 (a6:Unit):Option Bool:=
 some false
def Qk3 (a7:QBg):Option Bool:=
 some false
def Qk4 (a8:QBg):Option Bool:=
 some false
def QiG (a9:(QBg×QBg)):Option Bool:=
 (QcA a9.1 a9.2).bind fun x10=>
 some x10
def Qi0 (a1:QBg)(b2:QBg):Option Bool:=
 (QhR a1 b2).bind (Sum.elim (fun q=>Qk2 q) (Sum.elim (fun q=>Qk3 q) (Sum.elim (fun q=>Qk4 q) (fun q=>QiG q))))
theorem QrQ (a1:QBg)(b2:QBg){r:Bool}(h:Qi0 a1 b2=some r):Qc Tryz.prog 143 [.sl 2 (a1.map Qy),.sl 2 (b2.map Qy)] [] (Gives (.b r) []):=by
 refine Qc.walk 21 Tryz.func143 rfl Tryz.ntmps143 rfl fun C hC=>?_
 unfold Qi0 at h
 obtain⟨x5,hx5,h⟩:=Qb h
 refine Qa hC [.n 9] rfl tt_ ?_
 rcases x5 with(a6 | (a7 | (a8 | a9)))
 ·replace h:Qk2 a6=some r:=h
  unfold Qk2 at h
  refine Qa hC [.cm (.fn) [] [] [] [.d,.d] [] (.tup [.lit (.map none),.lit (.map none),.b false]),.n 21,.keep [4] []] rfl ⟨tt_,(Qbl _ _ hx5)⟩ ?_
  cases h
  exact AK.done (ex_ [_] (an_ (an_ rfl tt_) (gives tt_)))
 ·replace h:Qk3 a7=some r:=h
  unfold Qk3 at h
  refine Qa hC [.cm (.fn) [] [(11,30005)] [] [.d,.d] [(30005,.map (mapV (V.i .i64) (V.i .i64) a7))] (.tup [.lit (.map none),.map 30005,.b false]),.n 21,.keep [4] []] rfl ⟨tt_,(Qbl _ _ hx5)⟩ ?_
  cases h
  exact AK.done (ex_ [_] (an_ (an_ rfl tt_) (gives tt_)))
 ·replace h:Qk4 a8=some r:=h
  unfold Qk4 at h
  refine Qa hC [.cm (.fn) [] [(11,30004)] [] [.d,.d] [(30004,.map (mapV (V.i .i64) (V.i .i64) a8))] (.tup [.map 30004,.lit (.map none),.b false]),.n 21,.keep [4] []] rfl ⟨tt_,(Qbl _ _ hx5)⟩ ?_
  cases h
  exact AK.done (ex_ [_] (an_ (an_ rfl tt_) (gives tt_)))
 ·replace h:QiG a9=some r:=h
  unfold QiG at h
  obtain⟨x10,hx10,h⟩:=Qb h
  refine Qa hC [.cm (.fn) [] [(11,30004),(50000,30005)] [] [.d,.d] [(30004,.map (mapV (V.i .i64) (V.i .i64) a9.1)),(30005,.map (mapV (V.i .i64) (V.i .i64) a9.2))] (.tup [.map 30004,.map 30005,.b true]),.n 15,.cm (.fn) [(200000,11),(200001,50000)] [(11,200000),(50000,200001)] [] [.d,.d] [(200000,.map (mapV (V.i .i64) (V.i .i64) a9.1)),(200001,.map (mapV (V.i .i64) (V.i .i64) a9.2))] (.b x10),.n 5,.keep [4] []] rfl ⟨⟨tt_,(Qbl _ _ hx5)⟩,(QjW _ _ hx10)⟩ ?_
  cases h
  exact AK.done (ex_ [_] (an_ (an_ rfl tt_) (gives tt_)))
def QF (s1:QMk)(s2:QMk)(x6:Int):Option (Int⊕(Unit⊕Unit)):=
 bif (decide (x6<(s1.length:Int)))then
 (idx s1 x6).bind fun e9=>
 (idx s2 x6).bind fun e10=>
 (Qi0 e9 e10).bind fun x11=>
 bif (!x11)then
 some (.inr (.inl ()))
 else
 some (.inl (w64 (x6+1)))
 else
 some (.inr (.inr ()))
def Qac : Option Bool:=
 some false
def Qad : Option Bool:=
 some true
def QV (s1:QMk)(s2:QMk):Option Bool:=
 bif ((s1.length:Int) != (s2.length:Int))then
 some false
 else
 (QC (fun st=>QF s1 s2 st) 0).bind (Sum.elim (fun q=>Qac) (fun q=>Qad))
theorem Qdi (s1:QMk)(s2:QMk){r:Bool}(h:QV s1 s2=some r):Qc Tryz.prog 46 [.sl 1 (s1.map Qh),.sl 1 (s2.map Qh),.clo (.func 143) [] []] [] (Gives (.b r) []):=by
 refine Qc.walk 32 Tryz.func46 rfl Tryz.ntmps46 rfl fun C hC=>?_
 unfold QV at h
 refine Qa hC [.n 9,.o (.ln s1.length),.n 1,.o (.ln s2.length),.n 3] rfl ⟨⟨tt_,Qf⟩,Qf⟩ ?_
 rcases bifE h with⟨hc5,h⟩|⟨hc5,h⟩
 ·refine Qa hC [.br true,.n 7,.keep [6] []] rfl ⟨tt_,hc5⟩ ?_
  cases h
  exact AK.done (ex_ [_] (an_ (an_ rfl tt_) (gives tt_)))
 ·refine Qa hC [.br false,.n 6,.o (.ln s1.length),.n 4,.keep [1,2,15,16,17] []] rfl ⟨⟨tt_,hc5⟩,Qf⟩ ?_
  obtain⟨o13,hl13,h⟩:=Qb h
  refine AK.loop (body:=(fun st=>QF s1 s2 st)) (fun st σ=>σ=⟨[(1,.sl 1 (s2.map Qh)),(2,.clo (.func 143) [] []),(15,.sl 1 (s1.map Qh)),(16,.i .i64 (s1.length:Int)),(17,.i .i64 st)],[]⟩) (Sum.elim (fun q e σ=>e=.ret∧σ=⟨[(6,.b false)],[]⟩) (fun q e σ=>e=.exit 0∧σ=⟨[],[]⟩)) hl13 rfl ?_ ?_
  ·rintro x6 o σ rfl h
   replace h:QF s1 s2 x6=some o:=h
   unfold QF at h
   refine Qa hC [.n 6] rfl tt_ ?_
   rcases bifE h with⟨hc8,h⟩|⟨hc8,h⟩
   ·obtain⟨e9,he9,h⟩:=Qb h
    obtain⟨e10,he10,h⟩:=Qb h
    obtain⟨x11,hx11,h⟩:=Qb h
    refine Qa hC [.br true,.n 7,.o (.row (Qh e9)),.n 9,.o (.row (Qh e10)),.n 9,.o (.c false [.d,.d] (.b x11)),.n 3] rfl ⟨⟨⟨⟨tt_,hc8⟩,(idxM he9)⟩,(idxM he10)⟩,(QrQ _ _ hx11)⟩ ?_
    rcases bifE h with⟨hc12,h⟩|⟨hc12,h⟩
    ·refine Qa hC [.br true,.n 8,.keep [6] []] rfl ⟨tt_,hc12⟩ ?_
     cases h
     exact rndR rfl (an_ rfl rfl)
    ·refine Qa hC [.br false,.n 7,.keep [1,2,15,16,17] []] rfl ⟨tt_,hc12⟩ ?_
     cases h
     exact rndN rfl rfl
   ·refine Qa hC [.br false,.n 2,.keep [] []] rfl ⟨tt_,hc8⟩ ?_
    cases h
    exact rndX rfl (an_ rfl rfl)
  ·rcases o13 with(_ | _)
   ·replace h:Qac=some r:=h
    unfold Qac at h
    rintro e σ ⟨rfl,rfl⟩
    refine Qa hC [.n 2,.keep [6] []] rfl tt_ ?_
    cases h
    exact AK.done (ex_ [_] (an_ (an_ rfl tt_) (gives tt_)))
   ·replace h:Qad=some r:=h
    unfold Qad at h
    rintro e σ ⟨rfl,rfl⟩
    refine Qa hC [.n 8,.keep [6] []] rfl tt_ ?_
    cases h
    exact AK.done (ex_ [_] (an_ (an_ rfl tt_) (gives tt_)))
def Qgh (need1:QMk)(m2:QMk):Option Bool:=
 (QV need1 m2).bind fun x4=>
 some x4
theorem QmW (need1:QMk)(m2:QMk){r:Bool}(h:Qgh need1 m2=some r):Qc Tryz.prog 88 [.sl 1 (need1.map Qh),.sl 1 (m2.map Qh)] [] (Gives (.b r) []):=by
 refine Qc.walk 8 Tryz.func88 rfl Tryz.ntmps88 rfl fun C hC=>?_
 unfold Qgh at h
 obtain⟨x4,hx4,h⟩:=Qb h
 refine Qa hC [.n 9,.cm (.fn) [] [] [] [.d,.d,.d] [] (.b x4),.n 4,.keep [4] []] rfl ⟨tt_,(Qdi _ _ hx4)⟩ ?_
 cases h
 exact AK.done (ex_ [_] (an_ (an_ rfl tt_) (gives tt_)))
def Qbb (s1:(List Int))(v2:Int)(x5:Int):Option (Int⊕(Int⊕Unit)):=
 bif (decide (x5<(s1.length:Int)))then
 (idx s1 x5).bind fun e9=>
 bif (v2==e9)then
 some (.inr (.inl x5))
 else
 some (.inl (w64 (x5+1)))
 else
 some (.inr (.inr ()))
def QbW (x7:Int):Option Int:=
 some x7
def QbX : Option Int:=
 some (-1)
def QcE (s1:(List Int))(v2:Int):Option Int:=
 (QC (fun st=>Qbb s1 v2 st) 0).bind (Sum.elim (fun q=>QbW q) (fun q=>QbX))
theorem Qmt (s1:(List Int))(v2:Int){r:Int}(h:QcE s1 v2=some r):Qc Tryz.prog 144 [.sl 1 (s1.map Qe),.i .i64 v2] [] (Gives (.i .i64 r) []):=by
 refine Qc.walk 19 Tryz.func144 rfl Tryz.ntmps144 rfl fun C hC=>?_
 unfold QcE at h
 refine Qa hC [.n 9,.o (.ln s1.length),.n 4,.keep [0,1,7,8] []] rfl ⟨tt_,Qf⟩ ?_
 obtain⟨o11,hl11,h⟩:=Qb h
 refine AK.loop (body:=(fun st=>Qbb s1 v2 st)) (fun st σ=>σ=⟨[(0,.sl 1 (s1.map Qe)),(1,.i .i64 v2),(7,.i .i64 (s1.length:Int)),(8,.i .i64 st)],[]⟩) (Sum.elim (fun q e σ=>e=.ret∧σ=⟨[(4,.i .i64 q)],[]⟩) (fun q e σ=>e=.exit 0∧σ=⟨[],[]⟩)) hl11 rfl ?_ ?_
 ·rintro x5 o σ rfl h
  replace h:Qbb s1 v2 x5=some o:=h
  unfold Qbb at h
  refine Qa hC [.n 6] rfl tt_ ?_
  rcases bifE h with⟨hc8,h⟩|⟨hc8,h⟩
  ·obtain⟨e9,he9,h⟩:=Qb h
   refine Qa hC [.br true,.n 15,.o (.row (Qe e9)),.n 4] rfl ⟨⟨tt_,hc8⟩,(idxM he9)⟩ ?_
   rcases bifE h with⟨hc10,h⟩|⟨hc10,h⟩
   ·refine Qa hC [.br true,.n 9,.keep [4] []] rfl ⟨tt_,hc10⟩ ?_
    cases h
    exact rndR rfl (an_ rfl rfl)
   ·refine Qa hC [.br false,.n 7,.keep [0,1,7,8] []] rfl ⟨tt_,hc10⟩ ?_
    cases h
    exact rndN rfl rfl
  ·refine Qa hC [.br false,.n 2,.keep [] []] rfl ⟨tt_,hc8⟩ ?_
   cases h
   exact rndX rfl (an_ rfl rfl)
 ·rcases o11 with(x7 | _)
  ·replace h:QbW x7=some r:=h
   unfold QbW at h
   rintro e σ ⟨rfl,rfl⟩
   refine Qa hC [.n 2,.keep [4] []] rfl tt_ ?_
   cases h
   exact AK.done (ex_ [_] (an_ (an_ rfl tt_) (gives tt_)))
  ·replace h:QbX=some r:=h
   unfold QbX at h
   rintro e σ ⟨rfl,rfl⟩
   refine Qa hC [.n 8,.keep [4] []] rfl tt_ ?_
   cases h
   exact AK.done (ex_ [_] (an_ (an_ rfl tt_) (gives tt_)))
def QaM (s1:(List Int))(v2:Int):Option Bool:=
 (QcE s1 v2).bind fun x4=>
 some (decide (0≤x4))
theorem Qhj (s1:(List Int))(v2:Int){r:Bool}(h:QaM s1 v2=some r):Qc Tryz.prog 89 [.sl 1 (s1.map Qe),.i .i64 v2] [] (Gives (.b r) []):=by
 refine Qc.walk 9 Tryz.func89 rfl Tryz.ntmps89 rfl fun C hC=>?_
 unfold QaM at h
 obtain⟨x4,hx4,h⟩:=Qb h
 refine Qa hC [.n 9,.o (.c false [.d,.d] (.i .i64 x4)),.n 5,.keep [4] []] rfl ⟨tt_,(Qmt _ _ hx4)⟩ ?_
 cases h
 exact AK.done (ex_ [_] (an_ (an_ rfl tt_) (gives tt_)))
def QcF (x10:Int):Option (Int⊕(Unit⊕Unit)):=
 some (.inl (w64 (x10+1)))
def QgP (x19:(QMk×Int))(b1:QD):Option Bool:=
 bif (x19.2==0)then
 (Qgh x19.1 b1.m).bind fun x23=>
 some x23
 else
 some false
def QcG (x10:Int)(x20:Bool):Option (Int⊕(Unit⊕Unit)):=
 bif x20 then
 some (.inr (.inl ()))
 else
 QcF x10
def QbO (b1:QD)(ins2:(List Int))(x10:Int):Option (Int⊕(Unit⊕Unit)):=
 bif (decide (x10<(b1.task.Ins.length:Int)))then
 (QaM ins2 x10).bind fun x13=>
 bif x13 then
 QcF x10
 else
 (Qaw ins2).bind fun x15=>
 (chk (decide (x15.length+([x10]:List Int).length≤4294967296))).bind fun _=>
 (QaW (x15++([x10]:List Int))).bind fun x17=>
 (chk (decide (x17.length=(x15++([x10]:List Int)).length))).bind fun _=>
 (QcN b1.net b1.task.Ins x17 b1.env).bind fun x19=>
 (QgP x19 b1).bind (fun x20=>QcG x10 x20)
 else
 some (.inr (.inr ()))
def QgQ : Option Int:=
 some 11
def QgR : Option Int:=
 some 0
def QT (b1:QD)(ins2:(List Int)):Option Int:=
 (QcN b1.net b1.task.Ins ins2 b1.env).bind fun x5=>
 bif (x5.2 != 0)then
 some x5.2
 else
 (Qgh x5.1 b1.m).bind fun x7=>
 bif (!x7)then
 some 10
 else
 bif (b1.task.Join != 3)then
 some 0
 else
 (QC (fun st=>QbO b1 ins2 st) 0).bind (Sum.elim (fun q=>QgQ) (fun q=>QgR))
theorem QjX (b1:QD)(ins2:(List Int)){r:Int}(h:QT b1 ins2=some r):Qc Tryz.prog 44 [.agg (Qq b1),.sl 1 (ins2.map Qe)] [] (Gives (.i .i64 r) []):=by
 refine Qc.walk 76 Tryz.func44 rfl Tryz.ntmps44 rfl fun C hC=>?_
 unfold QT at h
 obtain⟨x5,hx5,h⟩:=Qb h
 refine Qa hC [.n 9,.v .no [] (.agg (Qd b1.net)),.n 6,.o (.c false [.d,.d,.d,.d] (.tup [.sl 1 (x5.1.map Qh),.i .i64 x5.2])),.n 16] rfl ⟨⟨tt_,rfl⟩,(QfH _ _ _ _ hx5)⟩ ?_
 rcases bifE h with⟨hc6,h⟩|⟨hc6,h⟩
 ·refine Qa hC [.br true,.n 9,.keep [4] []] rfl ⟨tt_,hc6⟩ ?_
  cases h
  exact AK.done (ex_ [_] (an_ (an_ rfl tt_) (gives tt_)))
 ·obtain⟨x7,hx7,h⟩:=Qb h
  refine Qa hC [.br false,.n 5,.o (.c false [.d,.d] (.b x7)),.n 4] rfl ⟨⟨tt_,hc6⟩,(QmW _ _ hx7)⟩ ?_
  rcases bifE h with⟨hc8,h⟩|⟨hc8,h⟩
  ·refine Qa hC [.br true,.n 8,.keep [4] []] rfl ⟨tt_,hc8⟩ ?_
   cases h
   exact AK.done (ex_ [_] (an_ (an_ rfl tt_) (gives tt_)))
  ·refine Qa hC [.br false,.n 9] rfl ⟨tt_,hc8⟩ ?_
   rcases bifE h with⟨hc9,h⟩|⟨hc9,h⟩
   ·refine Qa hC [.br true,.n 8,.keep [4] []] rfl ⟨tt_,hc9⟩ ?_
    cases h
    exact AK.done (ex_ [_] (an_ (an_ rfl tt_) (gives tt_)))
   ·refine Qa hC [.br false,.n 9,.o (.ln b1.task.Ins.length),.n 4,.keep [1,2,41,42] [2]] rfl ⟨⟨tt_,hc9⟩,Qf⟩ ?_
    obtain⟨o25,hl25,h⟩:=Qb h
    refine AK.loop (body:=(fun st=>QbO b1 ins2 st)) (fun st σ=>σ=⟨[(1,.sl 1 (ins2.map Qe)),(2,.loc 2 0 0),(41,.i .i64 (b1.task.Ins.length:Int)),(42,.i .i64 st)],[(2,.var (Qq b1))]⟩) (Sum.elim (fun q e σ=>e=.ret∧σ=⟨[(4,.i .i64 11)],[]⟩) (fun q e σ=>e=.exit 1∧σ=⟨[],[]⟩)) hl25 rfl ?_ ?_
    ·rintro x10 o σ rfl h
     replace h:QbO b1 ins2 x10=some o:=h
     unfold QbO at h
     refine Qa hC [.n 6] rfl tt_ ?_
     rcases bifE h with⟨hc12,h⟩|⟨hc12,h⟩
     ·refine Qa hC [.br true,.n 2] rfl ⟨tt_,hc12⟩ ?_
      refine AK.meet (fun σ=>σ=⟨[(1,.sl 1 (ins2.map Qe)),(2,.loc 2 0 0),(41,.i .i64 (b1.task.Ins.length:Int)),(42,.i .i64 x10)],[(2,.var (Qq b1))]⟩∧QcF x10=some o) ?_ ?_
      ·obtain⟨x13,hx13,h⟩:=Qb h
       refine Qa hC [.n 12,.o (.c false [.d,.d] (.b x13)),.n 2] rfl ⟨tt_,(Qhj _ _ hx13)⟩ ?_
       rcases bifE h with⟨hc14,h⟩|⟨hc14,h⟩
       ·refine Qa hC [.br true,.n 3,.keep [1,2,41,42] [2]] rfl ⟨tt_,hc14⟩ ?_
        exact AK.met (an_ rfl h)
       ·obtain⟨x15,hx15,h⟩:=Qb h
        obtain⟨_,hk16,h⟩:=Qb h
        replace hk16:=chkE hk16
        obtain⟨x17,hx17,h⟩:=Qb h
        obtain⟨_,hk18,h⟩:=Qb h
        replace hk18:=chkE hk18
        obtain⟨x19,hx19,h⟩:=Qb h
        refine Qa hC [.br false,.n 5,.o (.co false [.d] 1 (x15.map Qe) x15.length),.n 1,.v (.bd []) [] (.sl 1 (([x10]:List Int).map Qe)),.app ((x15++([x10]:List Int)).map Qe) (x15++([x10]:List Int)).length,.n 6,.cm (.fn) [(200000,49)] [(49,200000)] [] [.d] [(200000,.arr 1 (x17.map Qe))] (.tup []),.say 8 (.own 49 x17.length),.say 52 (.own 49 x17.length),.say 53 (.own 49 x17.length),.n 5,.v .no [] (.agg (Qd b1.net)),.n 6,.frz 49 (x17.map Qe) [8,52,53,61] [],.o (.c false [.d,.d,.d,.d] (.tup [.sl 1 (x19.1.map Qh),.i .i64 x19.2])),.n 8] rfl ⟨⟨⟨⟨⟨⟨⟨⟨⟨⟨⟨tt_,hc14⟩,⟨(QbT _ hx15),Qf,.inl rfl⟩⟩,rfl⟩,⟨Qf,Qdm hk16 Qf,Qch,Qe8 Qf⟩⟩,(QfF _ hx17)⟩,(by simp [of_decide_eq_true hk18])⟩,(by simp [of_decide_eq_true hk18])⟩,(by simp [of_decide_eq_true hk18])⟩,rfl⟩,⟨⟨⟨⟨tt_,(frzL Qf)⟩,(frzL Qf)⟩,(frzL Qf)⟩,(frzL Qf)⟩⟩,(QfH _ _ _ _ hx19)⟩ ?_
        obtain⟨x20,hv21,h⟩:=Qb h
        replace h:QcG x10 x20=some o:=h
        refine AK.meetX (fun σ=>σ=⟨[(1,.sl 1 (ins2.map Qe)),(2,.loc 2 0 0),(41,.i .i64 (b1.task.Ins.length:Int)),(42,.i .i64 x10),(74,.b x20)],[(2,.var (Qq b1))]⟩) ?_ ?_
        ·replace h:=hv21
         unfold QgP at h
         refine Qa hC [.n 4] rfl tt_ ?_
         rcases bifE h with⟨hc22,h⟩|⟨hc22,h⟩
         ·obtain⟨x23,hx23,h⟩:=Qb h
          refine Qa hC [.say 69 (.b true),.n 3,.o (.c false [.d,.d] (.b x23)),.n 2,.keep [1,2,41,42,74] [2]] rfl ⟨⟨tt_,(congrArg V.b hc22)⟩,(QmW _ _ hx23)⟩ ?_
          cases h
          exact AK.met rfl
         ·refine Qa hC [.say 69 (.b false),.n 6,.keep [1,2,41,42,74] [2]] rfl ⟨tt_,(congrArg V.b hc22)⟩ ?_
          cases h
          exact AK.met rfl
        ·rintro σ rfl
         replace h:QcG x10 x20=some o:=h
         unfold QcG at h
         refine Qa hC [.n 1] rfl tt_ ?_
         rcases bifE h with⟨hc24,h⟩|⟨hc24,h⟩
         ·refine Qa hC [.br true,.n 8,.keep [4] []] rfl ⟨tt_,hc24⟩ ?_
          cases h
          exact rndR rfl (an_ rfl rfl)
         ·refine Qa hC [.br false,.n 2,.keep [1,2,41,42] [2]] rfl ⟨tt_,hc24⟩ ?_
          exact AK.met (an_ rfl h)
      ·rintro σ ⟨rfl,h⟩
       unfold QcF at h
       refine Qa hC [.n 4,.keep [1,2,41,42] [2]] rfl tt_ ?_
       cases h
       exact rndN rfl rfl
     ·refine Qa hC [.br false,.n 2,.keep [] []] rfl ⟨tt_,hc12⟩ ?_
      cases h
      exact rndX rfl (an_ rfl rfl)
    ·rcases o25 with(_ | _)
     ·replace h:QgQ=some r:=h
      unfold QgQ at h
      rintro e σ ⟨rfl,rfl⟩
      refine Qa hC [.n 2,.keep [4] []] rfl tt_ ?_
      cases h
      exact AK.done (ex_ [_] (an_ (an_ rfl tt_) (gives tt_)))
     ·replace h:QgR=some r:=h
      unfold QgR at h
      rintro e σ ⟨rfl,rfl⟩
      refine Qa hC [.n 8,.keep [4] []] rfl tt_ ?_
      cases h
      exact AK.done (ex_ [_] (an_ (an_ rfl tt_) (gives tt_)))

end Go.Proofs
