/- What functions of the program do, as functions over plain data, and the walks that show it: printed by a program. -/
import Derived.Test.YtpijolohkdchcaaGreatDoorR1V3
import Derived.Test.YtpijolohkdchcaaGreatDoorProg
set_option linter.unusedVariables false
set_option linter.unusedSimpArgs false
set_option linter.unusedSectionVars false
set_option linter.deprecated false
set_option maxRecDepth 100000
set_option maxHeartbeats 4000000
noncomputable section
namespace Go.Proofs
open Go Go.RowKit Go.Vm Go.Proofs.Tryz
structure QF where
 Name:ByteArray
 Kind:Int
 Lo:Int
 Hi:Int
 Names:(List ByteArray)
 First:Int
 Then:Int
structure QZ where
 Name:ByteArray
 Colour:Int
 First:(List (Int×Int))
structure Qau where
 Name:ByteArray
 Colour:Int
structure Qk where
 Kind:Int
 Num:Int
 Kids:(List Qk)
structure Qas where
 Place:Int
 Expr:Qk
structure QG where
 Name:ByteArray
 Vars:(List Qau)
 Guard:Qk
 Join:Int
 Split:Int
 Ins:(List Qas)
 Outs:(List Qas)
 Cancel:(List Int)
 After:Int
 Many:(Int×Int×Int)
structure Qq where
 Colours:(List QF)
 Places:(List QZ)
 Tasks:(List QG)
 From:Int
 To:Int
structure Qh where
 Task:Int
 Vars:(List Int)
 Ins:(List Int)
 Outs:(List Int)
structure QO where
 net:Qq
 m:(List (List (Int×Int)))
 task:QG
 env:(List Int)
structure Qax where
 all:(List QF)
 sizes:(List Int)
 k:Int
structure QfF where
 Kind:Int
 At:Int
def QcC (x:ByteArray):List V:=[.s x]
def Qe (x:Int):List V:=[.i .i64 x]
theorem QCY (l:List Int):∀r∈l.map Qe,∀v∈r,v.sca=true:=QEy (fun _=>rfl) l
def QE7 (x:(List ByteArray)):List V:=[.sl 1 (x.map QcC)]
def Qs (x:QF):List V:=[.s x.Name,.i .i64 x.Kind,.i .i64 x.Lo,.i .i64 x.Hi,.sl 1 (x.Names.map QcC),.i .i64 x.First,.i .i64 x.Then]
def QAJ (x:(List QF)):List V:=[.sl 7 (x.map Qs)]
def Qo (x:(Int×Int)):List V:=[.i .i64 x.1,.i .i64 x.2]
def Qg (x:(List (Int×Int))):List V:=[.sl 2 (x.map Qo)]
def QC (x:QZ):List V:=[.s x.Name,.i .i64 x.Colour,.sl 2 (x.First.map Qo)]
def QBm (x:(List QZ)):List V:=[.sl 3 (x.map QC)]
def QP (x:Qau):List V:=[.s x.Name,.i .i64 x.Colour]
def Qct (x:(List Qau)):List V:=[.sl 2 (x.map QP)]
mutual
def QtO : Qk->List V
 | ⟨x0,x1,x2⟩=>[.i .i64 x0,.i .i64 x1,.sl 3 (Qbg x2)]
def Qbg : List Qk->List (List V)
 | []=>[]
 | e::es=>QtO e::Qbg es
end
def Qn (x:Qk):List V:=[.i .i64 x.Kind,.i .i64 x.Num,.sl 3 (Qbg x.Kids)]
theorem QzX : ∀x:Qk,QtO x=Qn x
 | ⟨x0,x1,x2⟩=>by rw [QtO];rfl
theorem Qk0 : ∀l:List Qk,Qbg l=l.map Qn
 | []=>by rw [Qbg];rfl
 | e::es=>by rw [Qbg,Qk0 es,QzX];rfl
theorem QfG (l:List Qk):(Qbg l).length=l.length:=by rw [Qk0,QpH]
theorem Qbz {l:List Qk}{j:Int}{x:Qk}(h:idx l j=some x):0<=j/\(Qbg l)[j.toNat]? = some (Qn x):=by rw [Qk0];exact QE h
def Q5 (x:Qas):List V:=[.i .i64 x.Place,.i .i64 x.Expr.Kind,.i .i64 x.Expr.Num,.sl 3 (Qbg x.Expr.Kids)]
def QCZ (x:(List Qas)):List V:=[.sl 4 (x.map Q5)]
def Qv (x:(List Int)):List V:=[.sl 1 (x.map Qe)]
def Qy5 (x:(Int×Int×Int)):List V:=[.i .i64 x.1,.i .i64 x.2.1,.i .i64 x.2.2]
def Qm (x:QG):List V:=[.s x.Name,.sl 2 (x.Vars.map QP),.i .i64 x.Guard.Kind,.i .i64 x.Guard.Num,.sl 3 (Qbg x.Guard.Kids),.i .i64 x.Join,.i .i64 x.Split,.sl 4 (x.Ins.map Q5),.sl 4 (x.Outs.map Q5),.sl 1 (x.Cancel.map Qe),.i .i64 x.After,.i .i64 x.Many.1,.i .i64 x.Many.2.1,.i .i64 x.Many.2.2]
def QCc (x:(List QG)):List V:=[.sl 14 (x.map Qm)]
def Qd (x:Qq):List V:=[.sl 7 (x.Colours.map Qs),.sl 3 (x.Places.map QC),.sl 14 (x.Tasks.map Qm),.i .i64 x.From,.i .i64 x.To]
def Qi (x:Qh):List V:=[.i .i64 x.Task,.sl 1 (x.Vars.map Qe),.sl 1 (x.Ins.map Qe),.sl 1 (x.Outs.map Qe)]
def Qan (x:(List (List (Int×Int)))):List V:=[.sl 1 (x.map Qg)]
def Qy (x:QO):List V:=[.sl 7 (x.net.Colours.map Qs),.sl 3 (x.net.Places.map QC),.sl 14 (x.net.Tasks.map Qm),.i .i64 x.net.From,.i .i64 x.net.To,.sl 1 (x.m.map Qg),.s x.task.Name,.sl 2 (x.task.Vars.map QP),.i .i64 x.task.Guard.Kind,.i .i64 x.task.Guard.Num,.sl 3 (Qbg x.task.Guard.Kids),.i .i64 x.task.Join,.i .i64 x.task.Split,.sl 4 (x.task.Ins.map Q5),.sl 4 (x.task.Outs.map Q5),.sl 1 (x.task.Cancel.map Qe),.i .i64 x.task.After,.i .i64 x.task.Many.1,.i .i64 x.task.Many.2.1,.i .i64 x.task.Many.2.2,.sl 1 (x.env.map Qe)]
def Q8 (x:Qax):List V:=[.sl 7 (x.all.map Qs),.sl 1 (x.sizes.map Qe),.i .i64 x.k]
def QW (x:(List (List Int))):List V:=[.sl 1 (x.map Qv)]
def Qx6 (x:(List Qh)):List V:=[.sl 4 (x.map Qi)]
def QdS (x:QfF):List V:=[.i .i64 x.Kind,.i .i64 x.At]
def Qf3 (fn:Nat):Qhw:=QE3 Tryz.f201 0 fn
def QaO (fn:Nat):Qhw:=QE3 Tryz.f88 0 fn
theorem QEq (a0 a1 b0 b1:Int):EqT Tryz.prog 40 [.int .i64 a0,.int .i64 a1] [.int .i64 b0,.int .i64 b1] ((a0==b0)&&(a1==b1)):=by
 refine⟨by kernel_rfl,fun w=>?_⟩
 have u3:=Tryz.underlying3
 have g3:=Tryz.isAgg3
 have z3:=Tryz.sizeOf3
 show(Op.equalIn (9999+1) 40 (.agg #[.int .i64 a0,.int .i64 a1]) (.agg #[.int .i64 b0,.int .i64 b1])).run Tryz.prog w=_
 rw [Op.equalIn]
 simp only [Sem.run_bind,run_underlying Tryz.underlying40,Result.andThen_ok]
 simp only [Std.Legacy.Range.forIn_eq_forIn_range',Std.Legacy.Range.size,Nat.sub_zero,Nat.add_sub_cancel,Nat.div_one,List.range'_succ,List.range'_zero,List.forIn_cons,List.forIn_nil]
 go_simp
 by_cases h0:a0=b0<;>by_cases h1:a1=b1<;>simp [h0,h1]
theorem QFu (a0 a1 a2 b0 b1 b2:Int):EqT Tryz.prog 53 [.int .i64 a0,.int .i64 a1,.int .i64 a2] [.int .i64 b0,.int .i64 b1,.int .i64 b2] ((a0==b0)&&((a1==b1)&&(a2==b2))):=by
 refine⟨by kernel_rfl,fun w=>?_⟩
 have u3:=Tryz.underlying3
 have g3:=Tryz.isAgg3
 have z3:=Tryz.sizeOf3
 show(Op.equalIn (9999+1) 53 (.agg #[.int .i64 a0,.int .i64 a1,.int .i64 a2]) (.agg #[.int .i64 b0,.int .i64 b1,.int .i64 b2])).run Tryz.prog w=_
 rw [Op.equalIn]
 simp only [Sem.run_bind,run_underlying Tryz.underlying53,Result.andThen_ok]
 simp only [Std.Legacy.Range.forIn_eq_forIn_range',Std.Legacy.Range.size,Nat.sub_zero,Nat.add_sub_cancel,Nat.div_one,List.range'_succ,List.range'_zero,List.forIn_cons,List.forIn_nil]
 go_simp
 by_cases h0:a0=b0<;>by_cases h1:a1=b1<;>by_cases h2:a2=b2<;>simp [h0,h1,h2]
theorem QEB : Qvc Tryz.prog 94 1=some (1,false,1):=by kernel_rfl
theorem QEC : Qvc Tryz.prog 94 2=some (2,false,1):=by kernel_rfl
def QD0 : Go.Shelf.Ren:=⟨fun | 157=>238 | 199=>251 | 229=>250 | 261=>258 | 311=>261 | 312=>262 | n=>n,fun | 0=>0 | 3=>3 | 4=>4 | 5=>5 | 9=>9 | 21=>21 | 31=>92 | 40=>238 | 46=>196 | 49=>258 | 51=>219 | 119=>236 | 141=>250 | 152=>246 | 154=>248 | 193=>254 | 194=>255 | 196=>257 | 198=>260 | 201=>263 | 226=>265 | 227=>266 | n=>n,fun | 0=>0 | 6=>1 | n=>n⟩
theorem QC0 : Lays.n157 Tryz.prog QD0 where
 mixed:=by kernel_rfl
 f157:=Tryz.func238.trans (congrArg some (by kernel_rfl))
 f199:=Tryz.func251.trans (congrArg some (by kernel_rfl))
 f229:=Tryz.func250.trans (congrArg some (by kernel_rfl))
 f261:=Tryz.func258.trans (congrArg some (by kernel_rfl))
 f311:=Tryz.func261.trans (congrArg some (by kernel_rfl))
 f312:=Tryz.func262.trans (congrArg some (by kernel_rfl))
 t0:=Tryz.underlying0
 a0:=Tryz.isAgg0
 z0:=Tryz.sizeOf0
 v0:=Tryz.zeroValue0
 t3:=Tryz.underlying3
 a3:=Tryz.isAgg3
 z3:=Tryz.sizeOf3
 v3:=Tryz.zeroValue3
 t4:=Tryz.underlying4
 a4:=Tryz.isAgg4
 z4:=Tryz.sizeOf4
 v4:=Tryz.zeroValue4
 t5:=Tryz.underlying5
 a5:=Tryz.isAgg5
 z5:=Tryz.sizeOf5
 v5:=Tryz.zeroValue5
 t9:=Tryz.underlying9
 a9:=Tryz.isAgg9
 z9:=Tryz.sizeOf9
 v9:=Tryz.zeroValue9
 t21:=Tryz.underlying21
 a21:=Tryz.isAgg21
 z21:=Tryz.sizeOf21
 v21:=Tryz.zeroValue21
 t31:=Tryz.underlying92
 a31:=Tryz.isAgg92
 z31:=Tryz.sizeOf92
 v31:=Tryz.zeroValue92
 t40:=Tryz.underlying238
 a40:=Tryz.isAgg238
 z40:=Tryz.sizeOf238
 v40:=Tryz.zeroValue238
 t46:=Tryz.underlying196
 a46:=Tryz.isAgg196
 z46:=Tryz.sizeOf196
 v46:=Tryz.zeroValue196
 t49:=Tryz.underlying258
 a49:=Tryz.isAgg258
 z49:=Tryz.sizeOf258
 v49:=Tryz.zeroValue258
 t51:=Tryz.underlying219
 a51:=Tryz.isAgg219
 z51:=Tryz.sizeOf219
 v51:=Tryz.zeroValue219
 t119:=Tryz.underlying236
 a119:=Tryz.isAgg236
 z119:=Tryz.sizeOf236
 t141:=Tryz.underlying250
 a141:=Tryz.isAgg250
 z141:=Tryz.sizeOf250
 v141:=Tryz.zeroValue250
 t152:=Tryz.underlying246
 a152:=Tryz.isAgg246
 z152:=Tryz.sizeOf246
 v152:=Tryz.zeroValue246
 t154:=Tryz.underlying248
 a154:=Tryz.isAgg248
 z154:=Tryz.sizeOf248
 v154:=Tryz.zeroValue248
 t193:=Tryz.underlying254
 a193:=Tryz.isAgg254
 z193:=Tryz.sizeOf254
 v193:=Tryz.zeroValue254
 t194:=Tryz.underlying255
 a194:=Tryz.isAgg255
 z194:=Tryz.sizeOf255
 v194:=Tryz.zeroValue255
 t196:=Tryz.underlying257
 a196:=Tryz.isAgg257
 z196:=Tryz.sizeOf257
 v196:=Tryz.zeroValue257
 t198:=Tryz.underlying260
 a198:=Tryz.isAgg260
 z198:=Tryz.sizeOf260
 v198:=Tryz.zeroValue260
 t201:=Tryz.underlying263
 a201:=Tryz.isAgg263
 z201:=Tryz.sizeOf263
 v201:=Tryz.zeroValue263
 t226:=Tryz.underlying265
 a226:=Tryz.isAgg265
 z226:=Tryz.sizeOf265
 v226:=Tryz.zeroValue265
 t227:=Tryz.underlying266
 a227:=Tryz.isAgg266
 z227:=Tryz.sizeOf266
 v227:=Tryz.zeroValue266
 g0:=by kernel_rfl
 g6:=by kernel_rfl
theorem Qvd : Qy3 Tryz.prog 221 .u64=true:=by kernel_rfl
theorem QAK : Qy3 Tryz.prog 3 .i64=true:=by kernel_rfl
theorem QmB : QgW Tryz.prog 3 (V.i .i64) (Value.int .i64):=QgW.int (by kernel_rfl)
theorem QCd : QgW Tryz.prog 9 V.s Value.string:=QgW.str (by kernel_rfl)
theorem mixed : Tryz.prog.follows .mixedOrders=true:=by kernel_rfl
theorem Qx7 : Qtz Tryz.prog 202=some (9,4):=by kernel_rfl
theorem Qis : Qtz Tryz.prog 79=some (3,3):=by kernel_rfl
def QD1 : Go.Shelf.Ren:=⟨fun | 125=>194 | 128=>221 | 129=>222 | 189=>143 | 215=>245 | 216=>218 | 257=>193 | 294=>212 | 295=>213 | 296=>214 | 297=>215 | 298=>216 | 299=>217 | 300=>219 | 301=>220 | 328=>240 | 329=>241 | 330=>242 | 331=>243 | 332=>244 | 343=>252 | n=>n,fun | 0=>0 | 3=>3 | 4=>4 | 5=>5 | 9=>9 | 28=>29 | 46=>196 | 51=>219 | 53=>221 | 131=>132 | 182=>211 | 183=>212 | 218=>229 | 222=>233 | 228=>239 | 229=>240 | n=>n,fun n=>n⟩
theorem QC1 : Lays.n189 Tryz.prog QD1 where
 mixed:=by kernel_rfl
 f125:=Tryz.func194.trans (congrArg some (by kernel_rfl))
 f128:=Tryz.func221.trans (congrArg some (by kernel_rfl))
 f129:=Tryz.func222.trans (congrArg some (by kernel_rfl))
 f189:=Tryz.func143.trans (congrArg some (by kernel_rfl))
 f215:=Tryz.func245.trans (congrArg some (by kernel_rfl))
 f216:=Tryz.func218.trans (congrArg some (by kernel_rfl))
 f257:=Tryz.func193.trans (congrArg some (by kernel_rfl))
 f294:=Tryz.func212.trans (congrArg some (by kernel_rfl))
 f295:=Tryz.func213.trans (congrArg some (by kernel_rfl))
 f296:=Tryz.func214.trans (congrArg some (by kernel_rfl))
 f297:=Tryz.func215.trans (congrArg some (by kernel_rfl))
 f298:=Tryz.func216.trans (congrArg some (by kernel_rfl))
 f299:=Tryz.func217.trans (congrArg some (by kernel_rfl))
 f300:=Tryz.func219.trans (congrArg some (by kernel_rfl))
 f301:=Tryz.func220.trans (congrArg some (by kernel_rfl))
 f328:=Tryz.func240.trans (congrArg some (by kernel_rfl))
 f329:=Tryz.func241.trans (congrArg some (by kernel_rfl))
 f330:=Tryz.func242.trans (congrArg some (by kernel_rfl))
 f331:=Tryz.func243.trans (congrArg some (by kernel_rfl))
 f332:=Tryz.func244.trans (congrArg some (by kernel_rfl))
 f343:=Tryz.func252.trans (congrArg some (by kernel_rfl))
 t0:=Tryz.underlying0
 a0:=Tryz.isAgg0
 z0:=Tryz.sizeOf0
 v0:=Tryz.zeroValue0
 t3:=Tryz.underlying3
 a3:=Tryz.isAgg3
 z3:=Tryz.sizeOf3
 v3:=Tryz.zeroValue3
 t4:=Tryz.underlying4
 a4:=Tryz.isAgg4
 z4:=Tryz.sizeOf4
 v4:=Tryz.zeroValue4
 t5:=Tryz.underlying5
 a5:=Tryz.isAgg5
 z5:=Tryz.sizeOf5
 v5:=Tryz.zeroValue5
 t9:=Tryz.underlying9
 a9:=Tryz.isAgg9
 z9:=Tryz.sizeOf9
 v9:=Tryz.zeroValue9
 t28:=Tryz.underlying29
 a28:=Tryz.isAgg29
 z28:=Tryz.sizeOf29
 v28:=Tryz.zeroValue29
 t46:=Tryz.underlying196
 a46:=Tryz.isAgg196
 z46:=Tryz.sizeOf196
 v46:=Tryz.zeroValue196
 t51:=Tryz.underlying219
 a51:=Tryz.isAgg219
 z51:=Tryz.sizeOf219
 v51:=Tryz.zeroValue219
 t53:=Tryz.underlying221
 a53:=Tryz.isAgg221
 z53:=Tryz.sizeOf221
 v53:=Tryz.zeroValue221
 t131:=Tryz.underlying132
 a131:=Tryz.isAgg132
 z131:=Tryz.sizeOf132
 v131:=Tryz.zeroValue132
 t182:=Tryz.underlying211
 a182:=Tryz.isAgg211
 z182:=Tryz.sizeOf211
 v182:=Tryz.zeroValue211
 t183:=Tryz.underlying212
 a183:=Tryz.isAgg212
 z183:=Tryz.sizeOf212
 v183:=Tryz.zeroValue212
 t218:=Tryz.underlying229
 a218:=Tryz.isAgg229
 z218:=Tryz.sizeOf229
 v218:=Tryz.zeroValue229
 t222:=Tryz.underlying233
 a222:=Tryz.isAgg233
 z222:=Tryz.sizeOf233
 v222:=Tryz.zeroValue233
 t228:=Tryz.underlying239
 a228:=Tryz.isAgg239
 z228:=Tryz.sizeOf239
 v228:=Tryz.zeroValue239
 t229:=Tryz.underlying240
 a229:=Tryz.isAgg240
 z229:=Tryz.sizeOf240
 v229:=Tryz.zeroValue240
theorem QE8 : Tryz.prog.underlying 160=some (.slice 29):=by kernel_rfl
theorem QFv : Tryz.prog.underlying 28=some (.slice 35):=by kernel_rfl
theorem QFw : Tryz.prog.underlying 29=some (.slice 3):=by kernel_rfl
theorem QFx : Tryz.prog.underlying 35=some (.slice 40):=by kernel_rfl
theorem Qw4 : Qm3 Tryz.prog 3 ((V.i .i64) 0):=Qm3.one (v:=.int .i64 0) (by kernel_rfl)
theorem QE9 : Qm3 Tryz.prog 4 (V.b false):=Qm3.one (v:=.bool false) (by kernel_rfl)
theorem QGa : QaC Tryz.prog 3=some [.i .i64 0]:=by kernel_rfl
theorem QFy : QaC Tryz.prog 26=some [.lit (.slice none 0 0),.lit (.slice none 0 0),.lit (.slice none 0 0),.i .i64 0,.i .i64 0]:=by kernel_rfl
theorem QEr : QaC Tryz.prog 29=some [.lit (.slice none 0 0)]:=by kernel_rfl
theorem QFz : QaC Tryz.prog 31=some [.i .i64 0,.lit (.slice none 0 0),.lit (.slice none 0 0),.lit (.slice none 0 0)]:=by kernel_rfl
theorem QFA : QaC Tryz.prog 35=some [.lit (.slice none 0 0)]:=by kernel_rfl
theorem QFB : QaC Tryz.prog 36=some [.i .i64 0]:=by kernel_rfl
theorem QFC : QaC Tryz.prog 40=some [.i .i64 0,.i .i64 0]:=by kernel_rfl
theorem QFD : QaC Tryz.prog 42=some [.lit (.slice none 0 0)]:=by kernel_rfl
theorem QFE : QaC Tryz.prog 51=some [.i .i64 0,.i .i64 0,.lit (.slice none 0 0)]:=by kernel_rfl
theorem QFF : QaC Tryz.prog 53=some [.i .i64 0,.i .i64 0,.i .i64 0]:=by kernel_rfl
theorem QFG : QaC Tryz.prog 55=some [.s (⟨#[]⟩:ByteArray),.lit (.slice none 0 0),.i .i64 0,.i .i64 0,.lit (.slice none 0 0),.i .i64 0,.i .i64 0,.lit (.slice none 0 0),.lit (.slice none 0 0),.lit (.slice none 0 0),.i .i64 0,.i .i64 0,.i .i64 0,.i .i64 0]:=by kernel_rfl
theorem QFH : QaC Tryz.prog 67=some [.i .i64 0,.i .i64 0]:=by kernel_rfl
theorem QFI : QaC Tryz.prog 89=some [.s (⟨#[]⟩:ByteArray),.i .i64 0,.lit (.slice none 0 0)]:=by kernel_rfl
theorem QFJ : QaC Tryz.prog 94=some [.s (⟨#[]⟩:ByteArray),.i .i64 0,.i .i64 0,.i .i64 0,.lit (.slice none 0 0),.i .i64 0,.i .i64 0]:=by kernel_rfl
theorem QFK : QaC Tryz.prog 96=some [.s (⟨#[]⟩:ByteArray),.i .i64 0]:=by kernel_rfl
theorem QFL : QaC Tryz.prog 98=some [.i .i64 0,.i .i64 0,.i .i64 0,.lit (.slice none 0 0)]:=by kernel_rfl
theorem Qoy : QaC Tryz.prog 102=some [.lit (.nilFunc),.i .i64 0]:=by kernel_rfl
theorem QFa : QaC Tryz.prog 113=some [.lit (.slice none 0 0),.lit (.slice none 0 0),.lit (.slice none 0 0),.i .i64 0,.i .i64 0,.lit (.slice none 0 0),.s (⟨#[]⟩:ByteArray),.lit (.slice none 0 0),.i .i64 0,.i .i64 0,.lit (.slice none 0 0),.i .i64 0,.i .i64 0,.lit (.slice none 0 0),.lit (.slice none 0 0),.lit (.slice none 0 0),.i .i64 0,.i .i64 0,.i .i64 0,.i .i64 0,.lit (.slice none 0 0)]:=by kernel_rfl
theorem QFb : QaC Tryz.prog 136=some [.lit (.slice none 0 0),.lit (.slice none 0 0),.i .i64 0]:=by kernel_rfl
theorem QFc : QaC Tryz.prog 146=some [.lit (.nilFunc)]:=by kernel_rfl
theorem QFd : QaC Tryz.prog 151=some [.lit (.nilFunc)]:=by kernel_rfl
theorem QFe : QaC Tryz.prog 160=some [.lit (.slice none 0 0)]:=by kernel_rfl
theorem QFf : QaC Tryz.prog 183=some [.lit (.nilFunc)]:=by kernel_rfl
def tab : Tab:={ ag:=[(3,false),(9,false),(22,false),(23,false),(24,false),(26,true),(28,false),(29,false),(31,true),(32,false),(35,false),(36,false),(40,true),(42,false),(48,false),(49,false),(51,true),(52,false),(53,true),(55,true),(67,true),(79,false),(89,true),(92,false),(94,true),(96,true),(98,true),(102,true),(113,true),(116,false),(136,true),(146,false),(151,false),(154,false),(160,false),(183,false)],sz:=[(3,1),(26,5),(29,1),(31,4),(35,1),(36,1),(40,2),(42,1),(51,3),(53,3),(55,14),(67,2),(89,3),(94,7),(96,2),(98,4),(102,2),(113,21),(136,3),(146,1),(151,1),(160,1),(183,1)],fo:=[(26,[0,1,2,3,4]),(31,[0,1,2,3]),(51,[0,1,2]),(55,[0,1,2,5,6,7,8,9,10,11]),(89,[0,1,2]),(94,[0,1,2,3,4,5,6]),(96,[0,1]),(98,[0,1]),(102,[0,1]),(113,[0,5,6,20]),(136,[0,1,2])],sp:=[(26,[(0,1),(1,1),(2,1),(3,1),(4,1)]),(31,[(0,1),(1,1),(2,1),(3,1)]),(51,[(0,1),(1,1),(2,1)]),(55,[(0,1),(1,1),(2,3),(5,1),(6,1),(7,1),(8,1),(9,1),(10,1),(11,3)]),(67,[(0,1),(1,1)]),(89,[(0,1),(1,1),(2,1)]),(94,[(0,1),(1,1),(2,1),(3,1),(4,1),(5,1),(6,1)]),(96,[(0,1),(1,1)]),(98,[(0,1),(1,3)]),(102,[(0,1),(1,1)]),(113,[(0,5),(5,1),(6,14),(20,1)]),(136,[(0,1),(1,1),(2,1)])],es:=[(22,(94,7,80)),(23,(89,3,48)),(24,(55,14,200)),(28,(35,1,24)),(29,(3,1,8)),(35,(40,2,16)),(42,(31,4,80)),(48,(96,2,24)),(49,(51,3,40)),(52,(98,4,48)),(92,(9,1,16)),(140,(102,2,16)),(160,(29,1,24)),(174,(3,1,8))],ar:=[(40,(2,1)),(53,(3,1))],zv:=[(3,[.i .i64 0]),(26,[.lit (.slice none 0 0),.lit (.slice none 0 0),.lit (.slice none 0 0),.i .i64 0,.i .i64 0]),(29,[.lit (.slice none 0 0)]),(31,[.i .i64 0,.lit (.slice none 0 0),.lit (.slice none 0 0),.lit (.slice none 0 0)]),(35,[.lit (.slice none 0 0)]),(36,[.i .i64 0]),(40,[.i .i64 0,.i .i64 0]),(42,[.lit (.slice none 0 0)]),(51,[.i .i64 0,.i .i64 0,.lit (.slice none 0 0)]),(53,[.i .i64 0,.i .i64 0,.i .i64 0]),(55,[.s (⟨#[]⟩:ByteArray),.lit (.slice none 0 0),.i .i64 0,.i .i64 0,.lit (.slice none 0 0),.i .i64 0,.i .i64 0,.lit (.slice none 0 0),.lit (.slice none 0 0),.lit (.slice none 0 0),.i .i64 0,.i .i64 0,.i .i64 0,.i .i64 0]),(67,[.i .i64 0,.i .i64 0]),(89,[.s (⟨#[]⟩:ByteArray),.i .i64 0,.lit (.slice none 0 0)]),(94,[.s (⟨#[]⟩:ByteArray),.i .i64 0,.i .i64 0,.i .i64 0,.lit (.slice none 0 0),.i .i64 0,.i .i64 0]),(96,[.s (⟨#[]⟩:ByteArray),.i .i64 0]),(98,[.i .i64 0,.i .i64 0,.i .i64 0,.lit (.slice none 0 0)]),(102,[.lit (.nilFunc),.i .i64 0]),(113,[.lit (.slice none 0 0),.lit (.slice none 0 0),.lit (.slice none 0 0),.i .i64 0,.i .i64 0,.lit (.slice none 0 0),.s (⟨#[]⟩:ByteArray),.lit (.slice none 0 0),.i .i64 0,.i .i64 0,.lit (.slice none 0 0),.i .i64 0,.i .i64 0,.lit (.slice none 0 0),.lit (.slice none 0 0),.lit (.slice none 0 0),.i .i64 0,.i .i64 0,.i .i64 0,.i .i64 0,.lit (.slice none 0 0)]),(136,[.lit (.slice none 0 0),.lit (.slice none 0 0),.i .i64 0]),(146,[.lit (.nilFunc)]),(151,[.lit (.nilFunc)]),(160,[.lit (.slice none 0 0)]),(183,[.lit (.nilFunc)])],sb:=[9],bo:=[4],cc:=[],en:=[8,9,10,11,12,13,14,16,17,18,19,20,21,22,23,24,25,26,27,29,30,31,32,33,34,35,36,37,38,39,40,41,42,43,44,45,46,47,48,49,50,51,52,53,54,56,57,58,59,60,61,62,63,64,65,66,67,68,69,70,71,72,73,74,75,76,77,78,79,80,81,82,83,84,85,86,87,88,89,90,91,92,93,94,95,96,97,98,99,100,101,102,103,104,105,106,107,108,109,110,111,112,113,114,115,116,117,118,119,120,121,122,123,124,125,126,127,128,129,130,131,132,133,134,135,136,137,138,139,140,141,142,143,144,145,146,147,148,149,150,151,152,153,154,155,156,157,158,159,160,161,162,163,164,165,166,167,168,169,170,171,172,173,174,175,176,177,178,179,180,181,182,183,184,185,186,187,188,189,190,191,192,195,196,197,198,199,200,201,202,203,204,205,206,207,208,209,210,211,223,224,225,226,227,228,229,230,231,232,233,234,235,236,237,238,239,246,247,248,249,253,254,255,256,257,259,260] }
theorem Qr : Qd0 Tryz.prog tab:=Tab.ok (by kernel_rfl) (Qea.2 ⟨QGa,Qea.2 ⟨QFy,Qea.2 ⟨QEr,Qea.2 ⟨QFz,Qea.2 ⟨QFA,Qea.2 ⟨QFB,Qea.2 ⟨QFC,Qea.2 ⟨QFD,Qea.2 ⟨QFE,Qea.2 ⟨QFF,Qea.2 ⟨QFG,Qea.2 ⟨QFH,Qea.2 ⟨QFI,Qea.2 ⟨QFJ,Qea.2 ⟨QFK,Qea.2 ⟨QFL,Qea.2 ⟨Qoy,Qea.2 ⟨QFa,Qea.2 ⟨QFb,Qea.2 ⟨QFc,Qea.2 ⟨QFd,Qea.2 ⟨QFe,Qea.2 ⟨QFf,fun _ h=>(by cases h)⟩⟩⟩⟩⟩⟩⟩⟩⟩⟩⟩⟩⟩⟩⟩⟩⟩⟩⟩⟩⟩⟩⟩)
theorem Qa {C:Ctx}{Q:Exit->St->Prop}{n:Nat}{pt pt1:Pt}{ks ks1:List Fr}{σ σ1:St}{φ:Prop}(hC:Qdy Tryz.prog C n)(ds:List Dir)(e:Vm.go Tryz.prog C tab n ds pt ks σ True=some ⟨pt1,ks1,σ1,φ⟩)(hφ:φ)(h:AK Tryz.prog C Q pt1 ks1 σ1):AK Tryz.prog C Q pt ks σ:=AK.go Qr hC ds e hφ h
abbrev QBg := List (Int×Int)
abbrev QMk := List QBg
abbrev QLL := List (List Int)
abbrev QSB := List (ByteArray×Bool)
theorem tt_ : True:=trivial
theorem an_ {a b:Prop}(x:a)(y:b):a/\b:=⟨x,y⟩
theorem ex_ {α:Sort _}{p:α->Prop}(w:α)(h:p w):∃x,p x:=⟨w,h⟩
end Go.Proofs
namespace Go.Vm
open Go Go.RowKit
noncomputable abbrev Dir.K (a b:List Nat):Dir:=.keep a b
noncomputable abbrev Dir.S (a:Nat)(b:V):Dir:=.say a b
noncomputable abbrev Dir.O (a:Nat)(b:Ob):Dir:=.sayO a b
noncomputable abbrev Dir.T:Dir:=.br true
noncomputable abbrev Dir.F:Dir:=.br false
noncomputable abbrev Dw.N:Dw:=.a .no none false
noncomputable abbrev V.I (n:Int):V:=.i .i64 n
noncomputable abbrev V.L (n:Nat):V:=.loc n 0 0
noncomputable abbrev Dir.A (x:List V):Dir:=.v .no [] (.agg x)
noncomputable instance dn_ (n:Nat):OfNat Dir n:=⟨.n n⟩
noncomputable abbrev Qde.C1 (v:V):Qde:=.c false [.d] v
noncomputable abbrev Qde.C2 (v:V):Qde:=.c false [.d,.d] v
noncomputable abbrev Qde.C3 (v:V):Qde:=.c false [.d,.d,.d] v
noncomputable abbrev Qde.C4 (v:V):Qde:=.c false [.d,.d,.d,.d] v
noncomputable abbrev Qde.C5 (v:V):Qde:=.c false [.d,.d,.d,.d,.d] v
noncomputable abbrev Qde.C6 (v:V):Qde:=.c false [.d,.d,.d,.d,.d,.d] v
noncomputable abbrev Qde.C7 (v:V):Qde:=.c false [.d,.d,.d,.d,.d,.d,.d] v
noncomputable abbrev Qde.C8 (v:V):Qde:=.c false [.d,.d,.d,.d,.d,.d,.d,.d] v
end Go.Vm
namespace Go.Proofs
open Go Go.RowKit Go.Vm Go.Proofs.Tryz
theorem bg_ {α:Type}{c:Bool}{x y:Option α}{r:α}{G:Prop}(h:(bif c then x else y)=some r)(f:c=true->x=some r->G)(g:c=false->y=some r->G):G:=by
 cases c
 ·exact g rfl h
 exact f rfl h
noncomputable abbrev lk_ (n:Nat):Nat×V:=(n,.loc n 0 0)
theorem a1_ {x0:Prop}(h0:x0):True/\x0:=⟨trivial,h0⟩
theorem a2_ {x0 x1:Prop}(h0:x0)(h1:x1):(True/\x0)/\x1:=⟨⟨trivial,h0⟩,h1⟩
theorem a3_ {x0 x1 x2:Prop}(h0:x0)(h1:x1)(h2:x2):((True/\x0)/\x1)/\x2:=⟨⟨⟨trivial,h0⟩,h1⟩,h2⟩
theorem a4_ {x0 x1 x2 x3:Prop}(h0:x0)(h1:x1)(h2:x2)(h3:x3):(((True/\x0)/\x1)/\x2)/\x3:=⟨⟨⟨⟨trivial,h0⟩,h1⟩,h2⟩,h3⟩
theorem a5_ {x0 x1 x2 x3 x4:Prop}(h0:x0)(h1:x1)(h2:x2)(h3:x3)(h4:x4):((((True/\x0)/\x1)/\x2)/\x3)/\x4:=⟨⟨⟨⟨⟨trivial,h0⟩,h1⟩,h2⟩,h3⟩,h4⟩
theorem a6_ {x0 x1 x2 x3 x4 x5:Prop}(h0:x0)(h1:x1)(h2:x2)(h3:x3)(h4:x4)(h5:x5):(((((True/\x0)/\x1)/\x2)/\x3)/\x4)/\x5:=⟨⟨⟨⟨⟨⟨trivial,h0⟩,h1⟩,h2⟩,h3⟩,h4⟩,h5⟩
theorem a7_ {x0 x1 x2 x3 x4 x5 x6:Prop}(h0:x0)(h1:x1)(h2:x2)(h3:x3)(h4:x4)(h5:x5)(h6:x6):((((((True/\x0)/\x1)/\x2)/\x3)/\x4)/\x5)/\x6:=⟨⟨⟨⟨⟨⟨⟨trivial,h0⟩,h1⟩,h2⟩,h3⟩,h4⟩,h5⟩,h6⟩
theorem a8_ {x0 x1 x2 x3 x4 x5 x6 x7:Prop}(h0:x0)(h1:x1)(h2:x2)(h3:x3)(h4:x4)(h5:x5)(h6:x6)(h7:x7):(((((((True/\x0)/\x1)/\x2)/\x3)/\x4)/\x5)/\x6)/\x7:=⟨⟨⟨⟨⟨⟨⟨⟨trivial,h0⟩,h1⟩,h2⟩,h3⟩,h4⟩,h5⟩,h6⟩,h7⟩
theorem a9_ {x0 x1 x2 x3 x4 x5 x6 x7 x8:Prop}(h0:x0)(h1:x1)(h2:x2)(h3:x3)(h4:x4)(h5:x5)(h6:x6)(h7:x7)(h8:x8):((((((((True/\x0)/\x1)/\x2)/\x3)/\x4)/\x5)/\x6)/\x7)/\x8:=⟨⟨⟨⟨⟨⟨⟨⟨⟨trivial,h0⟩,h1⟩,h2⟩,h3⟩,h4⟩,h5⟩,h6⟩,h7⟩,h8⟩
theorem aA_ {x0 x1 x2 x3 x4 x5 x6 x7 x8 x9:Prop}(h0:x0)(h1:x1)(h2:x2)(h3:x3)(h4:x4)(h5:x5)(h6:x6)(h7:x7)(h8:x8)(h9:x9):(((((((((True/\x0)/\x1)/\x2)/\x3)/\x4)/\x5)/\x6)/\x7)/\x8)/\x9:=⟨⟨⟨⟨⟨⟨⟨⟨⟨⟨trivial,h0⟩,h1⟩,h2⟩,h3⟩,h4⟩,h5⟩,h6⟩,h7⟩,h8⟩,h9⟩
theorem aB_ {x0 x1 x2 x3 x4 x5 x6 x7 x8 x9 x10:Prop}(h0:x0)(h1:x1)(h2:x2)(h3:x3)(h4:x4)(h5:x5)(h6:x6)(h7:x7)(h8:x8)(h9:x9)(h10:x10):((((((((((True/\x0)/\x1)/\x2)/\x3)/\x4)/\x5)/\x6)/\x7)/\x8)/\x9)/\x10:=⟨⟨⟨⟨⟨⟨⟨⟨⟨⟨⟨trivial,h0⟩,h1⟩,h2⟩,h3⟩,h4⟩,h5⟩,h6⟩,h7⟩,h8⟩,h9⟩,h10⟩
theorem aC_ {x0 x1 x2 x3 x4 x5 x6 x7 x8 x9 x10 x11:Prop}(h0:x0)(h1:x1)(h2:x2)(h3:x3)(h4:x4)(h5:x5)(h6:x6)(h7:x7)(h8:x8)(h9:x9)(h10:x10)(h11:x11):(((((((((((True/\x0)/\x1)/\x2)/\x3)/\x4)/\x5)/\x6)/\x7)/\x8)/\x9)/\x10)/\x11:=⟨⟨⟨⟨⟨⟨⟨⟨⟨⟨⟨⟨trivial,h0⟩,h1⟩,h2⟩,h3⟩,h4⟩,h5⟩,h6⟩,h7⟩,h8⟩,h9⟩,h10⟩,h11⟩
theorem r1_ {α:Type}{a0:α}:a0=a0/\True:=⟨rfl,trivial⟩
theorem r2_ {α:Type}{a0 a1:α}:a0=a0/\a1=a1/\True:=⟨rfl,rfl,trivial⟩
theorem r3_ {α:Type}{a0 a1 a2:α}:a0=a0/\a1=a1/\a2=a2/\True:=⟨rfl,rfl,rfl,trivial⟩
theorem r4_ {α:Type}{a0 a1 a2 a3:α}:a0=a0/\a1=a1/\a2=a2/\a3=a3/\True:=⟨rfl,rfl,rfl,rfl,trivial⟩
theorem r5_ {α:Type}{a0 a1 a2 a3 a4:α}:a0=a0/\a1=a1/\a2=a2/\a3=a3/\a4=a4/\True:=⟨rfl,rfl,rfl,rfl,rfl,trivial⟩
theorem r6_ {α:Type}{a0 a1 a2 a3 a4 a5:α}:a0=a0/\a1=a1/\a2=a2/\a3=a3/\a4=a4/\a5=a5/\True:=⟨rfl,rfl,rfl,rfl,rfl,rfl,trivial⟩
theorem r7_ {α:Type}{a0 a1 a2 a3 a4 a5 a6:α}:a0=a0/\a1=a1/\a2=a2/\a3=a3/\a4=a4/\a5=a5/\a6=a6/\True:=⟨rfl,rfl,rfl,rfl,rfl,rfl,rfl,trivial⟩
theorem r8_ {α:Type}{a0 a1 a2 a3 a4 a5 a6 a7:α}:a0=a0/\a1=a1/\a2=a2/\a3=a3/\a4=a4/\a5=a5/\a6=a6/\a7=a7/\True:=⟨rfl,rfl,rfl,rfl,rfl,rfl,rfl,rfl,trivial⟩
theorem r9_ {α:Type}{a0 a1 a2 a3 a4 a5 a6 a7 a8:α}:a0=a0/\a1=a1/\a2=a2/\a3=a3/\a4=a4/\a5=a5/\a6=a6/\a7=a7/\a8=a8/\True:=⟨rfl,rfl,rfl,rfl,rfl,rfl,rfl,rfl,rfl,trivial⟩
theorem rA_ {α:Type}{a0 a1 a2 a3 a4 a5 a6 a7 a8 a9:α}:a0=a0/\a1=a1/\a2=a2/\a3=a3/\a4=a4/\a5=a5/\a6=a6/\a7=a7/\a8=a8/\a9=a9/\True:=⟨rfl,rfl,rfl,rfl,rfl,rfl,rfl,rfl,rfl,rfl,trivial⟩
theorem rB_ {α:Type}{a0 a1 a2 a3 a4 a5 a6 a7 a8 a9 a10:α}:a0=a0/\a1=a1/\a2=a2/\a3=a3/\a4=a4/\a5=a5/\a6=a6/\a7=a7/\a8=a8/\a9=a9/\a10=a10/\True:=⟨rfl,rfl,rfl,rfl,rfl,rfl,rfl,rfl,rfl,rfl,rfl,trivial⟩
theorem rC_ {α:Type}{a0 a1 a2 a3 a4 a5 a6 a7 a8 a9 a10 a11:α}:a0=a0/\a1=a1/\a2=a2/\a3=a3/\a4=a4/\a5=a5/\a6=a6/\a7=a7/\a8=a8/\a9=a9/\a10=a10/\a11=a11/\True:=⟨rfl,rfl,rfl,rfl,rfl,rfl,rfl,rfl,rfl,rfl,rfl,rfl,trivial⟩
theorem rD_ {α:Type}{a0 a1 a2 a3 a4 a5 a6 a7 a8 a9 a10 a11 a12:α}:a0=a0/\a1=a1/\a2=a2/\a3=a3/\a4=a4/\a5=a5/\a6=a6/\a7=a7/\a8=a8/\a9=a9/\a10=a10/\a11=a11/\a12=a12/\True:=⟨rfl,rfl,rfl,rfl,rfl,rfl,rfl,rfl,rfl,rfl,rfl,rfl,rfl,trivial⟩
theorem rE_ {α:Type}{a0 a1 a2 a3 a4 a5 a6 a7 a8 a9 a10 a11 a12 a13:α}:a0=a0/\a1=a1/\a2=a2/\a3=a3/\a4=a4/\a5=a5/\a6=a6/\a7=a7/\a8=a8/\a9=a9/\a10=a10/\a11=a11/\a12=a12/\a13=a13/\True:=⟨rfl,rfl,rfl,rfl,rfl,rfl,rfl,rfl,rfl,rfl,rfl,rfl,rfl,rfl,trivial⟩
theorem rF_ {α:Type}{a0 a1 a2 a3 a4 a5 a6 a7 a8 a9 a10 a11 a12 a13 a14:α}:a0=a0/\a1=a1/\a2=a2/\a3=a3/\a4=a4/\a5=a5/\a6=a6/\a7=a7/\a8=a8/\a9=a9/\a10=a10/\a11=a11/\a12=a12/\a13=a13/\a14=a14/\True:=⟨rfl,rfl,rfl,rfl,rfl,rfl,rfl,rfl,rfl,rfl,rfl,rfl,rfl,rfl,rfl,trivial⟩
theorem rG_ {α:Type}{a0 a1 a2 a3 a4 a5 a6 a7 a8 a9 a10 a11 a12 a13 a14 a15:α}:a0=a0/\a1=a1/\a2=a2/\a3=a3/\a4=a4/\a5=a5/\a6=a6/\a7=a7/\a8=a8/\a9=a9/\a10=a10/\a11=a11/\a12=a12/\a13=a13/\a14=a14/\a15=a15/\True:=⟨rfl,rfl,rfl,rfl,rfl,rfl,rfl,rfl,rfl,rfl,rfl,rfl,rfl,rfl,rfl,rfl,trivial⟩
theorem rH_ {α:Type}{a0 a1 a2 a3 a4 a5 a6 a7 a8 a9 a10 a11 a12 a13 a14 a15 a16:α}:a0=a0/\a1=a1/\a2=a2/\a3=a3/\a4=a4/\a5=a5/\a6=a6/\a7=a7/\a8=a8/\a9=a9/\a10=a10/\a11=a11/\a12=a12/\a13=a13/\a14=a14/\a15=a15/\a16=a16/\True:=⟨rfl,rfl,rfl,rfl,rfl,rfl,rfl,rfl,rfl,rfl,rfl,rfl,rfl,rfl,rfl,rfl,rfl,trivial⟩
theorem rI_ {α:Type}{a0 a1 a2 a3 a4 a5 a6 a7 a8 a9 a10 a11 a12 a13 a14 a15 a16 a17:α}:a0=a0/\a1=a1/\a2=a2/\a3=a3/\a4=a4/\a5=a5/\a6=a6/\a7=a7/\a8=a8/\a9=a9/\a10=a10/\a11=a11/\a12=a12/\a13=a13/\a14=a14/\a15=a15/\a16=a16/\a17=a17/\True:=⟨rfl,rfl,rfl,rfl,rfl,rfl,rfl,rfl,rfl,rfl,rfl,rfl,rfl,rfl,rfl,rfl,rfl,rfl,trivial⟩
theorem rJ_ {α:Type}{a0 a1 a2 a3 a4 a5 a6 a7 a8 a9 a10 a11 a12 a13 a14 a15 a16 a17 a18:α}:a0=a0/\a1=a1/\a2=a2/\a3=a3/\a4=a4/\a5=a5/\a6=a6/\a7=a7/\a8=a8/\a9=a9/\a10=a10/\a11=a11/\a12=a12/\a13=a13/\a14=a14/\a15=a15/\a16=a16/\a17=a17/\a18=a18/\True:=⟨rfl,rfl,rfl,rfl,rfl,rfl,rfl,rfl,rfl,rfl,rfl,rfl,rfl,rfl,rfl,rfl,rfl,rfl,rfl,trivial⟩
theorem rK_ {α:Type}{a0 a1 a2 a3 a4 a5 a6 a7 a8 a9 a10 a11 a12 a13 a14 a15 a16 a17 a18 a19:α}:a0=a0/\a1=a1/\a2=a2/\a3=a3/\a4=a4/\a5=a5/\a6=a6/\a7=a7/\a8=a8/\a9=a9/\a10=a10/\a11=a11/\a12=a12/\a13=a13/\a14=a14/\a15=a15/\a16=a16/\a17=a17/\a18=a18/\a19=a19/\True:=⟨rfl,rfl,rfl,rfl,rfl,rfl,rfl,rfl,rfl,rfl,rfl,rfl,rfl,rfl,rfl,rfl,rfl,rfl,rfl,rfl,trivial⟩
theorem wk_ {f:FuncId}{fn:Func}{c:Code}{args:List V}{hs:List (Nat×Ob)}{post:V->List (Nat×Ob)->Prop}(n:Nat)(hf:Tryz.prog.funcs[f]? = some fn)(h:∀C:Ctx,Qdy Tryz.prog C n->AK Tryz.prog C (Qtu Tryz.prog fn.results.toList post) (.c c) [] ⟨Qm0 0 args,hs⟩)(hb:fn.body=some c:=by rfl)(hn:fn.ntmps=n:=by rfl)(hle:(Nat.ble args.length n&&Nat.ble n 617)=true:=by rfl):Qc Tryz.prog f args hs post:=Qc.walk n hf hb hn hle h
theorem bq_ {C:Ctx}{Q:Exit->St->Prop}{n:Nat}{pt p1 p2:Pt}{ks k1 k2:List Fr}{σ s1 s2:St}{α:Type}{c:Bool}{x y:Option α}{r:α}(hC:Qdy Tryz.prog C n)(h:(bif c then x else y)=some r)(ds:List Dir)(e:Vm.go Tryz.prog C tab n ds pt ks σ True=some ⟨p1,k1,s1,True/\c=true⟩)(f:c=true->x=some r->AK Tryz.prog C Q p1 k1 s1)(dt:List Dir)(e2:Vm.go Tryz.prog C tab n dt pt ks σ True=some ⟨p2,k2,s2,True/\c=false⟩)(g:c=false->y=some r->AK Tryz.prog C Q p2 k2 s2):AK Tryz.prog C Q pt ks σ:=by
 cases c
 ·exact AK.go Qr hC dt e2 ⟨trivial,rfl⟩ (g rfl h)
 exact AK.go Qr hC ds e ⟨trivial,rfl⟩ (f rfl h)
theorem mt_ {C:Ctx}{Q:Exit->St->Prop}{ks:List Fr}{σ:St}:AK Tryz.prog C Q (.x .normal) (.cut (fun s=>s=σ)::ks) σ:=AK.met rfl
theorem cb_ {a b:Bool}(h:a=b):V.b a=V.b b:=congrArg V.b h
theorem tc_ {a b:Bool}(h:a=b):True/\V.b a=V.b b:=⟨trivial,congrArg V.b h⟩
def QFg : Exit->Bool
 | .normal=>true
 | .ret=>true
 | _=>false
theorem d1_ {C:Ctx}{t:Nat}{r:V}{outs:List (Nat×Ob)}{σ:St}{e:Exit}(hs:Qhx σ.hp outs)(he:QFg e=true:=by rfl)(h:Go.Vm.look σ.fr t=some r:=by rfl):AK Tryz.prog C (Qtu Tryz.prog [.tmp t] (Gives r outs)) (.x e) [] σ:=by
 cases e<;>first | exact AK.done ⟨[r],⟨h,trivial⟩,gives hs⟩|cases he
theorem d2_ {C:Ctx}{t u:Nat}{r s:V}{outs:List (Nat×Ob)}{σ:St}{e:Exit}(hs:Qhx σ.hp outs)(he:QFg e=true:=by rfl)(h:Go.Vm.look σ.fr t=some r:=by rfl)(k:Go.Vm.look σ.fr u=some s:=by rfl):AK Tryz.prog C (Qtu Tryz.prog [.tmp t,.tmp u] (Gives (.tup [r,s]) outs)) (.x e) [] σ:=by
 cases e<;>first | exact AK.done ⟨[r,s],⟨h,k,trivial⟩,gives hs⟩|cases he
theorem tg_ {C:Ctx}{Q:Exit->St->Prop}{n:Nat}{pt pt1:Pt}{ks ks1:List Fr}{σ σ1:St}(hC:Qdy Tryz.prog C n)(ds:List Dir)(h:AK Tryz.prog C Q pt1 ks1 σ1)(e:Vm.go Tryz.prog C tab n ds pt ks σ True=some ⟨pt1,ks1,σ1,True⟩:=by rfl):AK Tryz.prog C Q pt ks σ:=AK.go Qr hC ds e trivial h
theorem Qao {c:Bool}{β:Type}{f:Unit->Option β}{r:β}(h:(chk c).bind f=some r):c=true/\f ()=some r:=by
 obtain⟨_,k,h⟩:=Qb h
 exact⟨QBK k,h⟩
abbrev QGb (a0 a1:V):List V:=[.J,.J,a0,.J,.J,.J,.J,a1,.J,.J,.J,.J,.J]
abbrev Qsm (a0:V):List V:=[.J,.J,a0,.J,.J,.J,.J,.J,.J,.J,.J,.J,.J]
abbrev QGc (a0 a1 a2 a3 a4 a5 a6 a7 a8:V):List V:=[.J,.J,.J,.J,a0,a1,a2,a3,a4,.J,a5,a6,a7,.J,.J,.J,.J,.J,.J,.J,.J,.J,.J,.J,.J,.J,.J,.J,.J,.J,.J,.J,.J,.J,.J,.J,.J,.J,.J,.J,.J,.J,.J,.J,.J,.J,.J,.J,.J,.J,.J,.J,.J,.J,a8,.J,.J,.J,.J,.J,.J,.J,.J,.J,.J,.J,.J,.J,.J,.J,.J,.J,.J,.J,.J,.J,.J,.J,.J,.J,.J,.J,.J,.J,.J,.J,.J,.J,.J,.J,.J,.J,.J,.J,.J,.J,.J,.J,.J,.J,.J,.J,.J,.J,.J,.J,.J,.J,.J]
abbrev QeC (a0 a1 a2 a3 a4 a5 a6 a7:V):List V:=[.J,.J,.J,.J,a0,a1,a2,a3,a4,.J,a5,a6,a7,.J,.J,.J,.J,.J,.J,.J,.J,.J,.J,.J,.J,.J,.J,.J,.J,.J,.J,.J,.J,.J,.J,.J,.J,.J,.J,.J,.J,.J,.J,.J,.J,.J,.J,.J,.J,.J,.J,.J,.J,.J,.J,.J,.J,.J,.J,.J,.J,.J,.J,.J,.J,.J,.J,.J,.J,.J,.J,.J,.J,.J,.J,.J,.J,.J,.J,.J,.J,.J,.J,.J,.J,.J,.J,.J,.J,.J,.J,.J,.J,.J,.J,.J,.J,.J,.J,.J,.J,.J,.J,.J,.J,.J,.J,.J,.J]
def QwS  : Option Qq:=
 some (Qq.mk ([(QF.mk (⟨#[110]⟩:ByteArray) 1 0 3 ([]:(List ByteArray)) 0 0)]:List QF) ([(QZ.mk (⟨#[97]⟩:ByteArray) 0 ([]:QBg)),(QZ.mk (⟨#[98]⟩:ByteArray) 0 ([]:QBg)),(QZ.mk (⟨#[99]⟩:ByteArray) 0 ([]:QBg))]:List QZ) ([(QG.mk (⟨#[116]⟩:ByteArray) ([(Qau.mk (⟨#[120]⟩:ByteArray) 0)]:List Qau) (Qk.mk 1 1 ([]:(List Qk))) 1 1 ([(Qas.mk 0 (Qk.mk 2 0 ([]:(List Qk))))]:List Qas) ([(Qas.mk 1 (Qk.mk 5 1 ([(Qk.mk 2 0 ([]:(List Qk))),(Qk.mk 1 1 ([]:(List Qk)))]:List Qk)))]:List Qas) ([2]:List Int) 0 (0,0,0))]:List QG) 0 1)
theorem Qy6  {r:Qq}(h:QwS  = some r):Qc prog 29 [] [] (Gives (.agg (Qd r)) []):=by
 refine wk_ 29 func29 fun C a=>?_
 refine Qa a [7,.v .no [none,none,some 3] (.agg (Qn (Qk.mk 2 0 ([]:(List Qk))))),2,.O 1 (.var (Qn (Qk.mk 2 0 ([]:(List Qk))))),4,.v .no [none,none,some 3] (.agg (Qn (Qk.mk 1 1 ([]:(List Qk))))),2,.O 2 (.var (Qn (Qk.mk 1 1 ([]:(List Qk))))),4,.A (Qn (Qk.mk 2 0 ([]:(List Qk)))),.A (Qn (Qk.mk 1 1 ([]:(List Qk)))),.v (.bd []) [] (.sl 3 (Qbg ([(Qk.mk 2 0 ([]:(List Qk))),(Qk.mk 1 1 ([]:(List Qk)))]:List Qk))),.A (Qn (Qk.mk 5 1 ([(Qk.mk 2 0 ([]:(List Qk))),(Qk.mk 1 1 ([]:(List Qk)))]:List Qk))),2,.O 3 (.var (Qn (Qk.mk 5 1 ([(Qk.mk 2 0 ([]:(List Qk))),(Qk.mk 1 1 ([]:(List Qk)))]:List Qk)))),4,.v .no [none,none,none,none,some 1,none,none] (.agg (Qs (QF.mk (⟨#[110]⟩:ByteArray) 1 0 3 ([]:(List ByteArray)) 0 0))),.v (.bd []) [] (.sl 7 (([(QF.mk (⟨#[110]⟩:ByteArray) 1 0 3 ([]:(List ByteArray)) 0 0)]:List QF).map Qs)),.v .no [none,none,some 2] (.agg (QC (QZ.mk (⟨#[97]⟩:ByteArray) 0 ([]:QBg)))),.v .no [none,none,some 2] (.agg (QC (QZ.mk (⟨#[98]⟩:ByteArray) 0 ([]:QBg)))),.v .no [none,none,some 2] (.agg (QC (QZ.mk (⟨#[99]⟩:ByteArray) 0 ([]:QBg)))),.v (.bd []) [] (.sl 3 (([(QZ.mk (⟨#[97]⟩:ByteArray) 0 ([]:QBg)),(QZ.mk (⟨#[98]⟩:ByteArray) 0 ([]:QBg)),(QZ.mk (⟨#[99]⟩:ByteArray) 0 ([]:QBg))]:List QZ).map QC)),.A (QP (Qau.mk (⟨#[120]⟩:ByteArray) 0)),.v (.bd []) [] (.sl 2 (([(Qau.mk (⟨#[120]⟩:ByteArray) 0)]:List Qau).map QP)),.A (Qn (Qk.mk 1 1 ([]:(List Qk)))),.A (Qn (Qk.mk 2 0 ([]:(List Qk)))),.A (Q5 (Qas.mk 0 (Qk.mk 2 0 ([]:(List Qk))))),.v (.bd []) [] (.sl 4 (([(Qas.mk 0 (Qk.mk 2 0 ([]:(List Qk))))]:List Qas).map Q5)),.A (Qn (Qk.mk 5 1 ([(Qk.mk 2 0 ([]:(List Qk))),(Qk.mk 1 1 ([]:(List Qk)))]:List Qk))),.A (Q5 (Qas.mk 1 (Qk.mk 5 1 ([(Qk.mk 2 0 ([]:(List Qk))),(Qk.mk 1 1 ([]:(List Qk)))]:List Qk)))),.v (.bd []) [] (.sl 4 (([(Qas.mk 1 (Qk.mk 5 1 ([(Qk.mk 2 0 ([]:(List Qk))),(Qk.mk 1 1 ([]:(List Qk)))]:List Qk)))]:List Qas).map Q5)),.v (.bd []) [] (.sl 1 (([2]:List Int).map Qe)),.A (Qm (QG.mk (⟨#[116]⟩:ByteArray) ([(Qau.mk (⟨#[120]⟩:ByteArray) 0)]:List Qau) (Qk.mk 1 1 ([]:(List Qk))) 1 1 ([(Qas.mk 0 (Qk.mk 2 0 ([]:(List Qk))))]:List Qas) ([(Qas.mk 1 (Qk.mk 5 1 ([(Qk.mk 2 0 ([]:(List Qk))),(Qk.mk 1 1 ([]:(List Qk)))]:List Qk)))]:List Qas) ([2]:List Int) 0 (0,0,0))),.v (.bd []) [] (.sl 14 (([(QG.mk (⟨#[116]⟩:ByteArray) ([(Qau.mk (⟨#[120]⟩:ByteArray) 0)]:List Qau) (Qk.mk 1 1 ([]:(List Qk))) 1 1 ([(Qas.mk 0 (Qk.mk 2 0 ([]:(List Qk))))]:List Qas) ([(Qas.mk 1 (Qk.mk 5 1 ([(Qk.mk 2 0 ([]:(List Qk))),(Qk.mk 1 1 ([]:(List Qk)))]:List Qk)))]:List Qas) ([2]:List Int) 0 (0,0,0))]:List QG).map Qm)),.A (Qd (Qq.mk ([(QF.mk (⟨#[110]⟩:ByteArray) 1 0 3 ([]:(List ByteArray)) 0 0)]:List QF) ([(QZ.mk (⟨#[97]⟩:ByteArray) 0 ([]:QBg)),(QZ.mk (⟨#[98]⟩:ByteArray) 0 ([]:QBg)),(QZ.mk (⟨#[99]⟩:ByteArray) 0 ([]:QBg))]:List QZ) ([(QG.mk (⟨#[116]⟩:ByteArray) ([(Qau.mk (⟨#[120]⟩:ByteArray) 0)]:List Qau) (Qk.mk 1 1 ([]:(List Qk))) 1 1 ([(Qas.mk 0 (Qk.mk 2 0 ([]:(List Qk))))]:List Qas) ([(Qas.mk 1 (Qk.mk 5 1 ([(Qk.mk 2 0 ([]:(List Qk))),(Qk.mk 1 1 ([]:(List Qk)))]:List Qk)))]:List Qas) ([2]:List Int) 0 (0,0,0))]:List QG) 0 1)),1,.O 0 (.var (Qd (Qq.mk ([(QF.mk (⟨#[110]⟩:ByteArray) 1 0 3 ([]:(List ByteArray)) 0 0)]:List QF) ([(QZ.mk (⟨#[97]⟩:ByteArray) 0 ([]:QBg)),(QZ.mk (⟨#[98]⟩:ByteArray) 0 ([]:QBg)),(QZ.mk (⟨#[99]⟩:ByteArray) 0 ([]:QBg))]:List QZ) ([(QG.mk (⟨#[116]⟩:ByteArray) ([(Qau.mk (⟨#[120]⟩:ByteArray) 0)]:List Qau) (Qk.mk 1 1 ([]:(List Qk))) 1 1 ([(Qas.mk 0 (Qk.mk 2 0 ([]:(List Qk))))]:List Qas) ([(Qas.mk 1 (Qk.mk 5 1 ([(Qk.mk 2 0 ([]:(List Qk))),(Qk.mk 1 1 ([]:(List Qk)))]:List Qk)))]:List Qas) ([2]:List Int) 0 (0,0,0))]:List QG) 0 1))),3,.K [0] [0]] rfl ⟨⟨⟨⟨⟨⟨⟨⟨⟨⟨⟨⟨⟨⟨⟨⟨⟨⟨⟨⟨⟨⟨⟨⟨⟨⟨⟨⟨⟨tt_,rfl⟩,rfl⟩,rfl⟩,rfl⟩,rfl⟩,rfl⟩,rfl⟩,rfl⟩,rfl⟩,rfl⟩,rfl⟩,rfl⟩,rfl⟩,rfl⟩,rfl⟩,rfl⟩,rfl⟩,rfl⟩,rfl⟩,rfl⟩,rfl⟩,rfl⟩,rfl⟩,rfl⟩,rfl⟩,rfl⟩,rfl⟩,rfl⟩,rfl⟩ ?_
 cases h
 exact AK.done (ex_ [_] (an_ (an_ (ex_ _ (ex_ _ (an_ rfl (an_ rfl (Or.inl (an_ (Qr.ag rfl) (an_ (Qr.sz rfl) rfl))))))) tt_) (gives tt_)))
def QgL (a:Int)(b:Int):Option Int:=
 bif (decide (b<a))then
 some 0
 else
 some (w64 ((w64 (min2 (IntKind.u64.wrap ((IntKind.u64.wrap b)-(IntKind.u64.wrap a))) 1024))+1))
theorem Qw5 (a b){r}(h:QgL a b=some r):Qc prog 235 [.I a,.I b] [] (Gives (.I r) []):=by
 refine wk_ 16 func235 fun C d=>?_
 refine tg_ d [13] ?_
 refine bg_ h (fun c h=>Qa d [.T,7,.K [4] []] rfl (a1_ c) ?_) fun c h=>Qa d [.F,5,.o (.any (.i .u64 (IntKind.u64.wrap b)) none),1,.o (.any (.i .u64 (IntKind.u64.wrap a)) none),2,.o (.any (.I (w64 (min2 (IntKind.u64.wrap ((IntKind.u64.wrap b)-(IntKind.u64.wrap a))) 1024))) none),5,.K [4] []] rfl (a4_ c (fun σ e f _=>Stp.convI rfl rfl (QS d.n rfl) (e _ _ rfl) QAK Qvd) (fun σ e f _=>Stp.convI rfl rfl (QS d.n rfl) (e _ _ rfl) QAK Qvd) (fun σ e f _=>Stp.convI rfl rfl (QS d.n rfl) (e _ _ rfl) Qvd QAK)) ?_
 ·cases h
  exact d1_ tt_
 cases h
 exact d1_ tt_
def Qed (a:Int):Option Bool:=
 some (bif (decide (97<=a))then((decide (a<=122))||((decide (65<=a))&&(decide (a<=90))))else((decide (65<=a))&&(decide (a<=90))))
theorem Qoz (a){r}(h:Qed a=some r):Qc prog 204 [.i .u8 a] [] (Gives (.b r) []):=by
 refine wk_ 17 func204 fun C e=>?_
 unfold Qed at h
 refine tg_ e [6] ?_
 refine AK.meetX (fun σ=>σ=⟨[(2,.b (bif (decide (97<=a))then((decide (a<=122))||((decide (65<=a))&&(decide (a<=90))))else((decide (65<=a))&&(decide (a<=90)))))],[]⟩) ?_ ?_
 ·refine tg_ e [4] ?_
  rcases QD (decide (97<=a))with c | c
  ·refine Qa e [.S 5 (.b true),4] rfl (tc_ c) ?_
   rcases QD (decide (a<=122))with d | d
   ·refine Qa e [.S 9 (.b true),9,.S 2 (.b (bif (decide (97<=a))then((decide (a<=122))||((decide (65<=a))&&(decide (a<=90))))else((decide (65<=a))&&(decide (a<=90))))),.K [2] []] rfl ⟨(tc_ d),(congrArg V.b (Qmy c (orT d rfl)))⟩ ?_
    exact mt_
   refine Qa e [.S 9 (.b false),3] rfl (tc_ d) ?_
   rcases QD (decide (65<=a))with f | f
   ·refine Qa e [.S 12 (.b true),6,.S 2 (.b (bif (decide (97<=a))then((decide (a<=122))||((decide (65<=a))&&(decide (a<=90))))else((decide (65<=a))&&(decide (a<=90))))),.K [2] []] rfl ⟨(tc_ f),(congrArg V.b (Qmy c (orF d (Qai f rfl))))⟩ ?_
    exact mt_
   refine Qa e [.S 12 (.b false),6,.S 2 (.b (bif (decide (97<=a))then((decide (a<=122))||((decide (65<=a))&&(decide (a<=90))))else((decide (65<=a))&&(decide (a<=90))))),.K [2] []] rfl ⟨(tc_ f),(congrArg V.b (Qmy c (orF d (QaS f rfl))))⟩ ?_
   exact mt_
  refine Qa e [.S 5 (.b false),7] rfl (tc_ c) ?_
  rcases QD (decide (65<=a))with g | g
  ·refine Qa e [.S 12 (.b true),6,.S 2 (.b (bif (decide (97<=a))then((decide (a<=122))||((decide (65<=a))&&(decide (a<=90))))else((decide (65<=a))&&(decide (a<=90))))),.K [2] []] rfl ⟨(tc_ g),(congrArg V.b (Qsh c (Qai g rfl)))⟩ ?_
   exact mt_
  refine Qa e [.S 12 (.b false),6,.S 2 (.b (bif (decide (97<=a))then((decide (a<=122))||((decide (65<=a))&&(decide (a<=90))))else((decide (65<=a))&&(decide (a<=90))))),.K [2] []] rfl ⟨(tc_ g),(congrArg V.b (Qsh c (QaS g rfl)))⟩ ?_
  exact mt_
 rintro σ rfl
 refine tg_ e [2] ?_
 cases h
 exact d1_ tt_
def Qit (a:ByteArray):Option Bool:=
 bif (Qb6 a (⟨#[]⟩:ByteArray))then
 some true
 else
 bif (decide (32<(a.size:Int)))then
 some true
 else
 (sidx a 0).bind fun b=>
 (Qed b).bind fun c=>
 some (!c)
def QmC (a:Int):Option Bool:=
 (Qed a).bind fun b=>
 bif (!b)then
 bif (decide (a<48))then
 some (a != 95)
 else
 bif (decide (57<a))then
 some (a != 95)
 else
 some false
 else
 some false
def Qf4 (a:Int)(b:Bool):Option (Int⊕(Unit⊕Unit)):=
 bif b then
 some (.inr (.inl ()))
 else
 some (.inl (w64 (a+1)))
def QdI (d:ByteArray)(a:Int):Option (Int⊕(Unit⊕Unit)):=
 bif (decide (a<(d.size:Int)))then
 (sidx d a).bind fun b=>
 (QmC b).bind (fun c=>Qf4 a c)
 else
 some (.inr (.inr ()))
def Qiu : Option Bool:=
 some false
def Qiv : Option Bool:=
 some true
def Qf5 (a:ByteArray)(b:Bool):Option Bool:=
 bif b then
 some false
 else
 (Qw (fun st=>QdI a st) 0).bind (Sum.elim (fun q=>Qiu) (fun q=>Qiv))
def QdA (a:ByteArray):Option Bool:=
 (Qit a).bind (fun b=>Qf5 a b)
theorem QmD (m){r}(h:QdA m=some r):Qc prog 164 [.s m] [] (Gives (.b r) []):=by
 refine wk_ 42 func164 fun C a=>?_
 refine tg_ a [7] ?_
 obtain⟨A,B,h⟩:=Qb h
 replace h:Qf5 m A=some r:=h
 refine AK.meetX (fun σ=>σ=⟨[(0,.s m),(17,.b A)],[]⟩) ?_ ?_
 ·replace h:=B
  refine tg_ a [4] ?_
  refine bg_ h (fun p h=>Qa a [.S 7 (.b true),11,.K [0,17] []] rfl (tc_ p) ?_) fun p h=>Qa a [.S 7 (.b false),5] rfl (tc_ p) ?_
  ·cases h
   exact mt_
  rcases Qp h with⟨t,h⟩|⟨t,h⟩
  ·refine Qa a [.S 12 (.b true),6,.K [0,17] []] rfl (tc_ t) ?_
   cases h
   exact mt_
  obtain⟨L,D,h⟩:=Qb h
  obtain⟨M,E,h⟩:=Qb h
  refine Qa a [.S 12 (.b false),1,.o (.num L),.o (.C1 (.b M)),3,.K [0,17] []] rfl ⟨⟨(tc_ t),D⟩,(Qoz _ E)⟩ ?_
  cases h
  exact mt_
 rintro σ rfl
 replace h:Qf5 m A=some r:=h
 refine tg_ a [1] ?_
 refine bq_ a h [.T,7,.K [2] []] rfl (fun f h=>?_) [.F,11,.K [0,19,20] []] rfl fun f h=>?_
 ·cases h
  exact d1_ tt_
 obtain⟨G,w,h⟩:=Qb h
 refine AK.loop (body:=(fun st=>QdI m st)) (fun st σ=>σ=⟨[(0,.s m),(19,.I (m.size:Int)),(20,.I st)],[]⟩) (Sum.elim (fun q e σ=>e=.ret/\σ=⟨[(2,.b false)],[]⟩) (fun q e σ=>e=.exit 0/\σ=⟨[],[]⟩)) w rfl ?_ ?_
 ·rintro u o σ rfl h
  refine tg_ a [6] ?_
  rcases Qp h with⟨g,h⟩|⟨g,h⟩
  ·obtain⟨H,x,h⟩:=Qb h
   refine Qa a [.T,14,.o (.num H),4] rfl (a2_ g x) ?_
   obtain⟨v,y,h⟩:=Qb h
   replace h:Qf4 u v=some o:=h
   refine AK.meetX (fun σ=>σ=⟨[(0,.s m),(19,.I (m.size:Int)),(20,.I u),(40,.b v)],[]⟩) ?_ ?_
   ·replace h:=y
    obtain⟨J,z,h⟩:=Qb h
    refine Qa a [2,.o (.C1 (.b J)),2] rfl (a1_ (Qoz _ z)) ?_
    refine bg_ h (fun i h=>Qa a [.S 29 (.b true),3] rfl (tc_ i) ?_) fun i h=>Qa a [.S 29 (.b false),12,.K [0,19,20,40] []] rfl (tc_ i) ?_
    ·refine bg_ h (fun j h=>Qa a [.S 32 (.b true),9,.K [0,19,20,40] []] rfl (tc_ j) ?_) fun j h=>Qa a [.S 32 (.b false),5] rfl (tc_ j) ?_
     ·cases h
      exact mt_
     refine bg_ h (fun k h=>Qa a [.S 37 (.b true),4,.K [0,19,20,40] []] rfl (tc_ k) ?_) fun k h=>Qa a [.S 37 (.b false),4,.K [0,19,20,40] []] rfl (tc_ k) ?_
     ·cases h
      exact mt_
     cases h
     exact mt_
    cases h
    exact mt_
   rintro σ rfl
   replace h:Qf4 u v=some o:=h
   refine tg_ a [1] ?_
   refine bq_ a h [.T,8,.K [2] []] rfl (fun l h=>?_) [.F,7,.K [0,19,20] []] rfl fun l h=>?_
   ·cases h
    exact Q6 rfl (an_ rfl rfl)
   cases h
   exact QR rfl rfl
  refine Qa a [.F,2,.K [] []] rfl (a1_ g) ?_
  cases h
  exact QT rfl (an_ rfl rfl)
 rcases G with(_ | _)
 ·replace h:Qiu=some r:=h
  rintro e σ ⟨rfl,rfl⟩
  refine tg_ a [2] ?_
  cases h
  exact d1_ tt_
 replace h:Qiv=some r:=h
 rintro e σ ⟨rfl,rfl⟩
 refine tg_ a [8] ?_
 cases h
 exact d1_ tt_
def QlG (a:ByteArray)(c:QSB):Option Bool:=
 (QdA a).bind fun b=>
 bif (!b)then
 some true
 else
 some ((QX c a).getD false)
def Qfw (c:Int)(d:QSB)(a:ByteArray)(b:Bool):Option ((Int×QSB)⊕(Unit⊕Unit)):=
 bif b then
 some (.inr (.inl ()))
 else
 some (.inl ((w64 (c+1)),(QcJ ltS d a true)))
def Qcu (d:(List ByteArray))(b:Int)(e:QSB):Option ((Int×QSB)⊕(Unit⊕Unit)):=
 bif (decide (b<(d.length:Int)))then
 (idx d b).bind fun a=>
 (QlG a e).bind (fun c=>Qfw b e a c)
 else
 some (.inr (.inr ()))
def Qhz : Option Bool:=
 some false
def QhA : Option Bool:=
 some true
def QfQ (a:(List ByteArray)):Option Bool:=
 (Qw (fun st=>Qcu a st.1 st.2) (0,([]:QSB))).bind (Sum.elim (fun q=>Qhz) (fun q=>QhA))
theorem Qwf (m){r}(h:QfQ m=some r):Qc prog 236 [.sl 1 (m.map QcC)] [] (Gives (.b r) []):=by
 refine wk_ 24 func236 fun C g=>?_
 refine Qa g [8,.O 6 (.map (QQ V.s V.b ([]:QSB))),7,.o (.ln m.length),4,.K [3,7,8,9] [6]] rfl (a2_ rfl Qf) ?_
 obtain⟨D,w,h⟩:=Qb h
 refine AK.loop (body:=(fun st=>Qcu m st.1 st.2)) (fun st σ=>σ=⟨[(3,.map 6),(7,.sl 1 (m.map QcC)),(8,.I (m.length:Int)),(9,.I st.1)],[(6,.map (QQ V.s V.b st.2))]⟩) (Sum.elim (fun q e σ=>e=.ret/\σ=⟨[(2,.b false)],[]⟩) (fun q e σ=>e=.exit 0/\σ=⟨[],[]⟩)) w rfl ?_ ?_
 ·rintro ⟨E,p⟩ o σ rfl h
  refine tg_ g [6] ?_
  rcases Qp h with⟨t,h⟩|⟨t,h⟩
  ·obtain⟨a,y,h⟩:=Qb h
   refine Qa g [.T,6,.o (.row (QcC a)),6] rfl (a2_ t (QE y)) ?_
   obtain⟨u,A,h⟩:=Qb h
   replace h:Qfw E p a u=some o:=h
   refine AK.meetX (fun σ=>σ=⟨[(3,.map 6),(5,.s a),(7,.sl 1 (m.map QcC)),(8,.I (m.length:Int)),(9,.I E),(20,.b u)],[(6,.map (QQ V.s V.b p))]⟩) ?_ ?_
   ·replace h:=A
    obtain⟨G,B,h⟩:=Qb h
    refine Qa g [2,.o (.C1 (.b G)),2] rfl (a1_ (QmD _ B)) ?_
    refine bg_ h (fun i h=>Qa g [.S 16 (.b true),5,.K [3,5,7,8,9,20] [6]] rfl (tc_ i) ?_) fun i h=>Qa g [.S 16 (.b false),2,.o (.any (.b ((QX p a).getD false)) none),2,.K [3,5,7,8,9,20] [6]] rfl ⟨(tc_ i),(fun σ H J _=>Stp.lookup (e:=V.s) (f:=V.b) (l:=p) (k:=a) (z:=false) rfl rfl (QS g.n rfl) (H _ _ rfl) (J _ _ rfl) (H _ _ rfl) Qx7 QCd QE9 rfl)⟩ ?_
    ·cases h
     exact mt_
    cases h
    exact mt_
   rintro σ rfl
   replace h:Qfw E p a u=some o:=h
   refine tg_ g [1] ?_
   refine bg_ h (fun j h=>Qa g [.T,9,.K [2] []] rfl (a1_ j) ?_) fun j h=>Qa g [.F,5,.x (fun σ=>σ.set 6 (.map (QQ V.s V.b (QcJ ltS p a true)))),7,.K [3,7,8,9] [6]] rfl (a2_ j (Stp.mapUpdate (e:=V.s) (f:=V.b) (l:=p) (k:=a) (v:=true) ltS rfl rfl rfl rfl rfl rfl Qx7 QCd rfl)) ?_
   ·cases h
    exact Q6 rfl (an_ rfl rfl)
   cases h
   exact QR rfl rfl
  refine Qa g [.F,2,.K [] []] rfl (a1_ t) ?_
  cases h
  exact QT rfl (an_ rfl rfl)
 rcases D with(_ | _)
 ·replace h:Qhz=some r:=h
  rintro e σ ⟨rfl,rfl⟩
  refine tg_ g [2] ?_
  cases h
  exact d1_ tt_
 replace h:QhA=some r:=h
 rintro e σ ⟨rfl,rfl⟩
 refine tg_ g [8] ?_
 cases h
 exact d1_ tt_
def QdJ : Option Int:=
 some 0
def QgM (b:QF)(a:(List Int)):Option Int:=
 bif (b.Kind==1)then
 (QgL b.Lo b.Hi).bind fun e=>
 some e
 else
 bif (b.Kind==2)then
 (QfQ b.Names).bind fun f=>
 bif f then
 some (b.Names.length:Int)
 else
 QdJ
 else
 bif (b.Kind==3)then
 bif ((decide (0<=(min2 b.First b.Then)))&&(decide ((max2 b.First b.Then)<(a.length:Int))))then
 (idx a b.First).bind fun c=>
 (idx a b.Then).bind fun d=>
 some (w64 (c*d))
 else
 QdJ
 else
 QdJ
theorem Qw6 (g e){r}(h:QgM g e=some r):Qc prog 203 [.agg (Qs g),.sl 1 (e.map Qe)] [] (Gives (.I r) []):=by
 refine wk_ 51 func203 fun C f=>?_
 refine tg_ f [6] ?_
 refine AK.meet (fun σ=>σ=⟨[],[]⟩/\QdJ=some r) ?_ ?_
 ·refine tg_ f [13] ?_
  rcases Qp h with⟨l,h⟩|⟨l,h⟩
  ·obtain⟨x,t,h⟩:=Qb h
   refine Qa f [.T,6,.o (.C2 (.I x)),6] rfl (a2_ l (Qw5 _ _ t)) ?_
   cases h
   exact d1_ tt_
  refine Qa f [.F,6] rfl (a1_ l) ?_
  rcases Qp h with⟨m,h⟩|⟨m,h⟩
  ·obtain⟨y,u,h⟩:=Qb h
   refine Qa f [.T,4,.o (.C1 (.b y)),2] rfl (a2_ m (Qwf _ u)) ?_
   refine bg_ h (fun p h=>Qa f [.T,4,.o (.ln g.Names.length),6,.K [4] []] rfl (a2_ p Qf) ?_) fun p h=>Qa f [.F,2,.K [] []] rfl (a1_ p) ?_
   ·cases h
    exact d1_ tt_
   exact AK.met (an_ rfl h)
  refine Qa f [.F,6] rfl (a1_ m) ?_
  refine bq_ f h [.T,1] rfl (fun j h=>?_) [.F,2,.K [] []] rfl fun j h=>?_
  ·refine AK.meetX (fun σ=>σ=⟨[(1,.sl 1 (e.map Qe)),lk_ 2,(39,.b ((decide (0<=(min2 g.First g.Then)))&&(decide ((max2 g.First g.Then)<(e.length:Int)))))],[(2,.var (Qs g))]⟩) ?_ ?_
   ·refine tg_ f [8] ?_
    rcases QD (decide (0<=(min2 g.First g.Then)))with i | i
    ·refine Qa f [.S 30 (.b true),6,.o (.ln e.length),3,.S 39 (.b ((decide (0<=(min2 g.First g.Then)))&&(decide ((max2 g.First g.Then)<(e.length:Int))))),.K [1,2,39] [2]] rfl ⟨⟨(tc_ i),Qf⟩,(congrArg V.b (Qai i rfl))⟩ ?_
     exact mt_
    refine Qa f [.S 30 (.b false),10,.S 39 (.b ((decide (0<=(min2 g.First g.Then)))&&(decide ((max2 g.First g.Then)<(e.length:Int))))),.K [1,2,39] [2]] rfl ⟨(tc_ i),(congrArg V.b (QaS i rfl))⟩ ?_
    exact mt_
   rintro σ rfl
   refine tg_ f [1] ?_
   rcases Qp h with⟨k,h⟩|⟨k,h⟩
   ·obtain⟨v,q,h⟩:=Qb h
    obtain⟨w,s,h⟩:=Qb h
    refine Qa f [.T,1,.K [1,2] [2]] rfl (a1_ k) ?_
    refine AK.draw2 Qr f mixed [.N,.N,.N,.a (.row (Qe v)) none false,.N,.N,.N,.N,.a (.row (Qe w)) none false,.N,.N,.N] [] [] [4] [] rfl rfl rfl ⟨⟨tt_,(QE q)⟩,(QE s)⟩ rfl (by kernel_rfl) rfl rfl rfl ?_
    refine tg_ f [4] ?_
    cases h
    exact d1_ tt_
   refine Qa f [.F,2,.K [] []] rfl (a1_ k) ?_
   exact AK.met (an_ rfl h)
  exact AK.met (an_ rfl h)
 rintro σ ⟨rfl,h⟩
 refine tg_ f [6] ?_
 cases h
 exact d1_ tt_
def QlH (a:QF)(d:QSB)(b:Int):Option Bool:=
 (QdA a.Name).bind fun c=>
 bif (!c)then
 some true
 else
 bif ((QX d a.Name).getD false)then
 some true
 else
 bif (decide (b<1))then
 some true
 else
 some (decide (1024<b))
def Qfx (a:(List Int))(b:Int)(e:Int)(f:QSB)(c:QF)(d:Bool):Option ((Int×QSB×(List Int))⊕(Unit⊕(List Int))):=
 bif d then
 some (.inr (.inl ()))
 else
 (chk (decide (a.length+([b]:List Int).length<=4294967296))).bind fun _=>
 some (.inl ((w64 (e+1)),(QcJ ltS f c.Name true),(a++([b]:List Int))))
def Qcv (f:(List QF))(d:Int)(g:QSB)(a:(List Int)):Option ((Int×QSB×(List Int))⊕(Unit⊕(List Int))):=
 bif (decide (d<(f.length:Int)))then
 (idx f d).bind fun b=>
 (QgM b a).bind fun c=>
 (QlH b g c).bind (fun e=>Qfx a c d g b e)
 else
 some (.inr (.inr a))
def Qo2 : Option ((List Int)×Bool):=
 some (([]:List Int),false)
def Qo3 (a:(List Int)):Option ((List Int)×Bool):=
 some (a,true)
def QeP (a:(List QF)):Option ((List Int)×Bool):=
 bif (decide (32<(a.length:Int)))then
 some (([]:List Int),false)
 else
 (Qw (fun st=>Qcv a st.1 st.2.1 st.2.2) (0,([]:QSB),([]:List Int))).bind (Sum.elim (fun q=>Qo2) (fun q=>Qo3 q))
theorem Qo4 (y){r}(h:QeP y=some r):Qc prog 163 [.sl 7 (y.map Qs)] [] (Gives (.tup [.sl 1 (r.1.map Qe),.b r.2]) []):=by
 refine wk_ 49 func163 fun C g=>?_
 refine Qa g [10,.o (.ln y.length),3] rfl (a1_ Qf) ?_
 refine bg_ h (fun A h=>Qa g [.T,8,.denil 2 [some 1],.K [2,3] []] rfl (a1_ A) ?_) fun A h=>Qa g [.F,5,.O 12 (.map (QQ V.s V.b ([]:QSB))),12,.o (.ln y.length),4,.adopt 5 43 1,.O 43 (.arr 1 (([]:List Int).map Qe)),.S 5 (.own 43 ([]:List Int).length),.K [4,5,13,14,15] [12,43]] rfl (a5_ A rfl Qf rfl (congrArg (fun n=>V.own 43 n) (by simp))) ?_
 ·cases h
  exact d2_ tt_
 obtain⟨P,E,h⟩:=Qb h
 refine AK.loop (body:=(fun st=>Qcv y st.1 st.2.1 st.2.2)) (fun st σ=>σ=⟨[(4,.map 12),(5,.own 43 st.2.2.length),(13,.sl 7 (y.map Qs)),(14,.I (y.length:Int)),(15,.I st.1)],[(12,.map (QQ V.s V.b st.2.1)),(43,.arr 1 (st.2.2.map Qe))]⟩) (Sum.elim (fun q e σ=>e=.ret/\σ=⟨[(2,.lit (.slice none 0 0)),(3,.b false)],[]⟩) (fun q e σ=>e=.exit 0/\σ=⟨[(5,.own 43 q.length)],[(43,.arr 1 (q.map Qe))]⟩)) E rfl ?_ ?_
 ·rintro ⟨U,B,i⟩ o σ rfl h
  refine tg_ g [6] ?_
  rcases Qp h with⟨m,h⟩|⟨m,h⟩
  ·obtain⟨a,G,h⟩:=Qb h
   obtain⟨j,H,h⟩:=Qb h
   refine Qa g [.T,6,.o (.row (Qs a)),.A (Qs a),2,.O 7 (.var (Qs a)),4,.A (Qs a),1,.o (.c true [.d,.o (i.map Qe)] (.I j)),5] rfl (a6_ m (QE G) rfl rfl rfl ⟨(Qv7 rfl),(Qw6 _ _ H)⟩) ?_
   obtain⟨D,J,h⟩:=Qb h
   replace h:Qfx i j U B a D=some o:=h
   refine AK.meetX (fun σ=>σ=⟨[(4,.map 12),(5,.own 43 i.length),lk_ 7,(8,.I j),(13,.sl 7 (y.map Qs)),(14,.I (y.length:Int)),(15,.I U),(39,.b D)],[(7,.var (Qs a)),(12,.map (QQ V.s V.b B)),(43,.arr 1 (i.map Qe))]⟩) ?_ ?_
   ·replace h:=J
    obtain⟨W,L,h⟩:=Qb h
    refine Qa g [3,.o (.C1 (.b W)),2] rfl (a1_ (QmD _ L)) ?_
    refine bg_ h (fun p h=>Qa g [.S 26 (.b true),14,.K [4,5,7,8,13,14,15,39] [7,12,43]] rfl (tc_ p) ?_) fun p h=>Qa g [.S 26 (.b false),3,.o (.any (.b ((QX B a.Name).getD false)) none),2] rfl ⟨(tc_ p),(fun σ X Y _=>Stp.lookup (e:=V.s) (f:=V.b) (l:=B) (k:=a.Name) (z:=false) rfl rfl (QS g.n rfl) (X _ _ rfl) (Y _ _ rfl) (X _ _ rfl) Qx7 QCd QE9 rfl)⟩ ?_
    ·cases h
     exact mt_
    refine bg_ h (fun t h=>Qa g [.S 32 (.b true),8,.K [4,5,7,8,13,14,15,39] [7,12,43]] rfl (tc_ t) ?_) fun t h=>Qa g [.S 32 (.b false),4] rfl (tc_ t) ?_
    ·cases h
     exact mt_
    refine bg_ h (fun u h=>Qa g [.S 36 (.b true),4,.K [4,5,7,8,13,14,15,39] [7,12,43]] rfl (tc_ u) ?_) fun u h=>Qa g [.S 36 (.b false),4,.K [4,5,7,8,13,14,15,39] [7,12,43]] rfl (tc_ u) ?_
    ·cases h
     exact mt_
    cases h
    exact mt_
   rintro σ rfl
   replace h:Qfx i j U B a D=some o:=h
   refine tg_ g [1] ?_
   rcases Qp h with⟨w,h⟩|⟨w,h⟩
   ·refine Qa g [.T,10,.K [2,3] []] rfl (a1_ w) ?_
    cases h
    exact Q6 rfl (an_ rfl rfl)
   obtain⟨M,h⟩:=Qao h
   refine Qa g [.F,7,.x (fun σ=>σ.set 12 (.map (QQ V.s V.b (QcJ ltS B a.Name true)))),5,.v (.bd []) [] (.sl 1 (([j]:List Int).map Qe)),.app ((i++([j]:List Int)).map Qe) (i++([j]:List Int)).length,8,.K [4,5,13,14,15] [12,43]] rfl (a4_ w (Stp.mapUpdate (e:=V.s) (f:=V.b) (l:=B) (k:=a.Name) (v:=true) ltS rfl rfl rfl rfl rfl rfl Qx7 QCd rfl) rfl ⟨Qf,Qbk M Qf,Qap,QbG Qf⟩) ?_
   cases h
   exact QR rfl rfl
  refine Qa g [.F,2,.K [5] [43]] rfl (a1_ m) ?_
  cases h
  exact QT rfl (an_ rfl rfl)
 rcases P with(_ | N)
 ·replace h:Qo2=some r:=h
  rintro e σ ⟨rfl,rfl⟩
  refine tg_ g [2,.denil 2 [some 1]] ?_
  cases h
  exact d2_ tt_
 replace h:Qo3 N=some r:=h
 rintro e σ ⟨rfl,rfl⟩
 refine Qa g [10,.frz 43 (N.map Qe) [2] []] rfl (a1_ (a1_ (Qcd Qf))) ?_
 cases h
 exact d2_ tt_
def Qdq (a:(List QF))(b:Int):Option (Bool×Qax):=
 (QeP a).bind fun c=>
 bif ((!c.2)||((decide (b<0))||(decide ((a.length:Int)<=b))))then
 some (false,(Qax.mk ([]:(List QF)) ([]:(List Int)) 0))
 else
 some (true,(Qax.mk a c.1 b))
theorem QnW (i e){r}(h:Qdq i e=some r):Qc prog 98 [.sl 7 (i.map Qs),.I e] [] (Gives (.tup [.agg (Q8 r.2),.b r.1]) []):=by
 refine wk_ 30 func98 fun C k=>?_
 obtain⟨j,l,h⟩:=Qb h
 refine Qa k [9,.o (.C1 (.tup [.sl 1 (j.1.map Qe),.b j.2])),9] rfl (a1_ (Qo4 _ l)) ?_
 refine AK.meetX (fun σ=>σ=⟨[(0,.sl 7 (i.map Qs)),(1,.I e),lk_ 4,(6,.sl 1 (j.1.map Qe)),(24,.b ((!j.2)||((decide (e<0))||(decide ((i.length:Int)<=e)))))],[(4,.var [.lit (.slice none 0 0),.lit (.slice none 0 0),.I 0])]⟩) ?_ ?_
 ·refine tg_ k [4] ?_
  rcases QD (!j.2)with f | f
  ·refine Qa k [.S 15 (.b true),10,.S 24 (.b ((!j.2)||((decide (e<0))||(decide ((i.length:Int)<=e))))),.K [0,1,4,6,24] [4]] rfl ⟨(tc_ f),(congrArg V.b (orT f rfl))⟩ ?_
   exact mt_
  refine Qa k [.S 15 (.b false),4] rfl (tc_ f) ?_
  rcases QD (decide (e<0))with a | a
  ·refine Qa k [.S 19 (.b true),6,.S 24 (.b ((!j.2)||((decide (e<0))||(decide ((i.length:Int)<=e))))),.K [0,1,4,6,24] [4]] rfl ⟨(tc_ a),(congrArg V.b (orF f (orT a rfl)))⟩ ?_
   exact mt_
  refine Qa k [.S 19 (.b false),2,.o (.ln i.length),3,.S 24 (.b ((!j.2)||((decide (e<0))||(decide ((i.length:Int)<=e))))),.K [0,1,4,6,24] [4]] rfl ⟨⟨(tc_ a),Qf⟩,(congrArg V.b (orF f (orF a rfl)))⟩ ?_
  exact mt_
 rintro σ rfl
 refine tg_ k [1] ?_
 refine bg_ h (fun g h=>Qa k [.T,2,.v .no [some 7,some 1,none] (.agg (Q8 (Qax.mk ([]:(List QF)) ([]:(List Int)) 0))),1,.O 4 (.var (Q8 (Qax.mk ([]:(List QF)) ([]:(List Int)) 0))),5,.K [4,5] [4]] rfl (a3_ g rfl rfl) ?_) fun g h=>Qa k [.F,7,.A (Q8 (Qax.mk i j.1 e)),1,.O 4 (.var (Q8 (Qax.mk i j.1 e))),4,.K [4,5] [4]] rfl (a3_ g rfl rfl) ?_
 ·cases h
  exact AK.done (ex_ [_,_] (an_ (an_ (ex_ _ (ex_ _ (an_ rfl (an_ rfl (Or.inl (an_ (Qr.ag rfl) (an_ (Qr.sz rfl) rfl))))))) (an_ rfl tt_)) (gives tt_)))
 cases h
 exact AK.done (ex_ [_,_] (an_ (an_ (ex_ _ (ex_ _ (an_ rfl (an_ rfl (Or.inl (an_ (Qr.ag rfl) (an_ (Qr.sz rfl) rfl))))))) (an_ rfl tt_)) (gives tt_)))
def QeL (a:Int)(b:Qax):Option Bool:=
 bif (decide (0<=a))then
 (idx b.sizes b.k).bind fun c=>
 some (decide (a<c))
 else
 some false
def Qgo (a:Bool):Option Bool:=
 some a
def Qce (a:Qax)(b:Int):Option Bool:=
 (QeL b a).bind (fun c=>Qgo c)
theorem QnJ (g i){r}(h:Qce g i=some r):Qc prog 160 [.agg (Q8 g),.I i] [] (Gives (.b r) []):=by
 refine wk_ 17 func160 fun C c=>?_
 refine tg_ c [7] ?_
 obtain⟨d,e,h⟩:=Qb h
 replace h:Qgo d=some r:=h
 refine AK.meetX (fun σ=>σ=⟨[(4,.b d)],[]⟩) ?_ ?_
 ·replace h:=e
  refine tg_ c [4] ?_
  rcases Qp h with⟨a,h⟩|⟨a,h⟩
  ·obtain⟨j,f,h⟩:=Qb h
   refine Qa c [.S 7 (.b true),5,.o (.row (Qe j)),5,.K [4] []] rfl ⟨(tc_ a),(QE f)⟩ ?_
   cases h
   exact mt_
  refine Qa c [.S 7 (.b false),11,.K [4] []] rfl (tc_ a) ?_
  cases h
  exact mt_
 rintro σ rfl
 replace h:Qgo d=some r:=h
 refine tg_ c [2] ?_
 cases h
 exact d1_ tt_
def QbQ (a:Qax):Option QF:=
 (idx a.all a.k).bind fun b=>
 some b
theorem Qhg (c){r}(h:QbQ c=some r):Qc prog 161 [.agg (Q8 c)] [] (Gives (.agg (Qs r)) []):=by
 refine wk_ 9 func161 fun C d=>?_
 obtain⟨a,b,h⟩:=Qb h
 refine Qa d [12,.o (.row (Qs a)),.A (Qs a),1,.O 2 (.var (Qs a)),3,.K [2] [2]] rfl (a3_ (QE b) rfl rfl) ?_
 cases h
 exact AK.done (ex_ [_] (an_ (an_ (ex_ _ (ex_ _ (an_ rfl (an_ rfl (Or.inl (an_ (Qr.ag rfl) (an_ (Qr.sz rfl) rfl))))))) tt_) (gives tt_)))
def QgX (b:(Bool×Qax))(c:Int):Option Bool:=
 bif (!b.1)then
 some true
 else
 (Qce b.2 c).bind fun a=>
 some (!a)
def QdT (c:(Bool×Qax))(d:Int)(e:Bool):Option (Int×Bool):=
 bif e then
 some (0,false)
 else
 (QbQ c.2).bind fun a=>
 bif (a.Kind==1)then
 (QbQ c.2).bind fun b=>
 some ((w64 (b.Lo+d)),true)
 else
 some (d,true)
def Qdn (c:(List QF))(d:Int)(a:Int):Option (Int×Bool):=
 (Qdq c d).bind fun b=>
 (QgX b a).bind (fun e=>QdT b a e)
theorem Qve (y z j){r}(h:Qdn y z j=some r):Qc prog 94 [.sl 7 (y.map Qs),.I z,.I j] [] (Gives (.tup [.I r.1,.b r.2]) []):=by
 refine wk_ 36 func94 fun C a=>?_
 obtain⟨i,t,h⟩:=Qb h
 refine Qa a [10,.o (.C2 (.tup [.agg (Q8 i.2),.b i.1])),5,.O 8 (.var (Q8 i.2)),6] rfl (a2_ (QnW _ _ t) rfl) ?_
 obtain⟨u,k,h⟩:=Qb h
 replace h:QdT i j u=some r:=h
 refine AK.meetX (fun σ=>σ=⟨[(2,.I j),lk_ 8,(16,.b u)],[(8,.var (Q8 i.2))]⟩) ?_ ?_
 ·replace h:=k
  refine tg_ a [4] ?_
  rcases Qp h with⟨e,h⟩|⟨e,h⟩
  ·refine Qa a [.S 19 (.b true),7,.K [2,8,16] [8]] rfl (tc_ e) ?_
   cases h
   exact mt_
  obtain⟨w,l,h⟩:=Qb h
  refine Qa a [.S 19 (.b false),.A (Q8 i.2),1,.o (.C2 (.b w)),4,.K [2,8,16] [8]] rfl ⟨⟨(tc_ e),rfl⟩,(QnJ _ _ l)⟩ ?_
  cases h
  exact mt_
 rintro σ rfl
 replace h:QdT i j u=some r:=h
 refine tg_ a [1] ?_
 rcases Qp h with⟨f,h⟩|⟨f,h⟩
 ·refine Qa a [.T,9] rfl (a1_ f) ?_
  cases h
  exact d2_ tt_
 obtain⟨m,p,h⟩:=Qb h
 refine Qa a [.F,2,.A (Q8 i.2),.o (.C1 (.agg (Qs m))),.o (.any (.I m.Kind) none),4] rfl (a4_ f rfl (Qhg _ p) (fun σ x A _=>Stp.field rfl rfl (QS a.n rfl) (x _ _ rfl) QEB rfl)) ?_
 rcases Qp h with⟨g,h⟩|⟨g,h⟩
 ·obtain⟨q,s,h⟩:=Qb h
  refine Qa a [.T,2,.A (Q8 i.2),.o (.C1 (.agg (Qs q))),.o (.any (.I q.Lo) none),9] rfl (a4_ g rfl (Qhg _ s) (fun σ x A _=>Stp.field rfl rfl (QS a.n rfl) (x _ _ rfl) QEC rfl)) ?_
  cases h
  exact d2_ tt_
 refine Qa a [.F,11] rfl (a1_ g) ?_
 cases h
 exact d2_ tt_
def Qc1 (d:QG)(b:(List Int))(h:Qq)(a:Int)(c:(List Int)):Option ((Int×(List Int))⊕(Unit⊕(List Int))):=
 bif (decide (a<(d.Vars.length:Int)))then
 (idx d.Vars a).bind fun f=>
 (idx b a).bind fun g=>
 (Qdn h.Colours f.Colour g).bind fun e=>
 bif (!e.2)then
 some (.inr (.inl ()))
 else
 (idx c a).bind fun i=>
 some (.inl ((w64 (a+1)),(c.set a.toNat e.1)))
 else
 some (.inr (.inr c))
def Qug : Option ((List Int)×Int):=
 some (([]:List Int),1)
def Quh (a:(List Int)):Option ((List Int)×Int):=
 some (a,0)
def QdB (d:Qq)(a:Int)(c:(List Int)):Option ((List Int)×Int):=
 bif ((decide (a<0))||(decide ((d.Tasks.length:Int)<=a)))then
 some (([]:List Int),3)
 else
 (idx d.Tasks a).bind fun b=>
 bif ((c.length:Int) != (b.Vars.length:Int))then
 some (([]:List Int),1)
 else
 (chk (decide (0<=(b.Vars.length:Int))&&decide ((b.Vars.length:Int)<=(b.Vars.length:Int))&&decide ((b.Vars.length:Int)<=4294967296))).bind fun _=>
 (Qw (fun st=>Qc1 b c d st.1 st.2) (0,(List.replicate (b.Vars.length:Int).toNat (0:Int)))).bind (Sum.elim (fun q=>Qug) (fun q=>Quh q))
theorem QoO (t f g){r}(h:QdB t f g=some r):Qc prog 51 [.agg (Qd t),.I f,.sl 1 (g.map Qe)] [] (Gives (.tup [.sl 1 (r.1.map Qe),.I r.2]) []):=by
 refine wk_ 64 func51 fun C j=>?_
 refine tg_ j [9] ?_
 refine AK.meetX (fun σ=>σ=⟨[(1,.I f),(2,.sl 1 (g.map Qe)),lk_ 3,(22,.b ((decide (f<0))||(decide ((t.Tasks.length:Int)<=f))))],[(3,.var (Qd t))]⟩) ?_ ?_
 ·refine tg_ j [4] ?_
  rcases QD (decide (f<0))with k | k
  ·refine Qa j [.S 16 (.b true),7,.S 22 (.b ((decide (f<0))||(decide ((t.Tasks.length:Int)<=f)))),.K [1,2,3,22] [3]] rfl ⟨(tc_ k),(congrArg V.b (orT k rfl))⟩ ?_
   exact mt_
  refine Qa j [.S 16 (.b false),3,.o (.ln t.Tasks.length),3,.S 22 (.b ((decide (f<0))||(decide ((t.Tasks.length:Int)<=f)))),.K [1,2,3,22] [3]] rfl ⟨⟨(tc_ k),Qf⟩,(congrArg V.b (orF k rfl))⟩ ?_
  exact mt_
 rintro σ rfl
 refine tg_ j [1] ?_
 rcases Qp h with⟨l,h⟩|⟨l,h⟩
 ·refine Qa j [.T,8,.denil 6 [some 1]] rfl (a1_ l) ?_
  cases h
  exact d2_ tt_
 obtain⟨i,y,h⟩:=Qb h
 refine Qa j [.F,7,.o (.row (Qm i)),9,.o (.ln g.length),1,.o (.ln i.Vars.length),3] rfl (a4_ l (QE y) Qf Qf) ?_
 rcases Qp h with⟨m,h⟩|⟨m,h⟩
 ·refine Qa j [.T,8,.denil 6 [some 1]] rfl (a1_ m) ?_
  cases h
  exact d2_ tt_
 obtain⟨z,h⟩:=Qao h
 refine Qa j [.F,5,.o (.ln i.Vars.length),.o (.rows ((List.replicate (i.Vars.length:Int).toNat (0:Int)).map Qe)),.S 36 (.own 36 (List.replicate (i.Vars.length:Int).toNat (0:Int)).length),7,.o (.ln i.Vars.length),4,.K [2,3,9,37,38,39] [3,36]] rfl (a5_ m Qf ⟨z,QAm rfl⟩ (by simp) Qf) ?_
 obtain⟨L,A,h⟩:=Qb h
 refine AK.loop (body:=(fun st=>Qc1 i g t st.1 st.2)) (fun st σ=>σ=⟨[(2,.sl 1 (g.map Qe)),lk_ 3,(9,.own 36 st.2.length),(37,.sl 2 (i.Vars.map QP)),(38,.I (i.Vars.length:Int)),(39,.I st.1)],[(3,.var (Qd t)),(36,.arr 1 (st.2.map Qe))]⟩) (Sum.elim (fun q e σ=>e=.ret/\σ=⟨[(6,.lit (.slice none 0 0)),(7,.I 1)],[]⟩) (fun q e σ=>e=.exit 0/\σ=⟨[(9,.own 36 q.length)],[(36,.arr 1 (q.map Qe))]⟩)) A rfl ?_ ?_
 ·rintro ⟨B,D⟩ o σ rfl h
  refine tg_ j [6] ?_
  rcases Qp h with⟨p,h⟩|⟨p,h⟩
  ·obtain⟨x,E,h⟩:=Qb h
   obtain⟨M,G,h⟩:=Qb h
   obtain⟨u,H,h⟩:=Qb h
   refine Qa j [.T,7,.o (.row (QP x)),.A (QP x),3,.O 11 (.var (QP x)),3,.K [2,3,9,10,11,37,38,39] [3,11,36]] rfl (a4_ p (QE E) rfl rfl) ?_
   refine AK.draw2 Qr j mixed [.N,.N,.N,.N,.N,.N,.a (.row (Qe M)) none false,.N,.a (.C3 (.tup [.I u.1,.b u.2])) none false,.N,.N,.N,.N,.N] [] [] [2,3,9,10,12,13,37,38,39] [3,36] rfl rfl rfl ⟨⟨tt_,(QE G)⟩,(Qve _ _ _ H)⟩ rfl (by kernel_rfl) rfl rfl rfl ?_
   refine tg_ j [8] ?_
   rcases Qp h with⟨s,h⟩|⟨s,h⟩
   ·refine Qa j [.T,10,.K [6,7] []] rfl (a1_ s) ?_
    cases h
    exact Q6 rfl (an_ rfl rfl)
   obtain⟨P,w,h⟩:=Qb h
   refine Qa j [.F,7,.st (Qe P) ((D.set B.toNat u.1).map Qe),7,.S 9 (.own 36 (D.set B.toNat u.1).length),.K [2,3,9,37,38,39] [3,36]] rfl (a4_ s (QbW w rfl) ⟨(QaN (Qby w).2),QhQ rfl⟩ (congrArg (fun n=>V.own 36 n) (by simp))) ?_
   cases h
   exact QR rfl rfl
  refine Qa j [.F,2,.K [9] [36]] rfl (a1_ p) ?_
  cases h
  exact QT rfl (an_ rfl rfl)
 rcases L with(_ | J)
 ·replace h:Qug=some r:=h
  rintro e σ ⟨rfl,rfl⟩
  refine tg_ j [2,.denil 6 [some 1]] ?_
  cases h
  exact d2_ tt_
 replace h:Quh J=some r:=h
 rintro e σ ⟨rfl,rfl⟩
 refine Qa j [10,.frz 36 (J.map Qe) [6] []] rfl (a1_ (a1_ (Qcd Qf))) ?_
 cases h
 exact d2_ tt_
def Qa9 (c:Qq)(f:QMk)(a:Int)(b:(List Int)):Option (Int×QO):=
 (QdB c a b).bind fun d=>
 bif (d.2 != 0)then
 some (d.2,(QO.mk (Qq.mk ([]:(List QF)) ([]:(List QZ)) ([]:(List QG)) 0 0) ([]:QMk) (QG.mk (⟨#[]⟩:ByteArray) ([]:(List Qau)) (Qk.mk 0 0 ([]:(List Qk))) 0 0 ([]:(List Qas)) ([]:(List Qas)) ([]:(List Int)) 0 (0,0,0)) ([]:(List Int))))
 else
 (idx c.Tasks a).bind fun e=>
 some (0,(QO.mk c f e d.1))
theorem Qrv (i l b e){r}(h:Qa9 i l b e=some r):Qc prog 70 [.agg (Qd i),.sl 1 (l.map Qg),.I b,.sl 1 (e.map Qe)] [] (Gives (.tup [.agg (Qy r.2),.I r.1]) []):=by
 refine wk_ 32 func70 fun C j=>?_
 obtain⟨p,q,h⟩:=Qb h
 refine Qa j [9,.A (Qd i),2,.o (.C3 (.tup [.sl 1 (p.1.map Qe),.I p.2])),14] rfl (a2_ rfl (QoO _ _ _ q)) ?_
 rcases Qp h with⟨f,h⟩|⟨f,h⟩
 ·refine Qa j [.T,2,.v .no [some 7,some 3,some 14,none,none,some 1,none,some 2,none,none,some 3,none,none,some 4,some 4,some 1,none,none,none,none,some 1] (.agg (Qy (QO.mk (Qq.mk ([]:(List QF)) ([]:(List QZ)) ([]:(List QG)) 0 0) ([]:QMk) (QG.mk (⟨#[]⟩:ByteArray) ([]:(List Qau)) (Qk.mk 0 0 ([]:(List Qk))) 0 0 ([]:(List Qas)) ([]:(List Qas)) ([]:(List Int)) 0 (0,0,0)) ([]:(List Int))))),2,.O 8 (.var (Qy (QO.mk (Qq.mk ([]:(List QF)) ([]:(List QZ)) ([]:(List QG)) 0 0) ([]:QMk) (QG.mk (⟨#[]⟩:ByteArray) ([]:(List Qau)) (Qk.mk 0 0 ([]:(List Qk))) 0 0 ([]:(List Qas)) ([]:(List Qas)) ([]:(List Int)) 0 (0,0,0)) ([]:(List Int))))),5,.K [8,9] [8]] rfl (a3_ f rfl rfl) ?_
  cases h
  exact AK.done (ex_ [_,_] (an_ (an_ (ex_ _ (ex_ _ (an_ rfl (an_ rfl (Or.inl (an_ (Qr.ag rfl) (an_ (Qr.sz rfl) rfl))))))) (an_ rfl tt_)) (gives tt_)))
 obtain⟨g,k,h⟩:=Qb h
 refine Qa j [.F,3,.K [1,2,4,8,9,10] [4,8]] rfl (a1_ f) ?_
 refine AK.draw2 Qr j mixed [.a .no (some ([],.agg (Qd i))) false,.N,.N,.N,.N,.a (.row (Qm g)) none false,.a .no (some ([],.agg (Qm g))) false,.N,.a .no (some ([],.agg (Qy (QO.mk i l g p.1)))) false,.m .s,.m .s] [] [] [8,9] [8] rfl rfl rfl ⟨⟨⟨⟨tt_,rfl⟩,(QE k)⟩,rfl⟩,rfl⟩ rfl (by kernel_rfl) rfl rfl rfl ?_
 refine Qa j [.O 8 (.var (Qy (QO.mk i l g p.1))),2,.K [8,9] [8]] rfl (a1_ rfl) ?_
 cases h
 exact AK.done (ex_ [_,_] (an_ (an_ (ex_ _ (ex_ _ (an_ rfl (an_ rfl (Or.inl (an_ (Qr.ag rfl) (an_ (Qr.sz rfl) rfl))))))) (an_ rfl tt_)) (gives tt_)))
def QjD (c:Qk)(rec_expr_Depth:Qk->Option Int)(d:Int)(a:Int):Option ((Int×Int)⊕Int):=
 bif (decide (a<(c.Kids.length:Int)))then
 (idx c.Kids a).bind fun e=>
 (rec_expr_Depth e).bind fun b=>
 some (.inl ((max2 d b),(w64 (a+1))))
 else
 some (.inr d)
def Qm9 (a:Int):Option Int:=
 some (w64 (a+1))
def Qk1 (rec_expr_Depth:Qk->Option Int)(a:Qk):Option Int:=
 (Qw (fun st=>QjD a rec_expr_Depth st.1 st.2) (0,0)).bind (fun q=>Qm9 q)
def Qcr : Nat->Qk->Option Int
 | 0,_=>none
 | n+1,a=>Qk1 (Qcr n) a
def Qna (a:Qk):Option Int:=Qcr (SizeOf.sizeOf a) a
theorem Qwg (rec_expr_Depth:Qk->Option Int)(hrec_expr_Depth:∀(a:Qk) {r:Int},rec_expr_Depth a=some r->Qc prog 178 [.agg (Qn a)] [] (Gives (.I r) []))(a:Qk){r:Int}(h:Qk1 rec_expr_Depth a=some r):Qc prog 178 [.agg (Qn a)] [] (Gives (.I r) []):=by
 refine wk_ 20 func178 fun C f=>?_
 refine Qa f [16,.o (.ln a.Kids.length),4,.K [3,7,8,9] []] rfl (a1_ (QfG _)) ?_
 obtain⟨m,g,h⟩:=Qb h
 refine AK.loop (body:=(fun st=>QjD a rec_expr_Depth st.1 st.2)) (fun st σ=>σ=⟨[(3,.I st.1),(7,.sl 3 (Qbg a.Kids)),(8,.I (a.Kids.length:Int)),(9,.I st.2)],[]⟩) (fun q e σ=>e=.exit 0/\σ=⟨[(3,.I q)],[]⟩) g rfl ?_ ?_
 ·rintro ⟨p,s⟩ o σ rfl h
  refine tg_ f [6] ?_
  rcases Qp h with⟨b,h⟩|⟨b,h⟩
  ·obtain⟨j,k,h⟩:=Qb h
   obtain⟨l,i,h⟩:=Qb h
   refine Qa f [.T,6,.o (.row (Qn j)),.A (Qn j),2,.O 5 (.var (Qn j)),4,.A (Qn j),.o (.C1 (.I l)),9,.K [3,7,8,9] []] rfl (a6_ b (Qbz k) rfl rfl rfl (hrec_expr_Depth _ i)) ?_
   cases h
   exact QR rfl rfl
  refine Qa f [.F,2,.K [3] []] rfl (a1_ b) ?_
  cases h
  exact QT rfl (an_ rfl rfl)
 replace h:Qm9 m=some r:=h
 rintro e σ ⟨rfl,rfl⟩
 refine tg_ f [10] ?_
 cases h
 exact d1_ tt_
theorem Qo5 : ∀(fuel:Nat) (a:Qk) {r:Int},Qcr fuel a=some r->Qc prog 178 [.agg (Qn a)] [] (Gives (.I r) [])
 | 0,_,_,h=>by cases h
 | n+1,a,_,h=>Qwg (Qcr n) (fun _ _ h=>Qo5 n _ h) a h
theorem Qx8 (a){r}(h:Qna a=some r):Qc prog 178 [.agg (Qn a)] [] (Gives (.I r) []):=Qo5 _ a h
def Qk2 (c:Qk)(rec_expr_Size:Qk->Option Int)(d:Int)(a:Int):Option ((Int×Int)⊕Int):=
 bif (decide (a<(c.Kids.length:Int)))then
 (idx c.Kids a).bind fun e=>
 (rec_expr_Size e).bind fun b=>
 some (.inl ((w64 (d+b)),(w64 (a+1))))
 else
 some (.inr d)
def QnX (a:Int):Option Int:=
 some a
def Qmf (rec_expr_Size:Qk->Option Int)(a:Qk):Option Int:=
 (Qw (fun st=>Qk2 a rec_expr_Size st.1 st.2) (1,0)).bind (fun q=>QnX q)
def Qc2 : Nat->Qk->Option Int
 | 0,_=>none
 | n+1,a=>Qmf (Qc2 n) a
def Qoj (a:Qk):Option Int:=Qc2 (SizeOf.sizeOf a) a
theorem Qw7 (rec_expr_Size:Qk->Option Int)(hrec_expr_Size:∀(a:Qk) {r:Int},rec_expr_Size a=some r->Qc prog 179 [.agg (Qn a)] [] (Gives (.I r) []))(a:Qk){r:Int}(h:Qmf rec_expr_Size a=some r):Qc prog 179 [.agg (Qn a)] [] (Gives (.I r) []):=by
 refine wk_ 19 func179 fun C f=>?_
 refine Qa f [16,.o (.ln a.Kids.length),4,.K [3,7,8,9] []] rfl (a1_ (QfG _)) ?_
 obtain⟨m,g,h⟩:=Qb h
 refine AK.loop (body:=(fun st=>Qk2 a rec_expr_Size st.1 st.2)) (fun st σ=>σ=⟨[(3,.I st.1),(7,.sl 3 (Qbg a.Kids)),(8,.I (a.Kids.length:Int)),(9,.I st.2)],[]⟩) (fun q e σ=>e=.exit 0/\σ=⟨[(3,.I q)],[]⟩) g rfl ?_ ?_
 ·rintro ⟨p,s⟩ o σ rfl h
  refine tg_ f [6] ?_
  rcases Qp h with⟨b,h⟩|⟨b,h⟩
  ·obtain⟨j,k,h⟩:=Qb h
   obtain⟨l,i,h⟩:=Qb h
   refine Qa f [.T,6,.o (.row (Qn j)),.A (Qn j),2,.O 5 (.var (Qn j)),4,.A (Qn j),.o (.C1 (.I l)),9,.K [3,7,8,9] []] rfl (a6_ b (Qbz k) rfl rfl rfl (hrec_expr_Size _ i)) ?_
   cases h
   exact QR rfl rfl
  refine Qa f [.F,2,.K [3] []] rfl (a1_ b) ?_
  cases h
  exact QT rfl (an_ rfl rfl)
 replace h:QnX m=some r:=h
 rintro e σ ⟨rfl,rfl⟩
 refine tg_ f [9] ?_
 cases h
 exact d1_ tt_
theorem Qqf : ∀(fuel:Nat) (a:Qk) {r:Int},Qc2 fuel a=some r->Qc prog 179 [.agg (Qn a)] [] (Gives (.I r) [])
 | 0,_,_,h=>by cases h
 | n+1,a,_,h=>Qw7 (Qc2 n) (fun _ _ h=>Qqf n _ h) a h
theorem Qy7 (a){r}(h:Qoj a=some r):Qc prog 179 [.agg (Qn a)] [] (Gives (.I r) []):=Qqf _ a h
def QfR (a:Int)(b:Bool):Option Int:=
 bif b then
 some 1
 else
 bif (a==5)then
 some 2
 else
 bif (a==6)then
 some 3
 else
 some (-1)
def QfS (a:Int)(b:Bool):Option Int:=
 bif b then
 some 0
 else
 bif (a==3)then
 QfR a (a==3)
 else
 QfR a (a==4)
def QlS (a:Int):Option Int:=
 bif (a==1)then
 QfS a (a==1)
 else
 QfS a (a==2)
theorem Qy8 (a){r}(h:QlS a=some r):Qc prog 208 [.I a] [] (Gives (.I r) []):=by
 refine wk_ 14 func208 fun C c=>?_
 refine tg_ c [12] ?_
 refine AK.meet (fun σ=>∃k:Bool,σ=⟨[(3,.I a),(4,.b k)],[]⟩/\QfS a k=some r) ?_ ?_
 ·refine tg_ c [6] ?_
  refine bq_ c h [.T,1,.K [3,4] []] rfl (fun d h=>?_) [.F,4,.K [3,4] []] rfl fun d h=>?_
  ·exact AK.met (ex_ _ (an_ rfl h))
  exact AK.met (ex_ _ (an_ rfl h))
 rintro σ ⟨k,rfl,h⟩
 refine bq_ c h [.T,8,.K [2] []] rfl (fun f h=>?_) [.F] rfl fun f h=>?_
 ·cases h
  exact d1_ tt_
 refine AK.meet (fun σ=>∃l:Bool,σ=⟨[(3,.I a),(7,.b l)],[]⟩/\QfR a l=some r) ?_ ?_
 ·refine tg_ c [6] ?_
  refine bq_ c h [.T,1,.K [3,7] []] rfl (fun e h=>?_) [.F,4,.K [3,7] []] rfl fun e h=>?_
  ·exact AK.met (ex_ _ (an_ rfl h))
  exact AK.met (ex_ _ (an_ rfl h))
 rintro σ ⟨l,rfl,h⟩
 refine bq_ c h [.T,8,.K [2] []] rfl (fun g h=>?_) [.F,6] rfl fun g h=>?_
 ·cases h
  exact d1_ tt_
 refine bq_ c h [.T,8,.K [2] []] rfl (fun i h=>?_) [.F,6] rfl fun i h=>?_
 ·cases h
  exact d1_ tt_
 refine bq_ c h [.T,8,.K [2] []] rfl (fun j h=>?_) [.F,9,.K [2] []] rfl fun j h=>?_
 ·cases h
  exact d1_ tt_
 cases h
 exact d1_ tt_
def Qks (op1:Int):Option Bool:=
 some ((decide (1<=op1))&&(decide (op1<=11)))
theorem Qx9 (op1){r}(h:Qks op1=some r):Qc prog 209 [.I op1] [] (Gives (.b r) []):=by
 refine wk_ 9 func209 fun C c=>?_
 refine tg_ c [6] ?_
 refine AK.meetX (fun σ=>σ=⟨[(2,.b ((decide (1<=op1))&&(decide (op1<=11))))],[]⟩) ?_ ?_
 ·refine tg_ c [4] ?_
  rcases QD (decide (1<=op1))with a | a
  ·refine Qa c [.S 5 (.b true),5,.S 2 (.b ((decide (1<=op1))&&(decide (op1<=11)))),.K [2] []] rfl ⟨(tc_ a),(congrArg V.b (Qai a rfl))⟩ ?_
   exact mt_
  refine Qa c [.S 5 (.b false),5,.S 2 (.b ((decide (1<=op1))&&(decide (op1<=11)))),.K [2] []] rfl ⟨(tc_ a),(congrArg V.b (QaS a rfl))⟩ ?_
  exact mt_
 rintro σ rfl
 refine tg_ c [2] ?_
 cases h
 exact d1_ tt_
def Qk3 (rec_expr_parts:Qk->Int->Option Bool)(a:Qk)(b:Int):Option Bool:=
 (rec_expr_parts a b).bind fun c=>
 some (!c)
theorem Qwh (rec_expr_parts:Qk->Int->Option Bool)(hrec_expr_parts:∀(i:Qk) (a:Int) {r:Bool},rec_expr_parts i a=some r->Qc prog 180 [.agg (Qn i),.I a] [] (Gives (.b r) []))(e:Qk)(f:Int){r:Bool}(h:Qk3 rec_expr_parts e f=some r):Qc prog 211 [.agg (Qn e),.L 617] [(617,.var (Qe f))] (Gives (.b r) [(617,.var (Qe f))]):=by
 refine wk_ 8 func211 fun C j=>?_
 obtain⟨k,g,h⟩:=Qb h
 refine Qa j [8,.A (Qn e),1,.o (.C2 (.b k)),5] rfl (a2_ rfl (hrec_expr_parts _ _ g)) ?_
 cases h
 exact d1_ r1_
def Q3 (c:(List Qk))(rec_expr_parts:Qk->Int->Option Bool)(d:Int)(a:Int):Option (Int⊕(Int⊕Unit)):=
 bif (decide (a<(c.length:Int)))then
 (idx c a).bind fun e=>
 (Qk3 rec_expr_parts e d).bind fun b=>
 bif b then
 some (.inr (.inl a))
 else
 some (.inl (w64 (a+1)))
 else
 some (.inr (.inr ()))
def Qew (a:Int):Option Int:=
 some a
def Qex : Option Int:=
 some (-1)
def QbA (rec_expr_parts:Qk->Int->Option Bool)(a:(List Qk))(b:Int):Option Int:=
 (Qw (fun st=>Q3 a rec_expr_parts b st) 0).bind (Sum.elim (fun q=>Qew q) (fun q=>Qex))
theorem Qi0 (rec_expr_parts:Qk->Int->Option Bool)(hrec_expr_parts:∀(t:Qk) (a:Int) {r:Bool},rec_expr_parts t a=some r->Qc prog 180 [.agg (Qn t),.I a] [] (Gives (.b r) []))(j:(List Qk))(f:Int){r:Int}(h:QbA rec_expr_parts j f=some r):Qc prog 239 [.sl 3 (Qbg j),.clo (.func 211) [] [.L 617]] [(617,.var (Qe f))] (Gives (.I r) [(617,.var (Qe f))]):=by
 refine wk_ 19 func239 fun C g=>?_
 refine Qa g [9,.o (.ln j.length),4,.K [0,1,7,8] [617]] rfl (a1_ (QfG _)) ?_
 obtain⟨m,k,h⟩:=Qb h
 refine AK.loop (body:=(fun st=>Q3 j rec_expr_parts f st)) (fun st σ=>σ=⟨[(0,.sl 3 (Qbg j)),(1,.clo (.func 211) [] [.L 617]),(7,.I (j.length:Int)),(8,.I st)],[(617,.var (Qe f))]⟩) (Sum.elim (fun q e σ=>e=.ret/\σ=⟨[(4,.I q)],[(617,.var (Qe f))]⟩) (fun q e σ=>e=.exit 0/\σ=⟨[],[(617,.var (Qe f))]⟩)) k rfl ?_ ?_
 ·rintro x o σ rfl h
  refine tg_ g [6] ?_
  rcases Qp h with⟨i,h⟩|⟨i,h⟩
  ·obtain⟨u,p,h⟩:=Qb h
   obtain⟨s,l,h⟩:=Qb h
   refine Qa g [.T,15,.o (.row (Qn u)),.A (Qn u),.cm (.clo) [(617,617)] [(617,617)] [] [.d,.d] [(617,.var (Qe f))] (.b s),2] rfl (a4_ i (Qbz p) rfl (Qwh rec_expr_parts hrec_expr_parts _ _ l)) ?_
   refine bq_ g h [.T,9,.K [4] [617]] rfl (fun c h=>?_) [.F,7,.K [0,1,7,8] [617]] rfl fun c h=>?_
   ·cases h
    exact Q6 rfl (an_ rfl rfl)
   cases h
   exact QR rfl rfl
  refine Qa g [.F,2,.K [] [617]] rfl (a1_ i) ?_
  cases h
  exact QT rfl (an_ rfl rfl)
 rcases m with(w | _)
 ·replace h:Qew w=some r:=h
  rintro e σ ⟨rfl,rfl⟩
  refine tg_ g [2] ?_
  cases h
  exact d1_ r1_
 replace h:Qex=some r:=h
 rintro e σ ⟨rfl,rfl⟩
 refine tg_ g [8] ?_
 cases h
 exact d1_ r1_
def Qac (rec_expr_parts:Qk->Int->Option Bool)(a:(List Qk))(b:Int):Option Bool:=
 (QbA rec_expr_parts a b).bind fun c=>
 some (decide (0<=c))
theorem QhW (rec_expr_parts:Qk->Int->Option Bool)(hrec_expr_parts:∀(f:Qk) (a:Int) {r:Bool},rec_expr_parts f a=some r->Qc prog 180 [.agg (Qn f),.I a] [] (Gives (.b r) []))(g:(List Qk))(c:Int){r:Bool}(h:Qac rec_expr_parts g c=some r):Qc prog 210 [.sl 3 (Qbg g),.clo (.func 211) [] [.L 617]] [(617,.var (Qe c))] (Gives (.b r) [(617,.var (Qe c))]):=by
 refine wk_ 9 func210 fun C i=>?_
 obtain⟨j,e,h⟩:=Qb h
 refine Qa i [9,.cm (.fn) [(617,617)] [(617,617)] [] [.d,.d] [(617,.var (Qe c))] (.I j),5] rfl (a1_ (Qi0 rec_expr_parts hrec_expr_parts _ _ e)) ?_
 cases h
 exact d1_ r1_
def Qnb (b:Qk):Option Bool:=
 bif (b.Kind==5)then
 (Qks b.Num).bind fun a=>
 some (!a)
 else
 some false
def QgY (rec_expr_parts:Qk->Int->Option Bool)(d:Qk)(a:Int)(b:Bool):Option Bool:=
 bif b then
 some false
 else
 (Qac rec_expr_parts d.Kids a).bind fun c=>
 some (!c)
def QhX (rec_expr_parts:Qk->Int->Option Bool)(b:Qk)(a:Int):Option Bool:=
 (QlS b.Kind).bind fun d=>
 bif ((b.Kids.length:Int) != d)then
 some false
 else
 bif ((b.Kind==2)&&((decide (b.Num<0))||(decide (a<=b.Num))))then
 some false
 else
 (Qnb b).bind (fun c=>QgY rec_expr_parts b a c)
def QaP : Nat->Qk->Int->Option Bool
 | 0,_,_=>none
 | n+1,b,a=>QhX (QaP n) b a
def Qnc (b:Qk)(a:Int):Option Bool:=QaP (SizeOf.sizeOf b) b a
theorem Qwi (rec_expr_parts:Qk->Int->Option Bool)(hrec_expr_parts:∀(f:Qk) (e:Int) {r:Bool},rec_expr_parts f e=some r->Qc prog 180 [.agg (Qn f),.I e] [] (Gives (.b r) []))(f:Qk)(e:Int){r:Bool}(h:QhX rec_expr_parts f e=some r):Qc prog 180 [.agg (Qn f),.I e] [] (Gives (.b r) []):=by
 refine wk_ 43 func180 fun C g=>?_
 obtain⟨y,v,h⟩:=Qb h
 refine tg_ g [10,.K [2,3] [2,3]] ?_
 refine AK.draw2 Qr g mixed [.N,.N,.a (.ln f.Kids.length) none false,.N,.N,.a (.C1 (.I y)) none false,.N,.N] [] [] [2,3,5] [2,3] rfl rfl rfl ⟨⟨tt_,QfG _⟩,(Qy8 _ v)⟩ rfl (by kernel_rfl) rfl rfl rfl ?_
 refine tg_ g [1] ?_
 refine bq_ g h [.T,8,.K [4] []] rfl (fun p h=>?_) [.F,1] rfl fun p h=>?_
 ·cases h
  exact d1_ tt_
 refine AK.meetX (fun σ=>σ=⟨[lk_ 2,lk_ 3,(13,.b ((f.Kind==2)&&((decide (f.Num<0))||(decide (e<=f.Num)))))],[(2,.var (Qn f)),(3,.var (Qe e))]⟩) ?_ ?_
 ·refine tg_ g [5] ?_
  rcases QD (f.Kind==2)with i | i
  ·refine Qa g [.S 17 (.b true),4] rfl (tc_ i) ?_
   rcases QD (decide (f.Num<0))with j | j
   ·refine Qa g [.S 21 (.b true),8,.S 13 (.b ((f.Kind==2)&&((decide (f.Num<0))||(decide (e<=f.Num))))),.K [2,3,13] [2,3]] rfl ⟨(tc_ j),(congrArg V.b (Qai i (orT j rfl)))⟩ ?_
    exact mt_
   refine Qa g [.S 21 (.b false),8,.S 13 (.b ((f.Kind==2)&&((decide (f.Num<0))||(decide (e<=f.Num))))),.K [2,3,13] [2,3]] rfl ⟨(tc_ j),(congrArg V.b (Qai i (orF j rfl)))⟩ ?_
   exact mt_
  refine Qa g [.S 17 (.b false),12,.S 13 (.b ((f.Kind==2)&&((decide (f.Num<0))||(decide (e<=f.Num))))),.K [2,3,13] [2,3]] rfl ⟨(tc_ i),(congrArg V.b (QaS i rfl))⟩ ?_
  exact mt_
 rintro σ rfl
 refine tg_ g [1] ?_
 refine bq_ g h [.T,8,.K [4] []] rfl (fun k h=>?_) [.F,1] rfl fun k h=>?_
 ·cases h
  exact d1_ tt_
 obtain⟨q,s,h⟩:=Qb h
 replace h:QgY rec_expr_parts f e q=some r:=h
 refine AK.meetX (fun σ=>σ=⟨[lk_ 2,lk_ 3,(28,.b q)],[(2,.var (Qn f)),(3,.var (Qe e))]⟩) ?_ ?_
 ·replace h:=s
  refine tg_ g [5] ?_
  rcases Qp h with⟨l,h⟩|⟨l,h⟩
  ·obtain⟨w,t,h⟩:=Qb h
   refine Qa g [.S 32 (.b true),2,.o (.C1 (.b w)),4,.K [2,3,28] [2,3]] rfl ⟨(tc_ l),(Qx9 _ t)⟩ ?_
   cases h
   exact mt_
  refine Qa g [.S 32 (.b false),7,.K [2,3,28] [2,3]] rfl (tc_ l) ?_
  cases h
  exact mt_
 rintro σ rfl
 replace h:QgY rec_expr_parts f e q=some r:=h
 refine tg_ g [1] ?_
 rcases Qp h with⟨m,h⟩|⟨m,h⟩
 ·refine Qa g [.T,8] rfl (a1_ m) ?_
  cases h
  exact d1_ tt_
 obtain⟨x,u,h⟩:=Qb h
 refine Qa g [.F,8,.cm (.fn) [(617,3)] [(3,617)] [] [.d,.d] [(617,.var (Qe e))] (.b x),5] rfl (a2_ m (QhW rec_expr_parts hrec_expr_parts _ _ u)) ?_
 cases h
 exact d1_ tt_
theorem Qo6 : ∀(fuel:Nat) (c:Qk) (a:Int) {r:Bool},QaP fuel c a=some r->Qc prog 180 [.agg (Qn c),.I a] [] (Gives (.b r) [])
 | 0,_,_,_,h=>by cases h
 | n+1,c,a,_,h=>Qwi (QaP n) (fun _ _ _ h=>Qo6 n _ _ h) c a h
theorem Qya (c a){r}(h:Qnc c a=some r):Qc prog 180 [.agg (Qn c),.I a] [] (Gives (.b r) []):=Qo6 _ c a h
def Qnd (b:Qk)(a:Int):Option Bool:=
 (Qna b).bind fun d=>
 bif (decide (d<=40))then
 (Qoj b).bind fun e=>
 bif (decide (e<=400))then
 (Qnc b a).bind fun c=>
 some c
 else
 some false
 else
 some false
def Qne (a:Bool):Option Bool:=
 some a
def Qe7 (b:Qk)(a:Int):Option Bool:=
 (Qnd b a).bind (fun c=>Qne c)
theorem Qnf (i a){r}(h:Qe7 i a=some r):Qc prog 128 [.agg (Qn i),.I a] [] (Gives (.b r) []):=by
 refine wk_ 18 func128 fun C e=>?_
 refine tg_ e [7] ?_
 obtain⟨k,l,h⟩:=Qb h
 replace h:Qne k=some r:=h
 refine AK.meetX (fun σ=>σ=⟨[(4,.b k)],[]⟩) ?_ ?_
 ·replace h:=l
  obtain⟨s,m,h⟩:=Qb h
  refine Qa e [1,.A (Qn i),.o (.C1 (.I s)),2] rfl (a2_ rfl (Qx8 _ m)) ?_
  rcases Qp h with⟨f,h⟩|⟨f,h⟩
  ·obtain⟨t,p,h⟩:=Qb h
   refine Qa e [.S 8 (.b true),.A (Qn i),.o (.C1 (.I t)),3] rfl ⟨⟨(tc_ f),rfl⟩,(Qy7 _ p)⟩ ?_
   rcases Qp h with⟨g,h⟩|⟨g,h⟩
   ·obtain⟨q,j,h⟩:=Qb h
    refine Qa e [.S 13 (.b true),.A (Qn i),1,.o (.C2 (.b q)),3,.K [4] []] rfl ⟨⟨(tc_ g),rfl⟩,(Qya _ _ j)⟩ ?_
    cases h
    exact mt_
   refine Qa e [.S 13 (.b false),6,.K [4] []] rfl (tc_ g) ?_
   cases h
   exact mt_
  refine Qa e [.S 8 (.b false),11,.K [4] []] rfl (tc_ f) ?_
  cases h
  exact mt_
 rintro σ rfl
 replace h:Qne k=some r:=h
 refine tg_ e [2] ?_
 cases h
 exact d1_ tt_
def Qb7 (b:(List Int))(a:Int)(c:Bool):Option ((List Int)⊕((List Int)⊕((List Int)⊕((List Int)⊕(List Int))))):=
 bif c then
 some (.inr (.inr (.inl b)))
 else
 bif (a==5)then
 some (.inr (.inr (.inr (.inl b))))
 else
 some (.inr (.inr (.inr (.inr b))))
def QcD (b:(List Int))(a:Int):Option ((List Int)⊕((List Int)⊕((List Int)⊕((List Int)⊕(List Int))))):=
 bif (a==1)then
 some (.inl b)
 else
 bif (a==2)then
 some (.inr (.inl b))
 else
 bif (a==3)then
 Qb7 b a (a==3)
 else
 Qb7 b a (a==4)
theorem Qe8 (k a){r}(h:QcD k a=some r):Qc prog 202 [.sl 1 (k.map Qe),.I a] [] ((Sum.elim (fun q=>(Gives (.clo (.func 230) [.sl 1 (q.map Qe)] []) [])) (Sum.elim (fun q=>(Gives (.clo (.func 231) [.sl 1 (q.map Qe)] []) [])) (Sum.elim (fun q=>(Gives (.clo (.func 232) [.sl 1 (q.map Qe)] []) [])) (Sum.elim (fun q=>(Gives (.clo (.func 233) [.sl 1 (q.map Qe)] []) [])) (fun q=>(Gives (.clo (.func 234) [.sl 1 (q.map Qe)] []) [])))))) r):=by
 refine wk_ 25 func202 fun C c=>?_
 refine tg_ c [18] ?_
 refine bq_ c h [.T,10,.K [4] []] rfl (fun g h=>?_) [.F,6] rfl fun g h=>?_
 ·cases h
  exact AK.done (ex_ [_] (an_ (an_ rfl tt_) (gives tt_)))
 refine bq_ c h [.T,10,.K [4] []] rfl (fun i h=>?_) [.F] rfl fun i h=>?_
 ·cases h
  exact AK.done (ex_ [_] (an_ (an_ rfl tt_) (gives tt_)))
 refine AK.meet (fun σ=>∃j:Bool,σ=⟨[(0,.sl 1 (k.map Qe)),(5,.I a),(14,.b j)],[]⟩/\Qb7 k a j=some r) ?_ ?_
 ·refine tg_ c [6] ?_
  refine bq_ c h [.T,1,.K [0,5,14] []] rfl (fun d h=>?_) [.F,4,.K [0,5,14] []] rfl fun d h=>?_
  ·exact AK.met (ex_ _ (an_ rfl h))
  exact AK.met (ex_ _ (an_ rfl h))
 rintro σ ⟨j,rfl,h⟩
 refine bq_ c h [.T,10,.K [4] []] rfl (fun e h=>?_) [.F,6] rfl fun e h=>?_
 ·cases h
  exact AK.done (ex_ [_] (an_ (an_ rfl tt_) (gives tt_)))
 refine bq_ c h [.T,10,.K [4] []] rfl (fun f h=>?_) [.F,11,.K [4] []] rfl fun f h=>?_
 ·cases h
  exact AK.done (ex_ [_] (an_ (an_ rfl tt_) (gives tt_)))
 cases h
 exact AK.done (ex_ [_] (an_ (an_ rfl tt_) (gives tt_)))
def Qo7 (b:(List Int))(a:Qk):Option (Int×Int):=
 some (a.Num,0)
theorem QtP (a b){r}(h:Qo7 a b=some r):Qc prog 230 [.sl 1 (a.map Qe),.agg (Qn b)] [] (Gives (.tup [.I r.1,.I r.2]) []):=by
 refine wk_ 8 func230 fun C c=>?_
 refine tg_ c [16] ?_
 cases h
 exact d2_ tt_
def Qgp (a:(List Int))(b:Qk):Option (Int×Int):=
 (idx a b.Num).bind fun c=>
 some (c,0)
theorem Qsn (b c){r}(h:Qgp b c=some r):Qc prog 231 [.sl 1 (b.map Qe),.agg (Qn c)] [] (Gives (.tup [.I r.1,.I r.2]) []):=by
 refine wk_ 11 func231 fun C d=>?_
 obtain⟨e,a,h⟩:=Qb h
 refine Qa d [12,.o (.row (Qe e)),6] rfl (a1_ (QE a)) ?_
 cases h
 exact d2_ tt_
def Qiw (a:Int)(b:Int):Option (Int×Int):=
 bif (((decide (a<0))==(decide (b<0)))&&((decide ((w64 (a+b))<0)) != (decide (a<0))))then
 some (0,6)
 else
 some ((w64 (a+b)),0)
theorem QzY (a d){r}(h:Qiw a d=some r):Qc prog 253 [.I a,.I d] [] (Gives (.tup [.I r.1,.I r.2]) []):=by
 refine wk_ 23 func253 fun C e=>?_
 refine tg_ e [16] ?_
 refine AK.meetX (fun σ=>σ=⟨[(6,.I (w64 (a+d))),(21,.b (((decide (a<0))==(decide (d<0)))&&((decide ((w64 (a+d))<0)) != (decide (a<0)))))],[]⟩) ?_ ?_
 ·refine tg_ e [7] ?_
  rcases QD ((decide (a<0))==(decide (d<0)))with c | c
  ·refine Qa e [.S 15 (.b true),7,.S 21 (.b (((decide (a<0))==(decide (d<0)))&&((decide ((w64 (a+d))<0)) != (decide (a<0))))),.K [6,21] []] rfl ⟨(tc_ c),(congrArg V.b (Qai c rfl))⟩ ?_
   exact mt_
  refine Qa e [.S 15 (.b false),7,.S 21 (.b (((decide (a<0))==(decide (d<0)))&&((decide ((w64 (a+d))<0)) != (decide (a<0))))),.K [6,21] []] rfl ⟨(tc_ c),(congrArg V.b (QaS c rfl))⟩ ?_
  exact mt_
 rintro σ rfl
 refine tg_ e [1] ?_
 refine bq_ e h [.T,8,.K [4,5] []] rfl (fun f h=>?_) [.F,10,.K [4,5] []] rfl fun f h=>?_
 ·cases h
  exact d2_ tt_
 cases h
 exact d2_ tt_
def Qdf (a:Int)(b:Int):Option (Int×Int):=
 bif (((decide (a<0)) != (decide (b<0)))&&((decide ((w64 (a-b))<0)) != (decide (a<0))))then
 some (0,6)
 else
 some ((w64 (a-b)),0)
theorem QtQ (a d){r}(h:Qdf a d=some r):Qc prog 254 [.I a,.I d] [] (Gives (.tup [.I r.1,.I r.2]) []):=by
 refine wk_ 23 func254 fun C e=>?_
 refine tg_ e [16] ?_
 refine AK.meetX (fun σ=>σ=⟨[(6,.I (w64 (a-d))),(21,.b (((decide (a<0)) != (decide (d<0)))&&((decide ((w64 (a-d))<0)) != (decide (a<0)))))],[]⟩) ?_ ?_
 ·refine tg_ e [7] ?_
  rcases QD ((decide (a<0)) != (decide (d<0)))with c | c
  ·refine Qa e [.S 15 (.b true),7,.S 21 (.b (((decide (a<0)) != (decide (d<0)))&&((decide ((w64 (a-d))<0)) != (decide (a<0))))),.K [6,21] []] rfl ⟨(tc_ c),(congrArg V.b (Qai c rfl))⟩ ?_
   exact mt_
  refine Qa e [.S 15 (.b false),7,.S 21 (.b (((decide (a<0)) != (decide (d<0)))&&((decide ((w64 (a-d))<0)) != (decide (a<0))))),.K [6,21] []] rfl ⟨(tc_ c),(congrArg V.b (QaS c rfl))⟩ ?_
  exact mt_
 rintro σ rfl
 refine tg_ e [1] ?_
 refine bq_ e h [.T,8,.K [4,5] []] rfl (fun f h=>?_) [.F,10,.K [4,5] []] rfl fun f h=>?_
 ·cases h
  exact d2_ tt_
 cases h
 exact d2_ tt_
def Qhh (a:Int):Option Int:=
 bif (decide (a<0))then
 some (IntKind.u64.wrap (0-(IntKind.u64.wrap a)))
 else
 some (IntKind.u64.wrap a)
theorem QsD (c){r}(h:Qhh c=some r):Qc prog 260 [.I c] [] (Gives (.i .u64 r) []):=by
 refine wk_ 10 func260 fun C b=>?_
 refine tg_ b [12] ?_
 refine bg_ h (fun a h=>Qa b [.T,3,.o (.any (.i .u64 (IntKind.u64.wrap c)) none),6,.K [2] []] rfl (a2_ a (fun σ d e _=>Stp.convI rfl rfl (QS b.n rfl) (d _ _ rfl) QAK Qvd)) ?_) fun a h=>Qa b [.F,5,.o (.any (.i .u64 (IntKind.u64.wrap c)) none),4,.K [2] []] rfl (a2_ a (fun σ d e _=>Stp.convI rfl rfl (QS b.n rfl) (d _ _ rfl) QAK Qvd)) ?_
 ·cases h
  exact d1_ tt_
 cases h
 exact d1_ tt_
def Qes (a:Int)(b:Int):Option (Int×Int):=
 some ((IntKind.u64.wrap ((IntKind.u64.wrap ((IntKind.u64.wrap ((QeB .u64 a 32)*(QeB .u64 b 32)))+(QeB .u64 (IntKind.u64.wrap ((IntKind.u64.wrap ((QeB .u64 a 32)*(Qd6 .u64 b 4294967295)))+(QeB .u64 (IntKind.u64.wrap ((Qd6 .u64 a 4294967295)*(Qd6 .u64 b 4294967295))) 32))) 32)))+(QeB .u64 (IntKind.u64.wrap ((Qd6 .u64 (IntKind.u64.wrap ((IntKind.u64.wrap ((QeB .u64 a 32)*(Qd6 .u64 b 4294967295)))+(QeB .u64 (IntKind.u64.wrap ((Qd6 .u64 a 4294967295)*(Qd6 .u64 b 4294967295))) 32))) 4294967295)+(IntKind.u64.wrap ((Qd6 .u64 a 4294967295)*(QeB .u64 b 32))))) 32))),(IntKind.u64.wrap (a*b)))
theorem QtR (b c){r}(h:Qes b c=some r):Qc prog 259 [.i .u64 b,.i .u64 c] [] (Gives (.tup [.i .u64 r.1,.i .u64 r.2]) []):=by
 refine wk_ 51 func259 fun C d=>?_
 refine Qa d [9,.o (.any (.i .u64 (Qd6 .u64 b 4294967295)) none),6,.o (.any (.i .u64 (QeB .u64 b 32)) none),6,.o (.any (.i .u64 (Qd6 .u64 c 4294967295)) none),6,.o (.any (.i .u64 (QeB .u64 c 32)) none),17,.o (.any (.i .u64 (QeB .u64 (IntKind.u64.wrap ((Qd6 .u64 b 4294967295)*(Qd6 .u64 c 4294967295))) 32)) none),7,.o (.any (.i .u64 (Qd6 .u64 (IntKind.u64.wrap ((IntKind.u64.wrap ((QeB .u64 b 32)*(Qd6 .u64 c 4294967295)))+(QeB .u64 (IntKind.u64.wrap ((Qd6 .u64 b 4294967295)*(Qd6 .u64 c 4294967295))) 32))) 4294967295)) none),6,.o (.any (.i .u64 (QeB .u64 (IntKind.u64.wrap ((IntKind.u64.wrap ((QeB .u64 b 32)*(Qd6 .u64 c 4294967295)))+(QeB .u64 (IntKind.u64.wrap ((Qd6 .u64 b 4294967295)*(Qd6 .u64 c 4294967295))) 32))) 32)) none),21,.o (.any (.i .u64 (QeB .u64 (IntKind.u64.wrap ((Qd6 .u64 (IntKind.u64.wrap ((IntKind.u64.wrap ((QeB .u64 b 32)*(Qd6 .u64 c 4294967295)))+(QeB .u64 (IntKind.u64.wrap ((Qd6 .u64 b 4294967295)*(Qd6 .u64 c 4294967295))) 32))) 4294967295)+(IntKind.u64.wrap ((Qd6 .u64 b 4294967295)*(QeB .u64 c 32))))) 32)) none),13] rfl (a8_ (fun σ a e _=>Stp.andB rfl rfl (QS d.n rfl) (a _ _ rfl) (a _ _ rfl)) (fun σ a e _=>Stp.shr rfl rfl (QS d.n rfl) (a _ _ rfl) (a _ _ rfl) (by decide)) (fun σ a e _=>Stp.andB rfl rfl (QS d.n rfl) (a _ _ rfl) (a _ _ rfl)) (fun σ a e _=>Stp.shr rfl rfl (QS d.n rfl) (a _ _ rfl) (a _ _ rfl) (by decide)) (fun σ a e _=>Stp.shr rfl rfl (QS d.n rfl) (a _ _ rfl) (a _ _ rfl) (by decide)) (fun σ a e _=>Stp.andB rfl rfl (QS d.n rfl) (a _ _ rfl) (a _ _ rfl)) (fun σ a e _=>Stp.shr rfl rfl (QS d.n rfl) (a _ _ rfl) (a _ _ rfl) (by decide)) (fun σ a e _=>Stp.shr rfl rfl (QS d.n rfl) (a _ _ rfl) (a _ _ rfl) (by decide))) ?_
 cases h
 exact d2_ tt_
def Qdg (b:(Int×Int))(c:Int)(d:Int)(a:Int):Option (Int×Int):=
 bif ((decide (0<b.1))||(decide (a<b.2)))then
 some (0,6)
 else
 some ((w64 (c*d)),0)
def QfT (a:Int)(b:Int):Option (Int×Int):=
 (Qhh a).bind fun d=>
 (Qhh b).bind fun e=>
 (Qes d e).bind fun c=>
 bif ((decide (a<0)) != (decide (b<0)))then
 Qdg c a b (IntKind.u64.wrap (9223372036854775807+1))
 else
 Qdg c a b 9223372036854775807
theorem Qwj (l m){r}(h:QfT l m=some r):Qc prog 255 [.I l,.I m] [] (Gives (.tup [.I r.1,.I r.2]) []):=by
 refine wk_ 34 func255 fun C g=>?_
 obtain⟨t,p,h⟩:=Qb h
 obtain⟨u,q,h⟩:=Qb h
 obtain⟨f,s,h⟩:=Qb h
 refine Qa g [9,.o (.C1 (.i .u64 t)),1,.o (.C1 (.i .u64 u)),.o (.C2 (.tup [.i .u64 f.1,.i .u64 f.2])),12] rfl (a3_ (QsD _ p) (QsD _ q) (QtR _ _ s)) ?_
 refine AK.meet (fun σ=>∃a:Int,σ=⟨[(0,.I l),(1,.I m),(6,.i .u64 f.1),(7,.i .u64 f.2),(8,.i .u64 a)],[]⟩/\Qdg f l m a=some r) ?_ ?_
 ·refine tg_ g [9] ?_
  refine bq_ g h [.T,5,.K [0,1,6,7,8] []] rfl (fun j h=>?_) [.F,1,.K [0,1,6,7,8] []] rfl fun j h=>?_
  ·exact AK.met (ex_ _ (an_ rfl h))
  exact AK.met (ex_ _ (an_ rfl h))
 rintro σ ⟨a,rfl,h⟩
 refine tg_ g [2] ?_
 refine AK.meetX (fun σ=>σ=⟨[(0,.I l),(1,.I m),(30,.b ((decide (0<f.1))||(decide (a<f.2))))],[]⟩) ?_ ?_
 ·refine tg_ g [4] ?_
  rcases QD (decide (0<f.1))with e | e
  ·refine Qa g [.S 26 (.b true),5,.S 30 (.b ((decide (0<f.1))||(decide (a<f.2)))),.K [0,1,30] []] rfl ⟨(tc_ e),(congrArg V.b (orT e rfl))⟩ ?_
   exact mt_
  refine Qa g [.S 26 (.b false),5,.S 30 (.b ((decide (0<f.1))||(decide (a<f.2)))),.K [0,1,30] []] rfl ⟨(tc_ e),(congrArg V.b (orF e rfl))⟩ ?_
  exact mt_
 rintro σ rfl
 refine tg_ g [1] ?_
 refine bq_ g h [.T,8,.K [4,5] []] rfl (fun k h=>?_) [.F,12,.K [4,5] []] rfl fun k h=>?_
 ·cases h
  exact d2_ tt_
 cases h
 exact d2_ tt_
def QcE (b:Int)(a:Int):Option (Int×Int×Int):=
 bif (a==0)then
 some (0,0,7)
 else
 bif ((b==(-9223372036854775808))&&(a==(-1)))then
 some (0,0,6)
 else
 (chk (a != 0)).bind fun _=>
 (chk (a != 0)).bind fun _=>
 some ((w64 (Int.tdiv b a)),(Int.tmod b a),0)
theorem QoA (e g){r}(h:QcE e g=some r):Qc prog 256 [.I e,.I g] [] (Gives (.tup [.I r.1,.I r.2.1,.I r.2.2]) []):=by
 refine wk_ 23 func256 fun C c=>?_
 refine tg_ c [16] ?_
 refine bq_ c h [.T,10,.K [4,5,6] []] rfl (fun f h=>?_) [.F,1] rfl fun f h=>?_
 ·cases h
  exact AK.done (ex_ [_,_,_] (an_ (an_ rfl (an_ rfl (an_ rfl tt_))) (gives tt_)))
 refine AK.meetX (fun σ=>σ=⟨[(0,.I e),(1,.I g),(10,.b ((e==(-9223372036854775808))&&(g==(-1))))],[]⟩) ?_ ?_
 ·refine tg_ c [4] ?_
  rcases QD (e==(-9223372036854775808))with a | a
  ·refine Qa c [.S 13 (.b true),5,.S 10 (.b ((e==(-9223372036854775808))&&(g==(-1)))),.K [0,1,10] []] rfl ⟨(tc_ a),(congrArg V.b (Qai a rfl))⟩ ?_
   exact mt_
  refine Qa c [.S 13 (.b false),5,.S 10 (.b ((e==(-9223372036854775808))&&(g==(-1)))),.K [0,1,10] []] rfl ⟨(tc_ a),(congrArg V.b (QaS a rfl))⟩ ?_
  exact mt_
 rintro σ rfl
 refine tg_ c [1] ?_
 rcases Qp h with⟨d,h⟩|⟨d,h⟩
 ·refine Qa c [.T,10,.K [4,5,6] []] rfl (a1_ d) ?_
  cases h
  exact AK.done (ex_ [_,_,_] (an_ (an_ rfl (an_ rfl (an_ rfl tt_))) (gives tt_)))
 obtain⟨i,h⟩:=Qao h
 obtain⟨j,h⟩:=Qao h
 refine Qa c [.F,4,.K [0,1] []] rfl (a1_ d) ?_
 refine AK.draw2 Qr c mixed [.N,.N,.N,.N,.N,.N,.N,.N,.N] [] [] [4,5,6] [] rfl rfl rfl ⟨⟨tt_,(neZ i)⟩,(neZ j)⟩ rfl (by kernel_rfl) rfl rfl rfl ?_
 refine tg_ c [2,.K [4,5,6] []] ?_
 cases h
 exact AK.done (ex_ [_,_,_] (an_ (an_ rfl (an_ rfl (an_ rfl tt_))) (gives tt_)))
def QbX (a:Bool):Option (Int×Int):=
 bif a then
 some (1,0)
 else
 some (0,0)
theorem Qey (c){r}(h:QbX c=some r):Qc prog 257 [.b c] [] (Gives (.tup [.I r.1,.I r.2]) []):=by
 refine wk_ 5 func257 fun C d=>?_
 refine tg_ d [12] ?_
 refine bq_ d h [.T,8,.K [2,3] []] rfl (fun a h=>?_) [.F,9,.K [2,3] []] rfl fun a h=>?_
 ·cases h
  exact d2_ tt_
 cases h
 exact d2_ tt_
def Qng (c:Int)(d:Int):Option (Int×Int):=
 bif (c != 0)then
 (QbX (d != 0)).bind fun a=>
 some (a.1,a.2)
 else
 (QbX false).bind fun b=>
 some (b.1,b.2)
def Qkt (a:Int)(b:Int):Option (Int×Int):=
 some (a,b)
def Qnh (c:Int)(d:Int):Option (Int×Int):=
 bif (c != 0)then
 (QbX true).bind fun a=>
 some (a.1,a.2)
 else
 (QbX (d != 0)).bind fun b=>
 some (b.1,b.2)
def Qku (a:Int)(b:Int):Option (Int×Int):=
 some (a,b)
def QbR (op1:Int)(a:Int)(b:Int):Option (Int×Int):=
 bif (op1==1)then
 (Qiw a b).bind fun k=>
 some (k.1,k.2)
 else
 bif (op1==2)then
 (Qdf a b).bind fun c=>
 some (c.1,c.2)
 else
 bif (op1==3)then
 (QfT a b).bind fun d=>
 some (d.1,d.2)
 else
 bif (op1==4)then
 (QcE a b).bind fun e=>
 some (e.1,e.2.2)
 else
 bif (op1==5)then
 (QcE a b).bind fun f=>
 some (f.2.1,f.2.2)
 else
 bif (op1==6)then
 (QbX (a==b)).bind fun g=>
 some (g.1,g.2)
 else
 bif (op1==7)then
 (QbX (a != b)).bind fun h=>
 some (h.1,h.2)
 else
 bif (op1==8)then
 (QbX (decide (a<b))).bind fun i=>
 some (i.1,i.2)
 else
 bif (op1==9)then
 (QbX (decide (a<=b))).bind fun j=>
 some (j.1,j.2)
 else
 bif (op1==10)then
 (Qng a b).bind (fun v=>Qkt v.1 v.2)
 else
 bif (op1==11)then
 (Qnh a b).bind (fun v=>Qku v.1 v.2)
 else
 some (0,1)
theorem Qni (op1 a2 b3){r}(h:QbR op1 a2 b3=some r):Qc prog 249 [.I op1,.I a2,.I b3] [] (Gives (.tup [.I r.1,.I r.2]) []):=by
 refine wk_ 112 func249 fun C a=>?_
 refine tg_ a [19] ?_
 rcases Qp h with⟨u,h⟩|⟨u,h⟩
 ·obtain⟨x9,a6,h⟩:=Qb h
  refine Qa a [.T,4,.o (.C2 (.tup [.I x9.1,.I x9.2])),9] rfl (a2_ u (QzY _ _ a6)) ?_
  cases h
  exact d2_ tt_
 refine Qa a [.F,6] rfl (a1_ u) ?_
 rcases Qp h with⟨e,h⟩|⟨e,h⟩
 ·obtain⟨y,z,h⟩:=Qb h
  refine Qa a [.T,4,.o (.C2 (.tup [.I y.1,.I y.2])),9] rfl (a2_ e (QtQ _ _ z)) ?_
  cases h
  exact d2_ tt_
 refine Qa a [.F,6] rfl (a1_ e) ?_
 rcases Qp h with⟨f,h⟩|⟨f,h⟩
 ·obtain⟨A,B,h⟩:=Qb h
  refine Qa a [.T,4,.o (.C2 (.tup [.I A.1,.I A.2])),9] rfl (a2_ f (Qwj _ _ B)) ?_
  cases h
  exact d2_ tt_
 refine Qa a [.F,6] rfl (a1_ f) ?_
 rcases Qp h with⟨g,h⟩|⟨g,h⟩
 ·obtain⟨w,D,h⟩:=Qb h
  refine Qa a [.T,4,.o (.C2 (.tup [.I w.1,.I w.2.1,.I w.2.2])),20] rfl (a2_ g (QoA _ _ D)) ?_
  cases h
  exact d2_ tt_
 refine Qa a [.F,6] rfl (a1_ g) ?_
 rcases Qp h with⟨i,h⟩|⟨i,h⟩
 ·obtain⟨x,E,h⟩:=Qb h
  refine Qa a [.T,4,.o (.C2 (.tup [.I x.1,.I x.2.1,.I x.2.2])),20] rfl (a2_ i (QoA _ _ E)) ?_
  cases h
  exact d2_ tt_
 refine Qa a [.F,6] rfl (a1_ i) ?_
 rcases Qp h with⟨j,h⟩|⟨j,h⟩
 ·obtain⟨G,H,h⟩:=Qb h
  refine Qa a [.T,5,.o (.C1 (.tup [.I G.1,.I G.2])),9] rfl (a2_ j (Qey _ H)) ?_
  cases h
  exact d2_ tt_
 refine Qa a [.F,6] rfl (a1_ j) ?_
 rcases Qp h with⟨k,h⟩|⟨k,h⟩
 ·obtain⟨J,L,h⟩:=Qb h
  refine Qa a [.T,5,.o (.C1 (.tup [.I J.1,.I J.2])),9] rfl (a2_ k (Qey _ L)) ?_
  cases h
  exact d2_ tt_
 refine Qa a [.F,6] rfl (a1_ k) ?_
 rcases Qp h with⟨l,h⟩|⟨l,h⟩
 ·obtain⟨M,N,h⟩:=Qb h
  refine Qa a [.T,5,.o (.C1 (.tup [.I M.1,.I M.2])),9] rfl (a2_ l (Qey _ N)) ?_
  cases h
  exact d2_ tt_
 refine Qa a [.F,6] rfl (a1_ l) ?_
 rcases Qp h with⟨m,h⟩|⟨m,h⟩
 ·obtain⟨O,P,h⟩:=Qb h
  refine Qa a [.T,5,.o (.C1 (.tup [.I O.1,.I O.2])),9] rfl (a2_ m (Qey _ P)) ?_
  cases h
  exact d2_ tt_
 refine Qa a [.F,6] rfl (a1_ m) ?_
 refine bq_ a h [.T,1] rfl (fun p h=>?_) [.F,6] rfl fun p h=>?_
 ·obtain⟨v,U,h⟩:=Qb h
  replace h:Qkt v.1 v.2=some r:=h
  refine AK.meetX (fun σ=>σ=⟨[(6,.I v.1),(7,.I v.2)],[]⟩) ?_ ?_
  ·replace h:=U
   refine tg_ a [4] ?_
   rcases Qp h with⟨q,h⟩|⟨q,h⟩
   ·obtain⟨W,X,h⟩:=Qb h
    refine Qa a [.S 94 (.b true),3,.o (.C1 (.tup [.I W.1,.I W.2])),5,.K [6,7] []] rfl ⟨(tc_ q),(Qey _ X)⟩ ?_
    cases h
    exact mt_
   obtain⟨Y,Z,h⟩:=Qb h
   refine Qa a [.S 94 (.b false),3,.o (.C1 (.tup [.I Y.1,.I Y.2])),5,.K [6,7] []] rfl ⟨(tc_ q),(Qey _ Z)⟩ ?_
   cases h
   exact mt_
  rintro σ rfl
  obtain⟨a7,a8⟩:=v
  replace h:Qkt a7 a8=some r:=h
  refine tg_ a [4] ?_
  cases h
  exact d2_ tt_
 refine bq_ a h [.T,1] rfl (fun s h=>?_) [.F,10,.K [6,7] []] rfl fun s h=>?_
 ·obtain⟨v,a0,h⟩:=Qb h
  replace h:Qku v.1 v.2=some r:=h
  refine AK.meetX (fun σ=>σ=⟨[(6,.I v.1),(7,.I v.2)],[]⟩) ?_ ?_
  ·replace h:=a0
   refine tg_ a [4] ?_
   rcases Qp h with⟨t,h⟩|⟨t,h⟩
   ·obtain⟨a1,a3,h⟩:=Qb h
    refine Qa a [.S 105 (.b true),3,.o (.C1 (.tup [.I a1.1,.I a1.2])),5,.K [6,7] []] rfl ⟨(tc_ t),(Qey _ a3)⟩ ?_
    cases h
    exact mt_
   obtain⟨a4,a5,h⟩:=Qb h
   refine Qa a [.S 105 (.b false),3,.o (.C1 (.tup [.I a4.1,.I a4.2])),5,.K [6,7] []] rfl ⟨(tc_ t),(Qey _ a5)⟩ ?_
   cases h
   exact mt_
  rintro σ rfl
  obtain⟨a9,b0⟩:=v
  replace h:Qku a9 b0=some r:=h
  refine tg_ a [4] ?_
  cases h
  exact d2_ tt_
 cases h
 exact d2_ tt_
def Qnj (b:Int):Option (Int×Int):=
 (QbR 2 0 b).bind fun a=>
 some (a.1,a.2)
theorem QzZ (b){r}(h:Qnj b=some r):Qc prog 248 [.I b] [] (Gives (.tup [.I r.1,.I r.2]) []):=by
 refine wk_ 8 func248 fun C f=>?_
 obtain⟨e,a,h⟩:=Qb h
 refine Qa f [9,.o (.C3 (.tup [.I e.1,.I e.2])),7] rfl (a1_ (Qni _ _ _ a)) ?_
 cases h
 exact d2_ tt_
def Qfy (rec_expr_env_eval:(List Int)->Qk->Option (Int×Int))(e:(List Int))(d:Qk):Option (Int×Int):=
 (idx d.Kids 0).bind fun f=>
 (rec_expr_env_eval e f).bind fun c=>
 bif (c.2 != 0)then
 some (0,c.2)
 else
 bif (d.Kind==3)then
 (Qnj c.1).bind fun a=>
 some (a.1,a.2)
 else
 (QbR 6 c.1 0).bind fun b=>
 some (b.1,b.2)
theorem QtS (rec_expr_env_eval:(List Int)->Qk->Option (Int×Int))(hrec_expr_env_eval:∀(e:(List Int)) (f:Qk) {r:(Int×Int)},rec_expr_env_eval e f=some r->Qc prog 162 [.sl 1 (e.map Qe),.agg (Qn f)] [] (Gives (.tup [.I r.1,.I r.2]) []))(e:(List Int))(f:Qk){r:(Int×Int)}(h:Qfy rec_expr_env_eval e f=some r):Qc prog 232 [.sl 1 (e.map Qe),.agg (Qn f)] [] (Gives (.tup [.I r.1,.I r.2]) []):=by
 refine wk_ 33 func232 fun C g=>?_
 obtain⟨q,m,h⟩:=Qb h
 obtain⟨s,p,h⟩:=Qb h
 refine Qa g [12,.o (.row (Qn q)),.A (Qn q),.o (.C2 (.tup [.I s.1,.I s.2])),16] rfl (a3_ (Qbz m) rfl (hrec_expr_env_eval _ _ p)) ?_
 refine bq_ g h [.T,10,.K [4,5] []] rfl (fun b h=>?_) [.F,8] rfl fun b h=>?_
 ·cases h
  exact d2_ tt_
 rcases Qp h with⟨a,h⟩|⟨a,h⟩
 ·obtain⟨i,j,h⟩:=Qb h
  refine Qa g [.T,3,.o (.C1 (.tup [.I i.1,.I i.2])),9] rfl (a2_ a (QzZ _ j)) ?_
  cases h
  exact d2_ tt_
 obtain⟨k,l,h⟩:=Qb h
 refine Qa g [.F,6,.o (.C3 (.tup [.I k.1,.I k.2])),7] rfl (a2_ a (Qni _ _ _ l)) ?_
 cases h
 exact d2_ tt_
def Qdh (f:(Int×Int))(g:Qk)(rec_expr_env_eval:(List Int)->Qk->Option (Int×Int))(h:(List Int))(d:Bool):Option (Int×Int):=
 bif d then
 (QbR 7 f.1 0).bind fun b=>
 some (b.1,b.2)
 else
 (idx g.Kids 1).bind fun e=>
 (rec_expr_env_eval h e).bind fun a=>
 bif (a.2 != 0)then
 some (0,a.2)
 else
 (QbR g.Num f.1 a.1).bind fun c=>
 some (c.1,c.2)
def Qk4 (rec_expr_env_eval:(List Int)->Qk->Option (Int×Int))(c:(List Int))(b:Qk):Option (Int×Int):=
 (idx b.Kids 0).bind fun d=>
 (rec_expr_env_eval c d).bind fun a=>
 bif (a.2 != 0)then
 some (0,a.2)
 else
 bif ((b.Num==10)&&(a.1==0))then
 Qdh a b rec_expr_env_eval c ((b.Num==10)&&(a.1==0))
 else
 bif (b.Num==11)then
 Qdh a b rec_expr_env_eval c (a.1 != 0)
 else
 Qdh a b rec_expr_env_eval c false
theorem Qwk (rec_expr_env_eval:(List Int)->Qk->Option (Int×Int))(hrec_expr_env_eval:∀(l:(List Int)) (f:Qk) {r:(Int×Int)},rec_expr_env_eval l f=some r->Qc prog 162 [.sl 1 (l.map Qe),.agg (Qn f)] [] (Gives (.tup [.I r.1,.I r.2]) []))(l:(List Int))(f:Qk){r:(Int×Int)}(h:Qk4 rec_expr_env_eval l f=some r):Qc prog 233 [.sl 1 (l.map Qe),.agg (Qn f)] [] (Gives (.tup [.I r.1,.I r.2]) []):=by
 refine wk_ 60 func233 fun C e=>?_
 obtain⟨E,B,h⟩:=Qb h
 obtain⟨m,D,h⟩:=Qb h
 refine Qa e [12,.o (.row (Qn E)),.A (Qn E),.o (.C2 (.tup [.I m.1,.I m.2])),16] rfl (a3_ (Qbz B) rfl (hrec_expr_env_eval _ _ D)) ?_
 refine bq_ e h [.T,10,.K [4,5] []] rfl (fun p h=>?_) [.F] rfl fun p h=>?_
 ·cases h
  exact d2_ tt_
 refine AK.meet (fun σ=>∃q:Bool,σ=⟨[(0,.sl 1 (l.map Qe)),lk_ 3,(6,.I m.1),(22,.b q)],[(3,.var (Qn f))]⟩/\Qdh m f rec_expr_env_eval l q=some r) ?_ ?_
 ·refine tg_ e [1] ?_
  refine AK.meetX (fun σ=>σ=⟨[(0,.sl 1 (l.map Qe)),lk_ 3,(6,.I m.1),(22,.b ((f.Num==10)&&(m.1==0)))],[(3,.var (Qn f))]⟩) ?_ ?_
  ·refine tg_ e [5] ?_
   rcases QD (f.Num==10)with a | a
   ·refine Qa e [.S 26 (.b true),5,.S 22 (.b ((f.Num==10)&&(m.1==0))),.K [0,3,6,22] [3]] rfl ⟨(tc_ a),(congrArg V.b (Qai a rfl))⟩ ?_
    exact mt_
   refine Qa e [.S 26 (.b false),5,.S 22 (.b ((f.Num==10)&&(m.1==0))),.K [0,3,6,22] [3]] rfl ⟨(tc_ a),(congrArg V.b (QaS a rfl))⟩ ?_
   exact mt_
  rintro σ rfl
  refine tg_ e [1] ?_
  refine bq_ e h [.T,1,.K [0,3,6,22] [3]] rfl (fun g h=>?_) [.F,5] rfl fun g h=>?_
  ·exact AK.met (ex_ _ (an_ rfl h))
  refine bg_ h (fun i h=>Qa e [.S 33 (.b true),5,.K [0,3,6,22] [3]] rfl (tc_ i) ?_) fun i h=>Qa e [.S 33 (.b false),5,.K [0,3,6,22] [3]] rfl (tc_ i) ?_
  ·exact AK.met (ex_ _ (an_ rfl h))
  exact AK.met (ex_ _ (an_ rfl h))
 rintro σ ⟨q,rfl,h⟩
 rcases Qp h with⟨j,h⟩|⟨j,h⟩
 ·obtain⟨s,t,h⟩:=Qb h
  refine Qa e [.T,3,.o (.C3 (.tup [.I s.1,.I s.2])),9] rfl (a2_ j (Qni _ _ _ t)) ?_
  cases h
  exact d2_ tt_
 obtain⟨u,w,h⟩:=Qb h
 obtain⟨x,y,h⟩:=Qb h
 refine Qa e [.F,8,.o (.row (Qn u)),.A (Qn u),.o (.C2 (.tup [.I x.1,.I x.2])),14] rfl (a4_ j (Qbz w) rfl (hrec_expr_env_eval _ _ y)) ?_
 rcases Qp h with⟨k,h⟩|⟨k,h⟩
 ·refine Qa e [.T,9] rfl (a1_ k) ?_
  cases h
  exact d2_ tt_
 obtain⟨z,A,h⟩:=Qb h
 refine Qa e [.F,8,.o (.C3 (.tup [.I z.1,.I z.2])),7] rfl (a2_ k (Qni _ _ _ A)) ?_
 cases h
 exact d2_ tt_
def QhB (rec_expr_env_eval:(List Int)->Qk->Option (Int×Int))(c:(List Int))(d:Qk):Option (Int×Int):=
 (idx d.Kids 0).bind fun h=>
 (rec_expr_env_eval c h).bind fun e=>
 bif (e.2 != 0)then
 some (0,e.2)
 else
 bif (e.1 != 0)then
 (idx d.Kids 1).bind fun f=>
 (rec_expr_env_eval c f).bind fun a=>
 some (a.1,a.2)
 else
 (idx d.Kids 2).bind fun g=>
 (rec_expr_env_eval c g).bind fun b=>
 some (b.1,b.2)
theorem QtT (rec_expr_env_eval:(List Int)->Qk->Option (Int×Int))(hrec_expr_env_eval:∀(e:(List Int)) (f:Qk) {r:(Int×Int)},rec_expr_env_eval e f=some r->Qc prog 162 [.sl 1 (e.map Qe),.agg (Qn f)] [] (Gives (.tup [.I r.1,.I r.2]) []))(e:(List Int))(f:Qk){r:(Int×Int)}(h:QhB rec_expr_env_eval e f=some r):Qc prog 234 [.sl 1 (e.map Qe),.agg (Qn f)] [] (Gives (.tup [.I r.1,.I r.2]) []):=by
 refine wk_ 40 func234 fun C g=>?_
 obtain⟨w,t,h⟩:=Qb h
 obtain⟨x,u,h⟩:=Qb h
 refine Qa g [12,.o (.row (Qn w)),.A (Qn w),.o (.C2 (.tup [.I x.1,.I x.2])),16] rfl (a3_ (Qbz t) rfl (hrec_expr_env_eval _ _ u)) ?_
 refine bq_ g h [.T,10,.K [4,5] []] rfl (fun b h=>?_) [.F,7] rfl fun b h=>?_
 ·cases h
  exact d2_ tt_
 rcases Qp h with⟨a,h⟩|⟨a,h⟩
 ·obtain⟨i,j,h⟩:=Qb h
  obtain⟨k,l,h⟩:=Qb h
  refine Qa g [.T,5,.o (.row (Qn i)),.A (Qn i),.o (.C2 (.tup [.I k.1,.I k.2])),9] rfl (a4_ a (Qbz j) rfl (hrec_expr_env_eval _ _ l)) ?_
  cases h
  exact d2_ tt_
 obtain⟨m,p,h⟩:=Qb h
 obtain⟨q,s,h⟩:=Qb h
 refine Qa g [.F,8,.o (.row (Qn m)),.A (Qn m),.o (.C2 (.tup [.I q.1,.I q.2])),7] rfl (a4_ a (Qbz p) rfl (hrec_expr_env_eval _ _ s)) ?_
 cases h
 exact d2_ tt_
def QoB (b:Qk)(c:(List Int)):Option (Int×Int):=
 (Qo7 c b).bind fun a=>
 some (a.1,a.2)
def QdU (b:Qk)(c:(List Int)):Option (Int×Int):=
 (Qgp c b).bind fun a=>
 some (a.1,a.2)
def Qb8 (rec_expr_env_eval:(List Int)->Qk->Option (Int×Int))(c:Qk)(b:(List Int)):Option (Int×Int):=
 (Qfy rec_expr_env_eval b c).bind fun a=>
 some (a.1,a.2)
def QdV (rec_expr_env_eval:(List Int)->Qk->Option (Int×Int))(c:Qk)(b:(List Int)):Option (Int×Int):=
 (Qk4 rec_expr_env_eval b c).bind fun a=>
 some (a.1,a.2)
def QdW (rec_expr_env_eval:(List Int)->Qk->Option (Int×Int))(c:Qk)(b:(List Int)):Option (Int×Int):=
 (QhB rec_expr_env_eval b c).bind fun a=>
 some (a.1,a.2)
def Qfz (rec_expr_env_eval:(List Int)->Qk->Option (Int×Int))(b:(List Int))(a:Qk):Option (Int×Int):=
 (QcD b a.Kind).bind fun c=>
 (Sum.elim (fun q=>QoB a q) (Sum.elim (fun q=>QdU a q) (Sum.elim (fun q=>Qb8 rec_expr_env_eval a q) (Sum.elim (fun q=>QdV rec_expr_env_eval a q) (fun q=>QdW rec_expr_env_eval a q))))) c
def Qaa : Nat->(List Int)->Qk->Option (Int×Int)
 | 0,_,_=>none
 | n+1,a,b=>Qfz (Qaa n) a b
def QjE (b:(List Int))(a:Qk):Option (Int×Int):=Qaa (SizeOf.sizeOf a) b a
theorem QtU (rec_expr_env_eval:(List Int)->Qk->Option (Int×Int))(hrec_expr_env_eval:∀(o:(List Int)) (e:Qk) {r:(Int×Int)},rec_expr_env_eval o e=some r->Qc prog 162 [.sl 1 (o.map Qe),.agg (Qn e)] [] (Gives (.tup [.I r.1,.I r.2]) []))(o:(List Int))(e:Qk){r:(Int×Int)}(h:Qfz rec_expr_env_eval o e=some r):Qc prog 162 [.sl 1 (o.map Qe),.agg (Qn e)] [] (Gives (.tup [.I r.1,.I r.2]) []):=by
 refine wk_ 14 func162 fun C b=>?_
 refine tg_ b [8] ?_
 obtain⟨E,f,h⟩:=Qb h
 rcases E with(B | (D | (j | (k | l))))
 ·replace h:QoB e B=some r:=h
  obtain⟨p,q,h⟩:=Qb h
  refine tg_ b [.K [0,3,4,5] [3]] ?_
  refine AK.draw2 Qr b mixed [.N,.N,.N,.a (.any (.clo (.func 230) [.sl 1 (B.map Qe)] []) none) none false,.a .no (some ([],.agg (Qn e))) false,.a (.C2 (.tup [.I p.1,.I p.2])) none false,.N,.N,.m .s,.m .s] [] [] [4,5] [] rfl rfl rfl ⟨⟨⟨tt_,(fun σ g i _=>Stp.callSame (md:=.cm (.fn) [] [] [] [.d,.d] [] (.clo (.func 230) [.sl 1 (B.map Qe)] []) []) Qr b g i rfl ⟨tt_,(Qe8 _ _ f)⟩)⟩,rfl⟩,(QtP _ _ q)⟩ rfl (by kernel_rfl) rfl rfl rfl ?_
  refine tg_ b [2] ?_
  cases h
  exact d2_ tt_
 ·replace h:QdU e D=some r:=h
  obtain⟨t,u,h⟩:=Qb h
  refine tg_ b [.K [0,3,4,5] [3]] ?_
  refine AK.draw2 Qr b mixed [.N,.N,.N,.a (.any (.clo (.func 231) [.sl 1 (D.map Qe)] []) none) none false,.a .no (some ([],.agg (Qn e))) false,.a (.C2 (.tup [.I t.1,.I t.2])) none false,.N,.N,.m .s,.m .s] [] [] [4,5] [] rfl rfl rfl ⟨⟨⟨tt_,(fun σ g i _=>Stp.callSame (md:=.cm (.fn) [] [] [] [.d,.d] [] (.clo (.func 231) [.sl 1 (D.map Qe)] []) []) Qr b g i rfl ⟨tt_,(Qe8 _ _ f)⟩)⟩,rfl⟩,(Qsn _ _ u)⟩ rfl (by kernel_rfl) rfl rfl rfl ?_
  refine tg_ b [2] ?_
  cases h
  exact d2_ tt_
 ·replace h:Qb8 rec_expr_env_eval e j=some r:=h
  obtain⟨v,w,h⟩:=Qb h
  refine tg_ b [.K [0,3,4,5] [3]] ?_
  refine AK.draw2 Qr b mixed [.N,.N,.N,.a (.any (.clo (.func 232) [.sl 1 (j.map Qe)] []) none) none false,.a .no (some ([],.agg (Qn e))) false,.a (.C2 (.tup [.I v.1,.I v.2])) none false,.N,.N,.m .s,.m .s] [] [] [4,5] [] rfl rfl rfl ⟨⟨⟨tt_,(fun σ g i _=>Stp.callSame (md:=.cm (.fn) [] [] [] [.d,.d] [] (.clo (.func 232) [.sl 1 (j.map Qe)] []) []) Qr b g i rfl ⟨tt_,(Qe8 _ _ f)⟩)⟩,rfl⟩,(QtS rec_expr_env_eval hrec_expr_env_eval _ _ w)⟩ rfl (by kernel_rfl) rfl rfl rfl ?_
  refine tg_ b [2] ?_
  cases h
  exact d2_ tt_
 ·replace h:QdV rec_expr_env_eval e k=some r:=h
  obtain⟨x,y,h⟩:=Qb h
  refine tg_ b [.K [0,3,4,5] [3]] ?_
  refine AK.draw2 Qr b mixed [.N,.N,.N,.a (.any (.clo (.func 233) [.sl 1 (k.map Qe)] []) none) none false,.a .no (some ([],.agg (Qn e))) false,.a (.C2 (.tup [.I x.1,.I x.2])) none false,.N,.N,.m .s,.m .s] [] [] [4,5] [] rfl rfl rfl ⟨⟨⟨tt_,(fun σ g i _=>Stp.callSame (md:=.cm (.fn) [] [] [] [.d,.d] [] (.clo (.func 233) [.sl 1 (k.map Qe)] []) []) Qr b g i rfl ⟨tt_,(Qe8 _ _ f)⟩)⟩,rfl⟩,(Qwk rec_expr_env_eval hrec_expr_env_eval _ _ y)⟩ rfl (by kernel_rfl) rfl rfl rfl ?_
  refine tg_ b [2] ?_
  cases h
  exact d2_ tt_
 replace h:QdW rec_expr_env_eval e l=some r:=h
 obtain⟨z,A,h⟩:=Qb h
 refine tg_ b [.K [0,3,4,5] [3]] ?_
 refine AK.draw2 Qr b mixed [.N,.N,.N,.a (.any (.clo (.func 234) [.sl 1 (l.map Qe)] []) none) none false,.a .no (some ([],.agg (Qn e))) false,.a (.C2 (.tup [.I z.1,.I z.2])) none false,.N,.N,.m .s,.m .s] [] [] [4,5] [] rfl rfl rfl ⟨⟨⟨tt_,(fun σ g i _=>Stp.callSame (md:=.cm (.fn) [] [] [] [.d,.d] [] (.clo (.func 234) [.sl 1 (l.map Qe)] []) []) Qr b g i rfl ⟨tt_,(Qe8 _ _ f)⟩)⟩,rfl⟩,(QtT rec_expr_env_eval hrec_expr_env_eval _ _ A)⟩ rfl (by kernel_rfl) rfl rfl rfl ?_
 refine tg_ b [2] ?_
 cases h
 exact d2_ tt_
theorem Qnk : ∀(fuel:Nat) (a:(List Int)) (b:Qk) {r:(Int×Int)},Qaa fuel a b=some r->Qc prog 162 [.sl 1 (a.map Qe),.agg (Qn b)] [] (Gives (.tup [.I r.1,.I r.2]) [])
 | 0,_,_,_,h=>by cases h
 | n+1,a,b,_,h=>QtU (Qaa n) (fun _ _ _ h=>Qnk n _ _ h) a b h
theorem Qvf (a b){r}(h:QjE a b=some r):Qc prog 162 [.sl 1 (a.map Qe),.agg (Qn b)] [] (Gives (.tup [.I r.1,.I r.2]) []):=Qnk _ a b h
def Qhi (b:Qk)(a:(List Int)):Option (Int×Int):=
 (Qe7 b (a.length:Int)).bind fun d=>
 bif (!d)then
 some (0,1)
 else
 (QjE a b).bind fun c=>
 some (c.1,c.2)
theorem QsE (f a){r}(h:Qhi f a=some r):Qc prog 95 [.agg (Qn f),.sl 1 (a.map Qe)] [] (Gives (.tup [.I r.1,.I r.2]) []):=by
 refine wk_ 16 func95 fun C g=>?_
 obtain⟨l,i,h⟩:=Qb h
 refine Qa g [10,.A (Qn f),1,.o (.ln a.length),.o (.C2 (.b l)),3] rfl (a3_ rfl Qf (Qnf _ _ i)) ?_
 rcases Qp h with⟨e,h⟩|⟨e,h⟩
 ·refine Qa g [.T,8] rfl (a1_ e) ?_
  cases h
  exact d2_ tt_
 obtain⟨k,j,h⟩:=Qb h
 refine Qa g [.F,5,.A (Qn f),.o (.C2 (.tup [.I k.1,.I k.2])),7] rfl (a3_ e rfl (Qvf _ _ j)) ?_
 cases h
 exact d2_ tt_
def Q7 (b:QO):Option Int:=
 (Qhi b.task.Guard b.env).bind fun a=>
 bif (a.2 != 0)then
 some a.2
 else
 bif (a.1==0)then
 some 9
 else
 some 0
theorem Qkv (f){r}(h:Q7 f=some r):Qc prog 71 [.agg (Qy f)] [] (Gives (.I r) []):=by
 refine wk_ 21 func71 fun C e=>?_
 obtain⟨i,g,h⟩:=Qb h
 refine Qa e [10,.A (Qn f.task.Guard),2,.o (.C2 (.tup [.I i.1,.I i.2])),16] rfl (a2_ rfl (QsE _ _ g)) ?_
 refine bq_ e h [.T,9,.K [2] []] rfl (fun a h=>?_) [.F,7] rfl fun a h=>?_
 ·cases h
  exact d1_ tt_
 refine bq_ e h [.T,8,.K [2] []] rfl (fun b h=>?_) [.F,9,.K [2] []] rfl fun b h=>?_
 ·cases h
  exact d1_ tt_
 cases h
 exact d1_ tt_
def QfA (a:QLL):Option QLL:=
 some a
def Qo8 (b:Int)(a:Int)(c:(List Int)):Option ((Int×(List Int))⊕(List Int)):=
 bif (decide (a<b))then
 (chk (decide (c.length+([a]:List Int).length<=4294967296))).bind fun _=>
 some (.inl ((w64 (a+1)),(c++([a]:List Int))))
 else
 some (.inr c)
def Qo9 (a:(List Int)):Option QLL:=
 some ([a]:List (List Int))
def Qpa (b:Int)(a:Int)(c:QLL):Option ((Int×QLL)⊕QLL):=
 bif (decide (a<b))then
 (chk (decide (c.length+([([a]:List Int)]:List (List Int)).length<=4294967296))).bind fun _=>
 some (.inl ((w64 (a+1)),(c++([([a]:List Int)]:List (List Int)))))
 else
 some (.inr c)
def QlI (a:QLL):Option QLL:=
 QfA a
def QlJ (a:Int)(b:(List Int)):Option ((Int×(List Int))⊕(List Int)):=
 some (.inl ((w64 (a+1)),b))
def Qpb (c:Int)(set_33:Int)(a:Int)(b:(List Int)):Option ((Int×(List Int))⊕(List Int)):=
 bif (decide (a<c))then
 (chk (decide (0<=a))).bind fun _=>
 bif ((Qd6 .i64 (QeB .i64 set_33 a) 1)==1)then
 (chk (decide (b.length+([a]:List Int).length<=4294967296))).bind fun _=>
 QlJ a (b++([a]:List Int))
 else
 QlJ a b
 else
 some (.inr b)
def Qpc (a:QLL)(set_33:Int)(b:(List Int)):Option ((Int×QLL)⊕QLL):=
 (chk (decide (a.length+([b]:List (List Int)).length<=4294967296))).bind fun _=>
 some (.inl ((w64 (set_33+1)),(a++([b]:List (List Int)))))
def Qpd (a:Int)(set_33:Int)(b:QLL):Option ((Int×QLL)⊕QLL):=
 (chk (decide (0<=a))).bind fun _=>
 bif (decide (set_33<(QB7 .i64 1 a)))then
 (Qw (fun st=>Qpb a set_33 st.1 st.2) (0,([]:List Int))).bind (fun q=>Qpc b set_33 q)
 else
 some (.inr b)
def Qkw (a:QLL):Option QLL:=
 QfA a
def QaF (b:Int)(a:Int):Option QLL:=
 bif ((decide (a<0))||((decide (16<a))||((b==3)&&(decide (4<a)))))then
 some ([]:List (List Int))
 else
 bif (b==1)then
 (Qw (fun st=>Qo8 a st.1 st.2) (0,([]:List Int))).bind (fun q=>Qo9 q)
 else
 bif (b==2)then
 (Qw (fun st=>Qpa a st.1 st.2) (0,([]:List (List Int)))).bind (fun q=>QlI q)
 else
 bif (b==3)then
 (Qw (fun st=>Qpd a st.1 st.2) (1,([]:List (List Int)))).bind (fun q=>Qkw q)
 else
 QfA ([]:List (List Int))
theorem QlK (d a){r}(h:QaF d a=some r):Qc prog 137 [.I d,.I a] [] (Gives (.own 600 r.length) [(600,.arr 1 (r.map Qv))]):=by
 refine wk_ 79 func137 fun C c=>?_
 unfold QaF at h
 refine tg_ c [7] ?_
 refine AK.meetX (fun σ=>σ=⟨[(0,.I d),(1,.I a),(25,.b ((decide (a<0))||((decide (16<a))||((d==3)&&(decide (4<a))))))],[]⟩) ?_ ?_
 ·refine tg_ c [4] ?_
  rcases QD (decide (a<0))with g | g
  ·refine Qa c [.S 14 (.b true),12,.S 25 (.b ((decide (a<0))||((decide (16<a))||((d==3)&&(decide (4<a)))))),.K [0,1,25] []] rfl ⟨(tc_ g),(congrArg V.b (orT g rfl))⟩ ?_
   exact mt_
  refine Qa c [.S 14 (.b false),4] rfl (tc_ g) ?_
  rcases QD (decide (16<a))with j | j
  ·refine Qa c [.S 18 (.b true),8,.S 25 (.b ((decide (a<0))||((decide (16<a))||((d==3)&&(decide (4<a)))))),.K [0,1,25] []] rfl ⟨(tc_ j),(congrArg V.b (orF g (orT j rfl)))⟩ ?_
   exact mt_
  refine Qa c [.S 18 (.b false),3] rfl (tc_ j) ?_
  rcases QD (d==3)with k | k
  ·refine Qa c [.S 21 (.b true),5,.S 25 (.b ((decide (a<0))||((decide (16<a))||((d==3)&&(decide (4<a)))))),.K [0,1,25] []] rfl ⟨(tc_ k),(congrArg V.b (orF g (orF j (Qai k rfl))))⟩ ?_
   exact mt_
  refine Qa c [.S 21 (.b false),5,.S 25 (.b ((decide (a<0))||((decide (16<a))||((d==3)&&(decide (4<a)))))),.K [0,1,25] []] rfl ⟨(tc_ k),(congrArg V.b (orF g (orF j (QaS k rfl))))⟩ ?_
  exact mt_
 rintro σ rfl
 refine tg_ c [1] ?_
 refine bg_ h (fun G h=>Qa c [.T,7,.adopt 4 600 1,.O 600 (.arr 1 (([]:List (List Int)).map Qv)),.S 4 (.own 600 ([]:List (List Int)).length),.K [4] [600]] rfl (a3_ G rfl rfl) ?_) fun G h=>Qa c [.F,7] rfl (a1_ G) ?_
 ·cases h
  exact d1_ r1_
 refine AK.meet (fun σ=>∃z:QLL,σ=⟨[(5,.own 604 z.length)],[(604,.arr 1 (z.map Qv))]⟩/\QfA z=some r) ?_ ?_
 ·refine tg_ c [12] ?_
  refine bg_ h (fun l h=>Qa c [.T,13,.adopt 6 33 1,.O 33 (.arr 1 (([]:List Int).map Qe)),.S 6 (.own 33 ([]:List Int).length),.K [6,29,30] [33]] rfl (a3_ l rfl (congrArg (fun n=>V.own 33 n) (by simp))) ?_) fun l h=>Qa c [.F,6] rfl (a1_ l) ?_
  ·obtain⟨A,J,h⟩:=Qb h
   refine AK.loop (body:=(fun st=>Qo8 a st.1 st.2)) (fun st σ=>σ=⟨[(6,.own 33 st.2.length),(29,.I a),(30,.I st.1)],[(33,.arr 1 (st.2.map Qe))]⟩) (fun q e σ=>e=.exit 1/\σ=⟨[(6,.own 33 q.length)],[(33,.arr 1 (q.map Qe))]⟩) J rfl ?_ ?_
   ·rintro ⟨H,L⟩ o σ rfl h
    refine tg_ c [6] ?_
    rcases Qp h with⟨m,h⟩|⟨m,h⟩
    ·obtain⟨M,h⟩:=Qao h
     refine Qa c [.T,13,.v (.bd []) [] (.sl 1 (([H]:List Int).map Qe)),.app ((L++([H]:List Int)).map Qe) (L++([H]:List Int)).length,8,.K [6,29,30] [33]] rfl (a3_ m rfl ⟨Qf,Qbk M Qf,Qap,QbG Qf⟩) ?_
     cases h
     exact QR rfl rfl
    refine Qa c [.F,2,.K [6] [33]] rfl (a1_ m) ?_
    cases h
    exact QT rfl (an_ rfl rfl)
   replace h:Qo9 A=some r:=h
   rintro e σ ⟨rfl,rfl⟩
   refine Qa c [5,.frz 33 (A.map Qe) [6,38] [],1,.O 39 (.arr 1 (([A]:List (List Int)).map Qv)),.S 39 (.own 39 ([A]:List (List Int)).length),6,.K [4] [39],.ren 39 600] rfl (a3_ (a2_ (Qcd Qf) (Qcd Qf)) rfl rfl) ?_
   cases h
   exact d1_ r1_
  refine bg_ h (fun p h=>Qa c [.T,7,.adopt 5 46 1,.O 46 (.arr 1 (([]:List (List Int)).map Qv)),.S 5 (.own 46 ([]:List (List Int)).length),.K [5,42,43] [46]] rfl (a3_ p rfl (congrArg (fun n=>V.own 46 n) (by simp))) ?_) fun p h=>Qa c [.F,6] rfl (a1_ p) ?_
  ·obtain⟨a3,N,h⟩:=Qb h
   refine AK.loop (body:=(fun st=>Qpa a st.1 st.2)) (fun st σ=>σ=⟨[(5,.own 46 st.2.length),(42,.I a),(43,.I st.1)],[(46,.arr 1 (st.2.map Qv))]⟩) (fun q e σ=>e=.exit 3/\σ=⟨[(5,.own 46 q.length)],[(46,.arr 1 (q.map Qv))]⟩) N rfl ?_ ?_
   ·rintro ⟨B,P⟩ o σ rfl h
    refine tg_ c [6] ?_
    rcases Qp h with⟨s,h⟩|⟨s,h⟩
    ·obtain⟨U,h⟩:=Qao h
     refine Qa c [.T,13,.v (.bd []) [] (.sl 1 (([B]:List Int).map Qe)),.v (.bd []) [] (.sl 1 (([([B]:List Int)]:List (List Int)).map Qv)),.app ((P++([([B]:List Int)]:List (List Int))).map Qv) (P++([([B]:List Int)]:List (List Int))).length,8,.K [5,42,43] [46]] rfl (a4_ s rfl rfl ⟨Qf,Qbk U Qf,Qap,QbG Qf⟩) ?_
     cases h
     exact QR rfl rfl
    refine Qa c [.F,2,.K [5] [46]] rfl (a1_ s) ?_
    cases h
    exact QT rfl (an_ rfl rfl)
   replace h:QlI a3=some r:=h
   unfold QlI at h
   rintro e σ ⟨rfl,rfl⟩
   refine tg_ c [2,.ren 46 604,.K [5] [604]] ?_
   exact AK.met (ex_ _ (an_ rfl h))
  refine bg_ h (fun t h=>Qa c [.T,6,.adopt 5 74 1,.O 74 (.arr 1 (([]:List (List Int)).map Qv)),.S 5 (.own 74 ([]:List (List Int)).length),.K [1,5,9] [74]] rfl (a3_ t rfl (congrArg (fun n=>V.own 74 n) (by simp))) ?_) fun t h=>Qa c [.F,2,.adopt 5 604 1,.O 604 (.arr 1 (([]:List (List Int)).map Qv)),.S 5 (.own 604 ([]:List (List Int)).length),.K [5] [604]] rfl (a3_ t rfl (congrArg (fun n=>V.own 604 n) (by simp))) ?_
  ·obtain⟨a4,W,h⟩:=Qb h
   refine AK.loop (body:=(fun st=>Qpd a st.1 st.2)) (fun st σ=>σ=⟨[(1,.I a),(5,.own 74 st.2.length),(9,.I st.1)],[(74,.arr 1 (st.2.map Qv))]⟩) (fun q e σ=>e=.exit 5/\σ=⟨[(5,.own 74 q.length)],[(74,.arr 1 (q.map Qv))]⟩) W rfl ?_ ?_
   ·rintro ⟨set_33,f⟩ o σ rfl h
    obtain⟨X,h⟩:=Qao h
    refine Qa c [5,.o (.any (.I (QB7 .i64 1 a)) none),3] rfl (a1_ (fun σ E h2 _=>Stp.shl rfl rfl (QS c.n rfl) (E _ _ rfl) (E _ _ rfl) (Qak X))) ?_
    refine bg_ h (fun u h=>Qa c [.T,17,.adopt 10 69 1,.O 69 (.arr 1 (([]:List Int).map Qe)),.S 10 (.own 69 ([]:List Int).length),.K [1,5,9,10,60,61] [69,74]] rfl (a3_ u rfl (congrArg (fun n=>V.own 69 n) (by simp))) ?_) fun u h=>Qa c [.F,2,.K [5] [74]] rfl (a1_ u) ?_
    ·obtain⟨w,Y,h⟩:=Qb h
     refine AK.loop (body:=(fun st=>Qpb a set_33 st.1 st.2)) (fun st σ=>σ=⟨[(1,.I a),(5,.own 74 f.length),(9,.I set_33),(10,.own 69 st.2.length),(60,.I a),(61,.I st.1)],[(69,.arr 1 (st.2.map Qe)),(74,.arr 1 (f.map Qv))]⟩) (fun q e σ=>e=.exit 7/\σ=⟨[(1,.I a),(5,.own 74 f.length),(9,.I set_33),(10,.own 69 q.length)],[(69,.arr 1 (q.map Qe)),(74,.arr 1 (f.map Qv))]⟩) Y rfl ?_ ?_
     ·rintro ⟨i,Z⟩ o σ rfl h
      refine tg_ c [6] ?_
      refine bq_ c h [.T,2] rfl (fun x h=>?_) [.F,2,.K [1,5,9,10] [69,74]] rfl fun x h=>?_
      ·refine AK.meet (fun σ=>∃D:(List Int),σ=⟨[(1,.I a),(5,.own 74 f.length),(9,.I set_33),(10,.own 69 D.length),(60,.I a),(61,.I i)],[(69,.arr 1 (D.map Qe)),(74,.arr 1 (f.map Qv))]⟩/\QlJ i D=some o) ?_ ?_
       ·obtain⟨a0,h⟩:=Qao h
        refine Qa c [11,.o (.any (.I (QeB .i64 set_33 i)) none),.o (.any (.I (Qd6 .i64 (QeB .i64 set_33 i) 1)) none),3] rfl (a2_ (fun σ E h2 _=>Stp.shr rfl rfl (QS c.n rfl) (E _ _ rfl) (E _ _ rfl) (Qak a0)) (fun σ E h2 _=>Stp.andB rfl rfl (QS c.n rfl) (E _ _ rfl) (E _ _ rfl))) ?_
        rcases Qp h with⟨y,h⟩|⟨y,h⟩
        ·obtain⟨a1,h⟩:=Qao h
         refine Qa c [.T,3,.v (.bd []) [] (.sl 1 (([i]:List Int).map Qe)),.app ((Z++([i]:List Int)).map Qe) (Z++([i]:List Int)).length,3,.K [1,5,9,10,60,61] [69,74]] rfl (a3_ y rfl ⟨Qf,Qbk a1 Qf,Qap,QbG Qf⟩) ?_
         exact AK.met (ex_ _ (an_ rfl h))
        refine Qa c [.F,2,.K [1,5,9,10,60,61] [69,74]] rfl (a1_ y) ?_
        exact AK.met (ex_ _ (an_ rfl h))
       rintro σ ⟨D,rfl,h⟩
       refine tg_ c [4,.K [1,5,9,10,60,61] [69,74]] ?_
       cases h
       exact QR rfl rfl
      cases h
      exact QT rfl (an_ rfl rfl)
     replace h:Qpc f set_33 w=some o:=h
     rintro e σ ⟨rfl,rfl⟩
     obtain⟨a2,h⟩:=Qao h
     refine Qa c [5,.frz 69 (w.map Qe) [10,75] [],.v (.bd []) [] (.sl 1 (([w]:List (List Int)).map Qv)),.app ((f++([w]:List (List Int))).map Qv) (f++([w]:List (List Int))).length,9,.K [1,5,9] [74]] rfl (a3_ (a2_ (Qcd Qf) (Qcd Qf)) rfl ⟨Qf,Qbk a2 Qf,Qap,QbG Qf⟩) ?_
     cases h
     exact QR rfl rfl
    cases h
    exact QT rfl (an_ rfl rfl)
   replace h:Qkw a4=some r:=h
   unfold Qkw at h
   rintro e σ ⟨rfl,rfl⟩
   refine tg_ c [2,.ren 74 604,.K [5] [604]] ?_
   exact AK.met (ex_ _ (an_ rfl h))
  exact AK.met (ex_ _ (an_ rfl h))
 rintro σ ⟨z,rfl,h⟩
 refine tg_ c [7,.K [4] [604],.ren 604 600] ?_
 cases h
 exact d1_ r1_
def QbH (c:(List Int))(d:(List Int))(a:Int):Option (Int⊕(Unit⊕Unit)):=
 bif (decide (a<(c.length:Int)))then
 (idx c a).bind fun e=>
 (idx d a).bind fun b=>
 bif (e != b)then
 some (.inr (.inl ()))
 else
 some (.inl (w64 (a+1)))
 else
 some (.inr (.inr ()))
def QjF : Option Bool:=
 some false
def QjG : Option Bool:=
 some true
def QbD (a:(List Int))(b:(List Int)):Option Bool:=
 bif ((a.length:Int) != (b.length:Int))then
 some false
 else
 (Qw (fun st=>QbH a b st) 0).bind (Sum.elim (fun q=>QjF) (fun q=>QjG))
theorem QpQ (f j){r}(h:QbD f j=some r):Qc prog 139 [.sl 1 (f.map Qe),.sl 1 (j.map Qe)] [] (Gives (.b r) []):=by
 refine wk_ 26 func139 fun C c=>?_
 refine Qa c [9,.o (.ln f.length),1,.o (.ln j.length),3] rfl (a2_ Qf Qf) ?_
 refine bg_ h (fun g h=>Qa c [.T,7,.K [4] []] rfl (a1_ g) ?_) fun g h=>Qa c [.F,6,.o (.ln f.length),4,.K [0,1,12,13] []] rfl (a2_ g Qf) ?_
 ·cases h
  exact d1_ tt_
 obtain⟨m,k,h⟩:=Qb h
 refine AK.loop (body:=(fun st=>QbH f j st)) (fun st σ=>σ=⟨[(0,.sl 1 (f.map Qe)),(1,.sl 1 (j.map Qe)),(12,.I (f.length:Int)),(13,.I st)],[]⟩) (Sum.elim (fun q e σ=>e=.ret/\σ=⟨[(4,.b false)],[]⟩) (fun q e σ=>e=.exit 0/\σ=⟨[],[]⟩)) k rfl ?_ ?_
 ·rintro u o σ rfl h
  refine tg_ c [6] ?_
  rcases Qp h with⟨i,h⟩|⟨i,h⟩
  ·obtain⟨t,p,h⟩:=Qb h
   obtain⟨s,l,h⟩:=Qb h
   refine Qa c [.T,11,.K [0,1,5,12,13] []] rfl (a1_ i) ?_
   refine AK.draw2 Qr c mixed [.N,.N,.a (.row (Qe t)) none false,.N,.N,.N,.a (.row (Qe s)) none false,.N,.N] [] [] [0,1,12,13,24] [] rfl rfl rfl ⟨⟨tt_,(QE p)⟩,(QE l)⟩ rfl (by kernel_rfl) rfl rfl rfl ?_
   refine tg_ c [1] ?_
   refine bq_ c h [.T,8,.K [4] []] rfl (fun d h=>?_) [.F,7,.K [0,1,12,13] []] rfl fun d h=>?_
   ·cases h
    exact Q6 rfl (an_ rfl rfl)
   cases h
   exact QR rfl rfl
  refine Qa c [.F,2,.K [] []] rfl (a1_ i) ?_
  cases h
  exact QT rfl (an_ rfl rfl)
 rcases m with(_ | _)
 ·replace h:QjF=some r:=h
  rintro e σ ⟨rfl,rfl⟩
  refine tg_ c [2] ?_
  cases h
  exact d1_ tt_
 replace h:QjG=some r:=h
 rintro e σ ⟨rfl,rfl⟩
 refine tg_ c [8] ?_
 cases h
 exact d1_ tt_
def QjH (a:(List Int))(b:(List Int)):Option Bool:=
 (QbD a b).bind fun c=>
 some c
theorem Qvg (f a){r}(h:QjH f a=some r):Qc prog 138 [.sl 1 (f.map Qe),.L 617] [(617,.var (Qv a))] (Gives (.b r) [(617,.var (Qv a))]):=by
 refine wk_ 7 func138 fun C g=>?_
 obtain⟨i,e,h⟩:=Qb h
 refine Qa g [9,.o (.C2 (.b i)),4] rfl (a1_ (QpQ _ _ e)) ?_
 cases h
 exact d1_ r1_
def Qaw (c:QLL)(d:(List Int))(a:Int):Option (Int⊕(Int⊕Unit)):=
 bif (decide (a<(c.length:Int)))then
 (idx c a).bind fun e=>
 (QjH e d).bind fun b=>
 bif b then
 some (.inr (.inl a))
 else
 some (.inl (w64 (a+1)))
 else
 some (.inr (.inr ()))
def Qhp (a:Int):Option Int:=
 some a
def Qhq : Option Int:=
 some (-1)
def QdC (a:QLL)(b:(List Int)):Option Int:=
 (Qw (fun st=>Qaw a b st) 0).bind (Sum.elim (fun q=>Qhp q) (fun q=>Qhq))
theorem QnH (i c){r}(h:QdC i c=some r):Qc prog 190 [.sl 1 (i.map Qv),.clo (.func 138) [] [.L 617]] [(617,.var (Qv c))] (Gives (.I r) [(617,.var (Qv c))]):=by
 refine wk_ 19 func190 fun C f=>?_
 refine Qa f [9,.o (.ln i.length),4,.K [0,1,7,8] [617]] rfl (a1_ Qf) ?_
 obtain⟨l,j,h⟩:=Qb h
 refine AK.loop (body:=(fun st=>Qaw i c st)) (fun st σ=>σ=⟨[(0,.sl 1 (i.map Qv)),(1,.clo (.func 138) [] [.L 617]),(7,.I (i.length:Int)),(8,.I st)],[(617,.var (Qv c))]⟩) (Sum.elim (fun q e σ=>e=.ret/\σ=⟨[(4,.I q)],[(617,.var (Qv c))]⟩) (fun q e σ=>e=.exit 0/\σ=⟨[],[(617,.var (Qv c))]⟩)) j rfl ?_ ?_
 ·rintro u o σ rfl h
  refine tg_ f [6] ?_
  rcases Qp h with⟨g,h⟩|⟨g,h⟩
  ·obtain⟨s,m,h⟩:=Qb h
   obtain⟨p,k,h⟩:=Qb h
   refine Qa f [.T,15,.o (.row (Qv s)),1,.cm (.clo) [(617,617)] [(617,617)] [] [.d,.d] [(617,.var (Qv c))] (.b p),2] rfl (a3_ g (QE m) (Qvg _ _ k)) ?_
   refine bq_ f h [.T,9,.K [4] [617]] rfl (fun a h=>?_) [.F,7,.K [0,1,7,8] [617]] rfl fun a h=>?_
   ·cases h
    exact Q6 rfl (an_ rfl rfl)
   cases h
   exact QR rfl rfl
  refine Qa f [.F,2,.K [] [617]] rfl (a1_ g) ?_
  cases h
  exact QT rfl (an_ rfl rfl)
 rcases l with(t | _)
 ·replace h:Qhp t=some r:=h
  rintro e σ ⟨rfl,rfl⟩
  refine tg_ f [2] ?_
  cases h
  exact d1_ r1_
 replace h:Qhq=some r:=h
 rintro e σ ⟨rfl,rfl⟩
 refine tg_ f [8] ?_
 cases h
 exact d1_ r1_
def QcS (a:QLL)(b:(List Int)):Option Bool:=
 (QdC a b).bind fun c=>
 some (decide (0<=c))
theorem QmE (e a){r}(h:QcS e a=some r):Qc prog 136 [.sl 1 (e.map Qv),.clo (.func 138) [] [.L 617]] [(617,.var (Qv a))] (Gives (.b r) [(617,.var (Qv a))]):=by
 refine wk_ 9 func136 fun C f=>?_
 obtain⟨g,c,h⟩:=Qb h
 refine Qa f [9,.cm (.fn) [(617,617)] [(617,617)] [] [.d,.d] [(617,.var (Qv a))] (.I g),5] rfl (a1_ (QnH _ _ c)) ?_
 cases h
 exact d1_ r1_
def Qez (a:Int)(b:Int)(c:(List Int)):Option Bool:=
 (QaF a b).bind fun d=>
 (QcS d c).bind fun e=>
 some e
theorem Qqg (a c e){r}(h:Qez a c e=some r):Qc prog 72 [.I a,.I c,.sl 1 (e.map Qe)] [] (Gives (.b r) []):=by
 refine wk_ 12 func72 fun C j=>?_
 obtain⟨f,g,h⟩:=Qb h
 obtain⟨k,i,h⟩:=Qb h
 refine Qa j [10,.o (.co false [.d,.d] 1 (f.map Qv) f.length),1,.frz 9 (f.map Qv) [9] [],.cm (.fn) [(617,5)] [(5,617)] [] [.d,.d] [(617,.var (Qv e))] (.b k),4] rfl (a3_ ⟨(QlK _ _ g),Qf,.inl rfl⟩ (a1_ (Qcd Qf)) (QmE _ _ i)) ?_
 cases h
 exact d1_ tt_
def Qb9 (c:(Bool×Qax))(a:Int):Option (Int×Bool):=
 (Qce c.2 a).bind fun b=>
 bif (!b)then
 some (0,false)
 else
 some (a,true)
def Qdo (d:(List QF))(e:Int)(b:Int):Option (Int×Bool):=
 (Qdq d e).bind fun c=>
 bif (!c.1)then
 some (0,false)
 else
 (QbQ c.2).bind fun a=>
 bif (a.Kind==1)then
 bif ((decide (b<a.Lo))||(decide (a.Hi<b)))then
 some (0,false)
 else
 Qb9 c (w64 (b-a.Lo))
 else
 Qb9 c b
theorem Qvh (w x k){r}(h:Qdo w x k=some r):Qc prog 96 [.sl 7 (w.map Qs),.I x,.I k] [] (Gives (.tup [.I r.1,.b r.2]) []):=by
 refine wk_ 43 func96 fun C f=>?_
 obtain⟨l,t,h⟩:=Qb h
 refine Qa f [10,.o (.C2 (.tup [.agg (Q8 l.2),.b l.1])),5,.O 8 (.var (Q8 l.2)),10] rfl (a2_ (QnW _ _ t) rfl) ?_
 refine bq_ f h [.T,8,.K [6,7] []] rfl (fun m h=>?_) [.F,2] rfl fun m h=>?_
 ·cases h
  exact d2_ tt_
 refine AK.meet (fun σ=>∃p:Int,σ=⟨[(2,.I p),lk_ 8],[(8,.var (Q8 l.2))]⟩/\Qb9 l p=some r) ?_ ?_
 ·obtain⟨a,q,h⟩:=Qb h
  refine Qa f [2,.A (Q8 l.2),.o (.C1 (.agg (Qs a))),2,.O 10 (.var (Qs a)),9] rfl (a3_ rfl (Qhg _ q) rfl) ?_
  refine bq_ f h [.T,2] rfl (fun g h=>?_) [.F,1,.K [2,8] [8]] rfl fun g h=>?_
  ·refine AK.meetX (fun σ=>σ=⟨[(2,.I k),lk_ 8,lk_ 10,(33,.b ((decide (k<a.Lo))||(decide (a.Hi<k))))],[(8,.var (Q8 l.2)),(10,.var (Qs a))]⟩) ?_ ?_
   ·refine tg_ f [6] ?_
    rcases QD (decide (k<a.Lo))with e | e
    ·refine Qa f [.S 28 (.b true),6,.S 33 (.b ((decide (k<a.Lo))||(decide (a.Hi<k)))),.K [2,8,10,33] [8,10]] rfl ⟨(tc_ e),(congrArg V.b (orT e rfl))⟩ ?_
     exact mt_
    refine Qa f [.S 28 (.b false),6,.S 33 (.b ((decide (k<a.Lo))||(decide (a.Hi<k)))),.K [2,8,10,33] [8,10]] rfl ⟨(tc_ e),(congrArg V.b (orF e rfl))⟩ ?_
    exact mt_
   rintro σ rfl
   refine tg_ f [1] ?_
   refine bq_ f h [.T,9,.K [6,7] []] rfl (fun i h=>?_) [.F,9,.K [2,8] [8]] rfl fun i h=>?_
   ·cases h
    exact d2_ tt_
   exact AK.met (ex_ _ (an_ rfl h))
  exact AK.met (ex_ _ (an_ rfl h))
 rintro σ ⟨p,rfl,h⟩
 obtain⟨u,s,h⟩:=Qb h
 refine Qa f [3,.A (Q8 l.2),1,.o (.C2 (.b u)),3] rfl (a2_ rfl (QnJ _ _ s)) ?_
 refine bq_ f h [.T,8,.K [6,7] []] rfl (fun j h=>?_) [.F,10,.K [6,7] []] rfl fun j h=>?_
 ·cases h
  exact d2_ tt_
 cases h
 exact d2_ tt_
def Qee (a:QBg):Option Unit:=
 some ()
theorem QlT (a){r}(h:Qee a=some r):Qc prog 92 [.map 617] [(617,.map (QQ V.I V.I a))] (Gives (.clo (.func 159) [] [.L 1]) [(1,.var [.map 617]),(617,.map (QQ V.I V.I a))]):=by
 refine wk_ 4 func92 fun C b=>?_
 refine tg_ b [13] ?_
 cases h
 exact d1_ r2_
def Qc6 (a:(List Int))(b:Int):Option (List Int):=
 (chk (decide (a.length+([b]:List Int).length<=4294967296))).bind fun _=>
 some (a++([b]:List Int))
theorem Qjm (lpl lpf:Nat)(a:(List Int))(c:Int){r:(List Int)}(h:Qc6 a c=some r):Qox prog lpl (Qf3 lpf) (QGb (.L 618) (.I c)) [(617,.lp lpl (Qf3 lpf) (Qsm (.L 618)) 0),(618,.var [.own 615 a.length]),(615,.arr 1 (a.map Qe))] (Gives (.b true) [(615,.arr 1 (r.map Qe)),(617,.lp lpl (Qf3 lpf) (Qsm (.L 618)) 0),(618,.var [.own 615 r.length])]):=by
 refine Qox.walk (b:=617) 13 rfl rfl fun C e=>?_
 refine tg_ e [3] ?_
 refine AK.done (an_ rfl (ex_ _ (an_ rfl ?_)))
 obtain⟨d,h⟩:=Qao h
 refine Qa e [4,.v (.bd []) [] (.sl 1 (([c]:List Int).map Qe)),.app ((a++([c]:List Int)).map Qe) (a++([c]:List Int)).length,1,.O 618 (.var [.own 615 (a++([c]:List Int)).length]),2,.K [] [615,617,618]] rfl (a3_ rfl ⟨Qf,Qbk d Qf,Qap,QbG Qf⟩ rfl) ?_
 cases h
 refine AK.done ?_
 exact ex_ _ (an_ rfl (gives r3_))
theorem Qk5 (lpl lpf:Nat)(c:(List Int))(i:QBg)(hlen:c.length+i.length<=4294967296):Qc prog 159 [.clo (.yield lpl) [] [],.L 619] [(617,.lp lpl (Qf3 lpf) (Qsm (.L 618)) 0),(618,.var [.own 615 c.length]),(615,.arr 1 (c.map Qe)),(619,.var [.map 620]),(620,.map (QQ V.I V.I i))] (fun v hs=>∃r:List Int,r.Perm (c++i.map Prod.fst)/\Gives (.tup []) [(615,.arr 1 (r.map Qe)),(617,.lp lpl (Qf3 lpf) (Qsm (.L 618)) 0),(618,.var [.own 615 r.length]),(619,.var [.map 620]),(620,.map (QQ V.I V.I i))] v hs):=by
 refine wk_ 14 func159 fun C a=>?_
 refine tg_ a [3] ?_
 refine AK.openMap (b:=620) QmB rfl fun k l L4 p s=>?_
 refine Qa a [.x (fun σ=>(σ.set 5 (.itr k l #[] none)).put 5 (.L 5)),3,.K [0,5] [5,615,617,618,619,620]] rfl (a1_ (Stp.range (b:=620) rfl rfl (QS a.n rfl) rfl rfl Qis rfl)) ?_
 have hL0:Qa2 L4 #[]=L4:=by simp [Qa2]
 have z:(c++(Qa2 L4 #[]).map (fun q=>q.2.1)).Perm (c++i.map Prod.fst):=by
  rw [hL0]
  refine List.Perm.append_left c ?_
  have:=s.map Prod.fst
  rwa [QpI]at this
 refine AK.range (body:=QCa) (fun (_:Nat) seen σ=>∃(cur:Option Nat) (st:List Int),(st++(Qa2 L4 seen).map (fun q=>q.2.1)).Perm (c++i.map Prod.fst)/\σ=⟨[(0,.clo (.yield lpl) [] []),lk_ 5],[(5,.itr k l seen cur),(615,.arr 1 (st.map Qe)),(617,.lp lpl (Qf3 lpf) (Qsm (.L 618)) 0),(618,.var [.own 615 st.length]),(619,.var [.map 620]),(620,.mapX k l (Qko V.I V.I L4) (QQ V.I V.I i))]⟩) (fun (q:Empty) _ _=>False) (fun _ e σ=>∃st:List Int,st.Perm (c++i.map Prod.fst)/\e=.exit 0/\σ=⟨[],[(615,.arr 1 (st.map Qe)),(617,.lp lpl (Qf3 lpf) (Qsm (.L 618)) 0),(618,.var [.own 615 st.length]),(619,.var [.map 620]),(620,.mapX k l (Qko V.I V.I L4) (QQ V.I V.I i))]⟩) p s (QCX i 0) (ex_ _ (ex_ c (an_ z rfl))) ?_ ?_
 ·rintro D seen σ ⟨cur,o,hpp,rfl⟩ hex
  refine tg_ a [2] ?_
  refine AK.nextT (b:=5) (m:=620) rfl rfl rfl (QS a.n rfl) rfl rfl rfl rfl ?_ ?_
  ·intro hleft
   refine tg_ a [7,.K [] [615,617,618,619,620]] ?_
   exact AK.done (Or.inl (an_ hleft (an_ (fun h=>(by cases h)) (ex_ o (an_ (by simpa [hleft] using hpp) (an_ rfl rfl))))))
  intro A y E u
  have hpk:=(QtD p u).map (fun q=>q.2.1)
  have w:((o++[y])++(Qa2 L4 (seen.push A)).map (fun q=>q.2.1)).Perm (c++i.map Prod.fst):=List.Perm.trans (by simpa using (List.Perm.append_left o hpk).symm) hpp
  have B:o.length+([y]:List Int).length<=4294967296:=by
   have:=w.length_eq
   simp at this ⊢
   omega
  have t:Qc6 o y=some (o++[y]):=by
   unfold Qc6
   rw [QI B];rfl
  obtain⟨j,hxe⟩:∃x,x=o++[y]:=⟨_,rfl⟩
  rw [<-hxe]at t w
  refine Qa a [10,.x (fun σ=>σ.put 8 (.tup [.I y,.I E])),8,.x (fun σ=>(σ.after [615] [(615,.arr 1 (j.map Qe)),(617,.lp lpl (Qf3 lpf) (Qsm (.L 618)) 0),(618,.var [.own 615 j.length])]).put 12 (.b true)),6,.K [0,5] [5,615,617,618,619,620]] rfl (a2_ (Stp.entryT (b:=5) (m:=620) (e:=V.I) (f:=V.I) rfl rfl (QS a.n rfl) rfl u rfl rfl) (Stp.yieldV (b:=617) (M:=[(617,617),(618,618),(615,615)]) (N:=[(615,615),(617,617),(618,618)]) (dead:=[615]) (ms:=[.d,.d,.d,.d,.d,.d,.d,.d,.d,.d,.d,.d,.d]) (outs:=[(615,.arr 1 (j.map Qe)),(617,.lp lpl (Qf3 lpf) (Qsm (.L 618)) 0),(618,.var [.own 615 j.length])]) (r:=.b true) rfl rfl rfl rfl rfl rfl rfl (QS a.n rfl) a.g rfl rfl (Qjm _ _ _ _ t))) ?_
  exact AK.done (Or.inr (ex_ _ (an_ u (Or.inl (ex_ (D+1) (an_ rfl (an_ rfl (ex_ _ (ex_ j (an_ w rfl))))))))))
 rintro e σ ⟨o,hpp,rfl,rfl⟩
 refine tg_ a [1] ?_
 refine AK.closeMap (b:=620) rfl ?_
 refine tg_ a [.K [] [615,617,618,619,620]] ?_
 refine AK.done ?_
 exact ex_ [] (an_ tt_ (ex_ o (an_ hpp (gives r5_))))
theorem QnI (a:QBg)(hlen:a.length<=4294967296):Qc prog 201 [.lit (.slice none 0 0),.clo (.func 159) [] [.L 617]] [(617,.var [.map 618]),(618,.map (QQ V.I V.I a))] (fun v hs=>∃r:List Int,r.Perm (a.map Prod.fst)/\Gives (.own 600 r.length) [(600,.arr 1 (r.map Qe)),(617,.var [.map 618]),(618,.map (QQ V.I V.I a))] v hs):=by
 refine Qc.walkR 13 func201 rfl ntmps201 rfl fun C c hR=>?_
 refine tg_ c [13,.K [2,4,6] [2,617,618]] ?_
 refine Qa c [.adoptO 2 0 607 1,.O 607 (.arr 1 (([]:List Int).map Qe)),.O 2 (.var [.own 607 ([]:List Int).length])] rfl (a2_ rfl rfl) ?_
 refine AK.rangeFE (ι:=List Int) (Φ:=fun x=>x.Perm (a.map Prod.fst)) 614 [2] [(617,614),(618,2),(615,607),(619,617),(620,618)] [(607,615),(614,617),(2,618),(617,619),(618,620)] [607] [.d,.d] Qf3 c hR (fun _=>rfl) rfl rfl rfl rfl fun lpl lpf=>?_
 refine ex_ (fun b:List Int=>[(615,.arr 1 (b.map Qe)),(617,.lp lpl (Qf3 lpf) (Qsm (.L 618)) 0),(618,.var [.own 615 b.length]),(619,.var [.map 620]),(620,.map (QQ V.I V.I a))]) (ex_ (fun _=>.tup []) (ex_ (fun b=>_) (ex_ _ (ex_ _ (an_ rfl (an_ rfl (an_ (Qk5 _ _ ([]:List Int) a (by simpa using hlen)) fun b=>ex_ _ (ex_ (Qsm (.L 2)) (ex_ 0 (an_ rfl (an_ rfl (an_ (bne_iff_ne.1 (show(0 != 1)=true from rfl)) fun hpp=>?_))))))))))))
 refine QE2 rfl ?_
 refine tg_ c [9,.K [4] [607,617,618],.ren 607 600,.K [4] [600,617,618]] ?_
 exact AK.done (ex_ [_] (an_ (an_ rfl tt_) (ex_ b (an_ hpp (gives r3_)))))
theorem Qrf (a:QBg)(hlen:a.length<=4294967296):Qc prog 158 [.clo (.func 159) [] [.L 617]] [(617,.var [.map 618]),(618,.map (QQ V.I V.I a))] (fun v hs=>∃r:List Int,r.Perm (a.map Prod.fst)/\Gives (.own 600 r.length) [(600,.arr 1 (r.map Qe)),(617,.var [.map 618]),(618,.map (QQ V.I V.I a))] v hs):=by
 refine wk_ 5 func158 fun C c=>?_
 refine tg_ c [8] ?_
 refine AK.callE (ι:=List Int) (Φ:=fun x=>x.Perm (a.map Prod.fst)) [(617,617),(618,618)] [(4,600),(617,617),(618,618)] [] [.d,.d] (fun b=>[(600,.arr 1 (b.map Qe)),(617,.var [.map 618]),(618,.map (QQ V.I V.I a))]) (fun b=>(.own 600 b.length)) (fun b=>_) rfl c (Qbx.fn rfl rfl rfl) rfl (QS c.n rfl) rfl rfl (QnI a hlen) (fun b=>ex_ _ rfl) fun b hpp=>?_
 refine tg_ c [4,.K [2] [4,617,618],.ren 4 600,.K [2] [600,617,618]] ?_
 exact AK.done (ex_ [_] (an_ (an_ rfl tt_) (ex_ b (an_ hpp (gives r3_)))))
def QcL (l:List Int):Option (List Int):=(chk (decide (l.length<4611686018427387904))).bind fun _=>some (QeD l)
theorem Qkx (l){r}(h:QcL l=some r):Qc prog 143 [.own 617 l.length] [(617,.arr 1 (l.map Qe))] (Gives (.tup []) [(617,.arr 1 (r.map Qe))]):=by
 obtain⟨_,a,h⟩:=Qb h
 cases h
 exact QBk QC1 l (Qak (QBK a))
def Qjn (a:QBg):Option (List Int):=
 (chk (decide (a.length<=4294967296))).bind fun _=>
 some (QeD (a.map Prod.fst))
theorem Qso (a){r}(h:Qjn a=some r):Qc prog 91 [.clo (.func 159) [] [.L 617]] [(617,.var [.map 618]),(618,.map (QQ V.I V.I a))] (Gives (.own 600 r.length) [(600,.arr 1 (r.map Qe)),(617,.var [.map 618]),(618,.map (QQ V.I V.I a))]):=by
 refine wk_ 9 func91 fun C e=>?_
 obtain⟨_,hlen,h⟩:=Qb h
 replace hlen:=Qak (QBK hlen)
 cases h
 refine tg_ e [8] ?_
 refine AK.callE (ι:=List Int) (Φ:=fun x=>x.Perm (a.map Prod.fst)) [(617,617),(618,618)] [(5,600),(617,617),(618,618)] [] [.d] (fun b=>[(600,.arr 1 (b.map Qe)),(617,.var [.map 618]),(618,.map (QQ V.I V.I a))]) (fun b=>(.own 600 b.length)) (fun b=>_) rfl e (Qbx.fn rfl rfl rfl) rfl (QS e.n rfl) rfl rfl (Qrf a hlen) (fun b=>ex_ _ rfl) fun b hpp=>?_
 have f:QcL b=some (QeD (a.map Prod.fst)):=by
  unfold QcL
  rw [QI (by have:=hpp.length_eq;simp at this;omega),QCb hpp];rfl
 have c:(QeD (a.map Prod.fst)).length=b.length:=by rw [Qik,hpp.length_eq]
 refine Qa e [6,.cm (.fn) [(617,5)] [(5,617)] [] [.d] [(617,.arr 1 (((QeD (a.map Prod.fst))).map Qe))] (.tup []),.S 3 (.own 5 (QeD (a.map Prod.fst)).length),.S 5 (.own 5 (QeD (a.map Prod.fst)).length),.S 6 (.own 5 (QeD (a.map Prod.fst)).length),9,.K [2] [5,617,618],.ren 5 600,.K [2] [600,617,618]] rfl (a4_ (Qkx _ f) (by simp [c]) (by simp [c]) (by simp [c])) ?_
 exact d1_ r3_
def QeM (b:Int)(a:QBg):Option ((Int×QBg)⊕QBg):=
 some (.inl ((w64 (b+1)),a))
def Qcx (e:(List Int))(d:QBg)(b:Int)(c:QBg):Option ((Int×QBg)⊕QBg):=
 bif (decide (b<(e.length:Int)))then
 (idx e b).bind fun a=>
 bif (decide (0<((QX d a).getD 0)))then
 (chk (decide (c.length+([(a,((QX d a).getD 0))]:List (Int×Int)).length<=4294967296))).bind fun _=>
 QeM b (c++([(a,((QX d a).getD 0))]:List (Int×Int)))
 else
 QeM b c
 else
 some (.inr c)
def QnK (a:QBg):Option QBg:=
 some a
def QeQ (a:QBg):Option QBg:=
 (Qee a).bind fun c=>
 (Qjn a).bind fun b=>
 (Qw (fun st=>Qcx b a st.1 st.2) (0,([]:List (Int×Int)))).bind (fun q=>QnK q)
theorem Qjo (b){r}(h:QeQ b=some r):Qc prog 48 [.map 617] [(617,.map (QQ V.I V.I b))] (Gives (.own 600 r.length) [(600,.arr 2 (r.map Qo)),(617,.map (QQ V.I V.I b))]):=by
 refine wk_ 28 func48 fun C c=>?_
 obtain⟨E,w,h⟩:=Qb h
 obtain⟨j,x,h⟩:=Qb h
 refine Qa c [14,.cm (.fn) [(617,617)] [(7,1),(617,617)] [] [.d] [(1,.var [.map 617]),(617,.map (QQ V.I V.I b))] (.clo (.func 159) [] [.L 1]),.cm (.fn) [(617,7),(618,617)] [(8,600),(7,617),(617,618)] [] [.d] [(600,.arr 1 (j.map Qe)),(617,.var [.map 618]),(618,.map (QQ V.I V.I b))] (.own 600 j.length),5,.adopt 3 18 2,.O 18 (.arr 2 (([]:List (Int×Int)).map Qo)),.S 3 (.own 18 ([]:List (Int×Int)).length),.K [0,3,8,9,10] [8,18,617]] rfl (a4_ (QlT _ w) (Qso _ x) rfl (congrArg (fun n=>V.own 18 n) (by simp))) ?_
 obtain⟨y,s,h⟩:=Qb h
 refine AK.loop (body:=(fun st=>Qcx j b st.1 st.2)) (fun st σ=>σ=⟨[(0,.map 617),(3,.own 18 st.2.length),(8,.own 8 j.length),(9,.I (j.length:Int)),(10,.I st.1)],[(8,.arr 1 (j.map Qe)),(18,.arr 2 (st.2.map Qo)),(617,.map (QQ V.I V.I b))]⟩) (fun q e σ=>e=.exit 0/\σ=⟨[(3,.own 18 q.length)],[(18,.arr 2 (q.map Qo)),(617,.map (QQ V.I V.I b))]⟩) s rfl ?_ ?_
 ·rintro ⟨B,D⟩ o σ rfl h
  refine tg_ c [6] ?_
  refine bq_ c h [.T,2] rfl (fun g h=>?_) [.F,2,.K [3] [18,617]] rfl fun g h=>?_
  ·refine AK.meet (fun σ=>∃m:QBg,σ=⟨[(0,.map 617),(3,.own 18 m.length),(8,.own 8 j.length),(9,.I (j.length:Int)),(10,.I B)],[(8,.arr 1 (j.map Qe)),(18,.arr 2 (m.map Qo)),(617,.map (QQ V.I V.I b))]⟩/\QeM B m=some o) ?_ ?_
   ·obtain⟨a,p,h⟩:=Qb h
    refine Qa c [4,.o (.row (Qe a)),7,.o (.any (.I ((QX b a).getD 0)) none),3] rfl (a3_ (QbW p rfl) (QaN (Qby p).2) (fun σ t A _=>Stp.lookup (e:=V.I) (f:=V.I) (l:=b) (k:=a) (z:=0) rfl rfl (QS c.n rfl) (t _ _ rfl) (A _ _ rfl) (t _ _ rfl) Qis QmB Qw4 rfl)) ?_
    rcases Qp h with⟨i,h⟩|⟨i,h⟩
    ·obtain⟨u,h⟩:=Qao h
     refine Qa c [.T,5,.o (.any (.I ((QX b a).getD 0)) none),.A (Qo (a,((QX b a).getD 0))),.v (.bd []) [] (.sl 2 (([(a,((QX b a).getD 0))]:List (Int×Int)).map Qo)),.app ((D++([(a,((QX b a).getD 0))]:List (Int×Int))).map Qo) (D++([(a,((QX b a).getD 0))]:List (Int×Int))).length,3,.K [0,3,8,9,10] [8,18,617]] rfl (a5_ i (fun σ t A _=>Stp.lookup (e:=V.I) (f:=V.I) (l:=b) (k:=a) (z:=0) rfl rfl (QS c.n rfl) (t _ _ rfl) (A _ _ rfl) (t _ _ rfl) Qis QmB Qw4 rfl) rfl rfl ⟨Qf,Qbk u Qf,Qap,QbG Qf⟩) ?_
     exact AK.met (ex_ _ (an_ rfl h))
    refine Qa c [.F,2,.K [0,3,8,9,10] [8,18,617]] rfl (a1_ i) ?_
    exact AK.met (ex_ _ (an_ rfl h))
   rintro σ ⟨m,rfl,h⟩
   refine tg_ c [4,.K [0,3,8,9,10] [8,18,617]] ?_
   cases h
   exact QR rfl rfl
  cases h
  exact QT rfl (an_ rfl rfl)
 replace h:QnK y=some r:=h
 rintro e σ ⟨rfl,rfl⟩
 refine tg_ c [9,.K [2] [18,617],.ren 18 600] ?_
 cases h
 exact d1_ r2_
def Qok (b:Int)(a:QBg):Option ((Int×QBg)⊕QBg):=
 some (.inl ((w64 (b+1)),a))
def QfN (d:(List Int))(b:Int)(c:QBg):Option ((Int×QBg)⊕QBg):=
 bif (decide (b<(d.length:Int)))then
 (idx d b).bind fun a=>
 bif (decide (0<=a))then
 Qok b (QcJ ltI c a (min2 (w64 (((QX c a).getD 0)+1)) 1048576))
 else
 Qok b c
 else
 some (.inr c)
def Qol (b:QBg):Option QBg:=
 (QeQ b).bind fun a=>
 some a
def QtV (a:(List Int)):Option QBg:=
 (Qw (fun st=>QfN a st.1 st.2) (0,([]:QBg))).bind (fun q=>Qol q)
theorem QBn (g){r}(h:QtV g=some r):Qc prog 97 [.sl 1 (g.map Qe)] [] (Gives (.own 600 r.length) [(600,.arr 2 (r.map Qo))]):=by
 refine wk_ 25 func97 fun C c=>?_
 refine Qa c [8,.O 6 (.map (QQ V.I V.I ([]:QBg))),7,.o (.ln g.length),4,.K [3,7,8,9] [6]] rfl (a2_ rfl Qf) ?_
 obtain⟨w,p,h⟩:=Qb h
 refine AK.loop (body:=(fun st=>QfN g st.1 st.2)) (fun st σ=>σ=⟨[(3,.map 6),(7,.sl 1 (g.map Qe)),(8,.I (g.length:Int)),(9,.I st.1)],[(6,.map (QQ V.I V.I st.2))]⟩) (fun q e σ=>e=.exit 0/\σ=⟨[(3,.map 6)],[(6,.map (QQ V.I V.I q))]⟩) p rfl ?_ ?_
 ·rintro ⟨y,m⟩ o σ rfl h
  refine tg_ c [6] ?_
  refine bq_ c h [.T,2] rfl (fun i h=>?_) [.F,2,.K [3] [6]] rfl fun i h=>?_
  ·refine AK.meet (fun σ=>∃j:QBg,σ=⟨[(3,.map 6),(7,.sl 1 (g.map Qe)),(8,.I (g.length:Int)),(9,.I y)],[(6,.map (QQ V.I V.I j))]⟩/\Qok y j=some o) ?_ ?_
   ·obtain⟨a,s,h⟩:=Qb h
    refine Qa c [3,.o (.row (Qe a)),10] rfl (a1_ (QE s)) ?_
    refine bg_ h (fun b h=>Qa c [.T,5,.o (.any (.I ((QX m a).getD 0)) none),2,.x (fun σ=>σ.set 6 (.map (QQ V.I V.I (QcJ ltI m a (min2 (w64 (((QX m a).getD 0)+1)) 1048576))))),2,.K [3,7,8,9] [6]] rfl (a3_ b (fun σ A B _=>Stp.lookup (e:=V.I) (f:=V.I) (l:=m) (k:=a) (z:=0) rfl rfl (QS c.n rfl) (A _ _ rfl) (B _ _ rfl) (A _ _ rfl) Qis QmB Qw4 rfl) (Stp.mapUpdate (e:=V.I) (f:=V.I) (l:=m) (k:=a) (v:=(min2 (w64 (((QX m a).getD 0)+1)) 1048576)) ltI rfl rfl rfl rfl rfl rfl Qis QmB rfl)) ?_) fun b h=>Qa c [.F,2,.K [3,7,8,9] [6]] rfl (a1_ b) ?_
    ·exact AK.met (ex_ _ (an_ rfl h))
    exact AK.met (ex_ _ (an_ rfl h))
   rintro σ ⟨j,rfl,h⟩
   refine tg_ c [4,.K [3,7,8,9] [6]] ?_
   cases h
   exact QR rfl rfl
  cases h
  exact QT rfl (an_ rfl rfl)
 replace h:Qol w=some r:=h
 rintro e σ ⟨rfl,rfl⟩
 obtain⟨t,u,h⟩:=Qb h
 refine Qa c [5,.cm (.fn) [(617,6)] [(24,600),(6,617)] [] [.d] [(600,.arr 2 (t.map Qo)),(617,.map (QQ V.I V.I w))] (.own 600 t.length),4,.K [2] [24],.ren 24 600] rfl (a1_ (Qjo _ u)) ?_
 cases h
 exact d1_ r1_
def Qc7 (d:QBg)(a:Int)(c:Int):Option ((Int×Int)⊕(Unit⊕Unit)):=
 bif (decide (c<(d.length:Int)))then
 (idx d c).bind fun b=>
 bif ((decide (b.1<=a))||((decide (b.2<1))||(decide (1048576<b.2))))then
 some (.inr (.inl ()))
 else
 some (.inl (b.1,(w64 (c+1))))
 else
 some (.inr (.inr ()))
def Qk6 : Option Bool:=
 some false
def Qk7 : Option Bool:=
 some true
def Qd8 (a:QBg):Option Bool:=
 (Qw (fun st=>Qc7 a st.1 st.2) ((-1),0)).bind (Sum.elim (fun q=>Qk6) (fun q=>Qk7))
theorem QhY (j){r}(h:Qd8 j=some r):Qc prog 54 [.sl 2 (j.map Qo)] [] (Gives (.b r) []):=by
 refine wk_ 29 func54 fun C g=>?_
 refine Qa g [14,.o (.ln j.length),4,.K [3,6,7,8] []] rfl (a1_ Qf) ?_
 obtain⟨m,l,h⟩:=Qb h
 refine AK.loop (body:=(fun st=>Qc7 j st.1 st.2)) (fun st σ=>σ=⟨[(3,.I st.1),(6,.sl 2 (j.map Qo)),(7,.I (j.length:Int)),(8,.I st.2)],[]⟩) (Sum.elim (fun q e σ=>e=.ret/\σ=⟨[(2,.b false)],[]⟩) (fun q e σ=>e=.exit 0/\σ=⟨[],[]⟩)) l rfl ?_ ?_
 ·rintro ⟨a,s⟩ o σ rfl h
  refine tg_ g [6] ?_
  rcases Qp h with⟨k,h⟩|⟨k,h⟩
  ·obtain⟨d,p,h⟩:=Qb h
   refine Qa g [.T,6,.o (.row (Qo d)),.A (Qo d),2,.O 5 (.var (Qo d)),4] rfl (a4_ k (QE p) rfl rfl) ?_
   refine AK.meetX (fun σ=>σ=⟨[lk_ 5,(6,.sl 2 (j.map Qo)),(7,.I (j.length:Int)),(8,.I s),(25,.b ((decide (d.1<=a))||((decide (d.2<1))||(decide (1048576<d.2)))))],[(5,.var (Qo d))]⟩) ?_ ?_
   ·refine tg_ g [6] ?_
    rcases QD (decide (d.1<=a))with c | c
    ·refine Qa g [.S 16 (.b true),10,.S 25 (.b ((decide (d.1<=a))||((decide (d.2<1))||(decide (1048576<d.2))))),.K [5,6,7,8,25] [5]] rfl ⟨(tc_ c),(congrArg V.b (orT c rfl))⟩ ?_
     exact mt_
    refine Qa g [.S 16 (.b false),5] rfl (tc_ c) ?_
    rcases QD (decide (d.2<1))with f | f
    ·refine Qa g [.S 21 (.b true),5,.S 25 (.b ((decide (d.1<=a))||((decide (d.2<1))||(decide (1048576<d.2))))),.K [5,6,7,8,25] [5]] rfl ⟨(tc_ f),(congrArg V.b (orF c (orT f rfl)))⟩ ?_
     exact mt_
    refine Qa g [.S 21 (.b false),5,.S 25 (.b ((decide (d.1<=a))||((decide (d.2<1))||(decide (1048576<d.2))))),.K [5,6,7,8,25] [5]] rfl ⟨(tc_ f),(congrArg V.b (orF c (orF f rfl)))⟩ ?_
    exact mt_
   rintro σ rfl
   refine tg_ g [1] ?_
   refine bq_ g h [.T,9,.K [2] []] rfl (fun i h=>?_) [.F,13,.K [3,6,7,8] []] rfl fun i h=>?_
   ·cases h
    exact Q6 rfl (an_ rfl rfl)
   cases h
   exact QR rfl rfl
  refine Qa g [.F,2,.K [] []] rfl (a1_ k) ?_
  cases h
  exact QT rfl (an_ rfl rfl)
 rcases m with(_ | _)
 ·replace h:Qk6=some r:=h
  rintro e σ ⟨rfl,rfl⟩
  refine tg_ g [2] ?_
  cases h
  exact d1_ tt_
 replace h:Qk7=some r:=h
 rintro e σ ⟨rfl,rfl⟩
 refine tg_ g [8] ?_
 cases h
 exact d1_ tt_
def Qhj (c:QBg)(b:Int)(d:QBg):Option ((Int×QBg)⊕QBg):=
 bif (decide (b<(c.length:Int)))then
 (idx c b).bind fun a=>
 some (.inl ((w64 (b+1)),(QcJ ltI d a.1 a.2)))
 else
 some (.inr d)
def QwT (a:QBg):Option (Unit⊕QBg):=
 some (.inr a)
def QnY (a:QBg):Option (Unit⊕QBg):=
 (Qd8 a).bind fun b=>
 bif (!b)then
 some (.inl ())
 else
 (Qw (fun st=>Qhj a st.1 st.2) (0,([]:QBg))).bind (fun q=>QwT q)
theorem Qje (m){r}(h:QnY m=some r):Qc prog 90 [.sl 2 (m.map Qo)] [] ((Sum.elim (fun q=>(Gives (.tup [.lit (.map none),.b false]) [])) (fun q=>(Gives (.tup [.map 601,.b true]) [(601,.map (QQ V.I V.I q))]))) r):=by
 refine wk_ 24 func90 fun C i=>?_
 obtain⟨y,t,h⟩:=Qb h
 refine Qa i [10,.o (.C1 (.b y)),3] rfl (a1_ (QhY _ t)) ?_
 refine bg_ h (fun j h=>Qa i [.T,8,.K [2,3] []] rfl (a1_ j) ?_) fun j h=>Qa i [.F,5,.O 10 (.map (QQ V.I V.I ([]:QBg))),7,.o (.ln m.length),4,.K [4,11,12,13] [10]] rfl (a3_ j rfl Qf) ?_
 ·cases h
  exact AK.done (ex_ [_,_] (an_ (an_ rfl (an_ rfl tt_)) (gives tt_)))
 obtain⟨u,p,h⟩:=Qb h
 refine AK.loop (body:=(fun st=>Qhj m st.1 st.2)) (fun st σ=>σ=⟨[(4,.map 10),(11,.sl 2 (m.map Qo)),(12,.I (m.length:Int)),(13,.I st.1)],[(10,.map (QQ V.I V.I st.2))]⟩) (fun q e σ=>e=.exit 0/\σ=⟨[(4,.map 10)],[(10,.map (QQ V.I V.I q))]⟩) p rfl ?_ ?_
 ·rintro ⟨z,w⟩ o σ rfl h
  refine tg_ i [6] ?_
  rcases Qp h with⟨g,h⟩|⟨g,h⟩
  ·obtain⟨a,s,h⟩:=Qb h
   refine Qa i [.T,6,.o (.row (Qo a)),.A (Qo a),2,.O 6 (.var (Qo a)),8,.x (fun σ=>σ.set 10 (.map (QQ V.I V.I (QcJ ltI w a.1 a.2)))),7,.K [4,11,12,13] [10]] rfl (a5_ g (QE s) rfl rfl (Stp.mapUpdate (e:=V.I) (f:=V.I) (l:=w) (k:=a.1) (v:=a.2) ltI rfl rfl rfl rfl rfl rfl Qis QmB rfl)) ?_
   cases h
   exact QR rfl rfl
  refine Qa i [.F,2,.K [4] [10]] rfl (a1_ g) ?_
  cases h
  exact QT rfl (an_ rfl rfl)
 replace h:QwT u=some r:=h
 rintro e σ ⟨rfl,rfl⟩
 refine tg_ i [10,.K [2,3] [10],.ren 10 601,.K [2,3] [601]] ?_
 cases h
 exact AK.done (ex_ [_,_] (an_ (an_ rfl (an_ rfl tt_)) (gives r1_)))
def Qui (a:Unit):Option (Unit⊕(QBg⊕(QBg⊕(QBg×QBg)))):=
 some (.inl ())
def Quj (a:QBg):Option (Unit⊕(QBg⊕(QBg⊕(QBg×QBg)))):=
 some (.inr (.inl a))
def QoP (a:QBg)(b:Unit):Option (Unit⊕(QBg⊕(QBg⊕(QBg×QBg)))):=
 (QnY a).bind (Sum.elim (fun q=>Qui q) (fun q=>Quj q))
def Quk (a:QBg)(b:Unit):Option (Unit⊕(QBg⊕(QBg⊕(QBg×QBg)))):=
 some (.inr (.inr (.inl a)))
def Qul (b:QBg)(a:QBg):Option (Unit⊕(QBg⊕(QBg⊕(QBg×QBg)))):=
 some (.inr (.inr (.inr (b,a))))
def QoQ (b:QBg)(a:QBg):Option (Unit⊕(QBg⊕(QBg⊕(QBg×QBg)))):=
 (QnY b).bind (Sum.elim (fun q=>Quk a q) (fun q=>Qul a q))
def Qk8 (b:QBg)(a:QBg):Option (Unit⊕(QBg⊕(QBg⊕(QBg×QBg)))):=
 (QnY b).bind (Sum.elim (fun q=>QoP a q) (fun q=>QoQ a q))
theorem Qb0 (s j){r}(h:Qk8 s j=some r):Qc prog 47 [.sl 2 (s.map Qo),.sl 2 (j.map Qo)] [] ((Sum.elim (fun q=>(Gives (.tup [.lit (.map none),.lit (.map none),.b false]) [])) (Sum.elim (fun q=>(Gives (.tup [.lit (.map none),.map 603,.b false]) [(603,.map (QQ V.I V.I q))])) (Sum.elim (fun q=>(Gives (.tup [.map 602,.lit (.map none),.b false]) [(602,.map (QQ V.I V.I q))])) (fun q=>(Gives (.tup [.map 602,.map 603,.b true]) [(602,.map (QQ V.I V.I q.1)),(603,.map (QQ V.I V.I q.2))]))))) r):=by
 refine wk_ 25 func47 fun C e=>?_
 obtain⟨t,f,h⟩:=Qb h
 refine tg_ e [10] ?_
 rcases t with(u | k)
 ·replace h:QoP j u=some r:=h
  obtain⟨l,a,h⟩:=Qb h
  refine Qa e [.cm (.fn) [] [] [] [.d] [] (.tup [.lit (.map none),.b false]),10] rfl (a1_ (Qje _ f)) ?_
  rcases l with(m | g)
  ·replace h:Qui m=some r:=h
   refine Qa e [.cm (.fn) [] [] [] [.d] [] (.tup [.lit (.map none),.b false]),21,.K [4,5,6] []] rfl (a1_ (Qje _ a)) ?_
   cases h
   exact AK.done (ex_ [_,_,_] (an_ (an_ rfl (an_ rfl (an_ rfl tt_))) (gives tt_)))
  replace h:Quj g=some r:=h
  refine Qa e [.cm (.fn) [] [(16,601)] [] [.d] [(601,.map (QQ V.I V.I g))] (.tup [.map 601,.b true]),21,.K [4,5,6] [16],.ren 16 603,.K [4,5,6] [603]] rfl (a1_ (Qje _ a)) ?_
  cases h
  exact AK.done (ex_ [_,_,_] (an_ (an_ rfl (an_ rfl (an_ rfl tt_))) (gives r1_)))
 replace h:QoQ j k=some r:=h
 obtain⟨o,c,h⟩:=Qb h
 refine Qa e [.cm (.fn) [] [(11,601)] [] [.d] [(601,.map (QQ V.I V.I k))] (.tup [.map 601,.b true]),10] rfl (a1_ (Qje _ f)) ?_
 rcases o with(p | i)
 ·replace h:Quk k p=some r:=h
  refine Qa e [.cm (.fn) [] [] [] [.d] [] (.tup [.lit (.map none),.b false]),21,.K [4,5,6] [11],.ren 11 602,.K [4,5,6] [602]] rfl (a1_ (Qje _ c)) ?_
  cases h
  exact AK.done (ex_ [_,_,_] (an_ (an_ rfl (an_ rfl (an_ rfl tt_))) (gives r1_)))
 replace h:Qul k i=some r:=h
 refine Qa e [.cm (.fn) [] [(16,601)] [] [.d] [(601,.map (QQ V.I V.I i))] (.tup [.map 601,.b true]),21,.K [4,5,6] [11,16],.ren 11 602,.K [4,5,6] [16,602],.ren 16 603,.K [4,5,6] [602,603]] rfl (a1_ (Qje _ c)) ?_
 cases h
 exact AK.done (ex_ [_,_,_] (an_ (an_ rfl (an_ rfl (an_ rfl tt_))) (gives r2_)))
def Qvi (a:Unit):Option (QBg×Int):=
 some (([]:List (Int×Int)),1)
def Qvj (a:QBg):Option (QBg×Int):=
 some (([]:List (Int×Int)),1)
def Qvk (a:QBg):Option (QBg×Int):=
 some (([]:List (Int×Int)),1)
def QhZ (b:QBg)(a:Int)(c:Int):Option (QBg⊕Unit):=
 bif (decide (1048576<((QX (QcJ ltI b a (w64 (((QX b a).getD 0)+c))) a).getD 0)))then
 some (.inr ())
 else
 some (.inl (QcJ ltI b a (w64 (((QX b a).getD 0)+c))))
def Qqh (a:QBg):Option (QBg×Int):=
 (QeQ a).bind fun b=>
 some (b,0)
def Qvl : Option (QBg×Int):=
 some (([]:List (Int×Int)),2)
def Qqi (a:(QBg×QBg)):Option (QBg×Int):=
 (QlQ (fun st p=>QhZ st p.1 p.2) a.1 a.2).bind (Sum.elim (fun q=>Qqh q) (fun q=>Qvl))
def Qe9 (a:QBg)(b:QBg):Option (QBg×Int):=
 (Qk8 a b).bind (Sum.elim (fun q=>Qvi q) (Sum.elim (fun q=>Qvj q) (Sum.elim (fun q=>Qvk q) (fun q=>Qqi q))))
theorem Qvm (O P){r}(h:Qe9 O P=some r):Qc prog 24 [.sl 2 (O.map Qo),.sl 2 (P.map Qo)] [] (Gives (.tup [.sl 2 (r.1.map Qo),.I r.2]) []):=by
 refine wk_ 38 func24 fun C g=>?_
 obtain⟨W,w,h⟩:=Qb h
 refine tg_ g [10] ?_
 rcases W with(X | (S | (E | y)))
 ·replace h:Qvi X=some r:=h
  refine Qa g [.cm (.fn) [] [] [] [.d,.d] [] (.tup [.lit (.map none),.lit (.map none),.b false]),25,.denil 4 [some 2]] rfl (a1_ (Qb0 _ _ w)) ?_
  cases h
  exact d2_ tt_
 ·replace h:Qvj S=some r:=h
  refine Qa g [.cm (.fn) [] [(14,603)] [] [.d,.d] [(603,.map (QQ V.I V.I S))] (.tup [.lit (.map none),.map 603,.b false]),25,.denil 4 [some 2]] rfl (a1_ (Qb0 _ _ w)) ?_
  cases h
  exact d2_ tt_
 ·replace h:Qvk E=some r:=h
  refine Qa g [.cm (.fn) [] [(14,602)] [] [.d,.d] [(602,.map (QQ V.I V.I E))] (.tup [.map 602,.lit (.map none),.b false]),25,.denil 4 [some 2]] rfl (a1_ (Qb0 _ _ w)) ?_
  cases h
  exact d2_ tt_
 replace h:Qqi y=some r:=h
 refine Qa g [.cm (.fn) [] [(14,602),(610,603)] [] [.d,.d] [(602,.map (QQ V.I V.I y.1)),(603,.map (QQ V.I V.I y.2))] (.tup [.map 602,.map 603,.b true]),23] rfl (a1_ (Qb0 _ _ w)) ?_
 refine AK.openMapK (b:=610) QmB rfl fun s t L12 A L B=>?_
 refine Qa g [.x (fun σ=>(σ.set 21 (.itr s t #[] none)).put 21 (.L 21)),3,.K [6,21] [14,21,610]] rfl (a1_ (Stp.range (b:=610) rfl rfl (QS g.n rfl) rfl rfl Qis rfl)) ?_
 obtain⟨M,G,h⟩:=Qb h
 refine AK.range (body:=(fun st p=>QhZ st p.1 p.2)) (fun st seen σ=>∃cur:Option Nat,σ=⟨[(6,.map 14),lk_ 21],[(14,.map (QQ V.I V.I st)),(21,.itr s t seen cur),(610,.mapX s t (Qko V.I V.I L12) (QQ V.I V.I y.2))]⟩) (fun q e σ=>e=.ret/\σ=⟨[(4,.lit (.slice none 0 0)),(5,.I 2)],[]⟩) (fun st e σ=>e=.exit 0/\σ=⟨[(6,.map 14)],[(14,.map (QQ V.I V.I st))]⟩) A B G (ex_ _ rfl) ?_ ?_
 ·rintro a seen σ ⟨cur,rfl⟩ hex
  refine tg_ g [2] ?_
  refine AK.nextT (b:=21) (m:=610) rfl rfl rfl (QS g.n rfl) rfl rfl rfl rfl ?_ ?_
  ·intro hleft
   refine tg_ g [7,.K [6] [14]] ?_
   exact AK.done (Or.inl (an_ hleft (an_ (fun h=>(by cases h)) (an_ rfl rfl))))
  intro U c j i
  obtain⟨o,h⟩:=hex _ i
  have ho:=h
  replace h:QhZ a c j=some o:=h
  refine Qa g [10,.x (fun σ=>σ.put 24 (.tup [.I c,.I j])),10,.o (.any (.I ((QX a c).getD 0)) none),2,.x (fun σ=>σ.set 14 (.map (QQ V.I V.I (QcJ ltI a c (w64 (((QX a c).getD 0)+j)))))),6,.o (.any (.I ((QX (QcJ ltI a c (w64 (((QX a c).getD 0)+j))) c).getD 0)) none),3] rfl (a4_ (Stp.entryT (b:=21) (m:=610) (e:=V.I) (f:=V.I) rfl rfl (QS g.n rfl) rfl i rfl rfl) (fun σ H N _=>Stp.lookup (e:=V.I) (f:=V.I) (l:=a) (k:=c) (z:=0) rfl rfl (QS g.n rfl) (H _ _ rfl) (N _ _ rfl) (H _ _ rfl) Qis QmB Qw4 rfl) (Stp.mapUpdate (e:=V.I) (f:=V.I) (l:=a) (k:=c) (v:=(w64 (((QX a c).getD 0)+j))) ltI rfl rfl rfl rfl rfl rfl Qis QmB rfl) (fun σ H N _=>Stp.lookup (e:=V.I) (f:=V.I) (l:=(QcJ ltI a c (w64 (((QX a c).getD 0)+j)))) (k:=c) (z:=0) rfl rfl (QS g.n rfl) (H _ _ rfl) (N _ _ rfl) (H _ _ rfl) Qis QmB Qw4 rfl)) ?_
  refine bq_ g h [.T,8,.K [4,5] []] rfl (fun u h=>?_) [.F,2,.K [6,21] [14,21,610]] rfl fun u h=>?_
  ·cases h
   exact AK.done (Or.inr (ex_ _ (an_ i (Or.inr (ex_ _ (an_ ho (an_ (fun h=>(by cases h)) (an_ rfl rfl))))))))
  cases h
  exact AK.done (Or.inr (ex_ _ (an_ i (Or.inl (ex_ _ (an_ ho (an_ rfl (ex_ _ rfl))))))))
 rcases M with(a | _)
 ·replace h:Qqh a=some r:=h
  rintro e σ ⟨rfl,rfl⟩
  obtain⟨D,J,h⟩:=Qb h
  refine Qa g [5,.cm (.fn) [(617,14)] [(37,600),(14,617)] [] [.d] [(600,.arr 2 (D.map Qo)),(617,.map (QQ V.I V.I a))] (.own 600 D.length),5,.frz 37 (D.map Qo) [4] []] rfl (a2_ (Qjo _ J) (a1_ (Qcd Qf))) ?_
  cases h
  exact d2_ tt_
 replace h:Qvl=some r:=h
 rintro e σ ⟨rfl,rfl⟩
 refine tg_ g [2,.denil 4 [some 2]] ?_
 cases h
 exact d2_ tt_
def Qcf (a:(List Int))(j:(List Qas))(h:(List Int))(k:Qq)(e:Int)(c:QMk):Option ((Int×QMk)⊕(Int⊕QMk)):=
 bif (decide (e<(a.length:Int)))then
 (idx a e).bind fun d=>
 bif ((decide (d<0))||(decide ((j.length:Int)<=d)))then
 some (.inr (.inl 11))
 else
 (idx j d).bind fun l=>
 (Qhi l.Expr h).bind fun f=>
 bif (f.2 != 0)then
 some (.inr (.inl f.2))
 else
 (idx j d).bind fun b=>
 bif ((decide (b.Place<0))||(decide ((k.Places.length:Int)<=b.Place)))then
 some (.inr (.inl 3))
 else
 (idx k.Places b.Place).bind fun m=>
 (Qdo k.Colours m.Colour f.1).bind fun i=>
 bif (!i.2)then
 some (.inr (.inl 8))
 else
 (idx c b.Place).bind fun n=>
 (QtV ([i.1]:List Int)).bind fun o=>
 (Qe9 n o).bind fun g=>
 (idx c b.Place).bind fun p=>
 bif (g.2 != 0)then
 some (.inr (.inl g.2))
 else
 some (.inl ((w64 (e+1)),(c.set b.Place.toNat g.1)))
 else
 some (.inr (.inr c))
def Qqj (a:Int):Option (QMk×Int):=
 some (([]:List QBg),a)
def Qqk (a:QMk):Option (QMk×Int):=
 some (a,0)
def Qar (b:Qq)(d:(List Qas))(a:(List Int))(c:(List Int)):Option (QMk×Int):=
 (chk (decide (0<=(b.Places.length:Int))&&decide ((b.Places.length:Int)<=(b.Places.length:Int))&&decide ((b.Places.length:Int)<=4294967296))).bind fun _=>
 (Qw (fun st=>Qcf a d c b st.1 st.2) (0,(List.replicate (b.Places.length:Int).toNat (([]:QBg):QBg)))).bind (Sum.elim (fun q=>Qqj q) (fun q=>Qqk q))
theorem Qf6 (t E g k){r}(h:Qar t E g k=some r):Qc prog 52 [.agg (Qd t),.sl 4 (E.map Q5),.sl 1 (g.map Qe),.sl 1 (k.map Qe)] [] (Gives (.tup [.sl 1 (r.1.map Qg),.I r.2]) []):=by
 refine wk_ 97 func52 fun C i=>?_
 obtain⟨a6,h⟩:=Qao h
 refine Qa i [11,.o (.ln t.Places.length),.o (.rows (List.replicate (t.Places.length:Int).toNat [.lit (.slice none 0 0)]))] rfl (a2_ Qf ⟨a6,rfl⟩) ?_
 refine AK.denilA (b:=21) [some 2] rfl (Qx3 (f:=Qg) (x:=([]:QBg)) rfl) ?_
 refine Qa i [.S 21 (.own 21 (List.replicate (t.Places.length:Int).toNat (([]:QBg):QBg)).length),7,.o (.ln g.length),4,.K [1,3,4,10,22,23,24] [4,21]] rfl (a2_ (by simp) Qf) ?_
 obtain⟨a7,O,h⟩:=Qb h
 refine AK.loop (body:=(fun st=>Qcf g E k t st.1 st.2)) (fun st σ=>σ=⟨[(1,.sl 4 (E.map Q5)),(3,.sl 1 (k.map Qe)),lk_ 4,(10,.own 21 st.2.length),(22,.sl 1 (g.map Qe)),(23,.I (g.length:Int)),(24,.I st.1)],[(4,.var (Qd t)),(21,.arr 1 (st.2.map Qg))]⟩) (Sum.elim (fun q e σ=>e=.ret/\σ=⟨[(8,.lit (.slice none 0 0)),(9,.I q)],[]⟩) (fun q e σ=>e=.exit 0/\σ=⟨[(10,.own 21 q.length)],[(21,.arr 1 (q.map Qg))]⟩)) O rfl ?_ ?_
 ·rintro ⟨P,u⟩ o σ rfl h
  refine tg_ i [6] ?_
  rcases Qp h with⟨w,h⟩|⟨w,h⟩
  ·obtain⟨l,U,h⟩:=Qb h
   refine Qa i [.T,6,.o (.row (Qe l)),6] rfl (a2_ w (QE U)) ?_
   refine AK.meetX (fun σ=>σ=⟨[(1,.sl 4 (E.map Q5)),(3,.sl 1 (k.map Qe)),lk_ 4,(10,.own 21 u.length),(12,.I l),(22,.sl 1 (g.map Qe)),(23,.I (g.length:Int)),(24,.I P),(35,.b ((decide (l<0))||(decide ((E.length:Int)<=l))))],[(4,.var (Qd t)),(21,.arr 1 (u.map Qg))]⟩) ?_ ?_
   ·refine tg_ i [4] ?_
    rcases QD (decide (l<0))with p | p
    ·refine Qa i [.S 30 (.b true),6,.S 35 (.b ((decide (l<0))||(decide ((E.length:Int)<=l)))),.K [1,3,4,10,12,22,23,24,35] [4,21]] rfl ⟨(tc_ p),(congrArg V.b (orT p rfl))⟩ ?_
     exact mt_
    refine Qa i [.S 30 (.b false),2,.o (.ln E.length),3,.S 35 (.b ((decide (l<0))||(decide ((E.length:Int)<=l)))),.K [1,3,4,10,12,22,23,24,35] [4,21]] rfl ⟨⟨(tc_ p),Qf⟩,(congrArg V.b (orF p rfl))⟩ ?_
    exact mt_
   rintro σ rfl
   refine tg_ i [1] ?_
   rcases Qp h with⟨y,h⟩|⟨y,h⟩
   ·refine Qa i [.T,10,.K [8,9] []] rfl (a1_ y) ?_
    cases h
    exact Q6 rfl (an_ rfl rfl)
   obtain⟨W,X,h⟩:=Qb h
   obtain⟨L,Y,h⟩:=Qb h
   refine Qa i [.F,6,.o (.row (Q5 W)),1,.A (Qn W.Expr),1,.o (.C2 (.tup [.I L.1,.I L.2])),14] rfl (a4_ y (QE X) rfl (QsE _ _ Y)) ?_
   rcases Qp h with⟨z,h⟩|⟨z,h⟩
   ·refine Qa i [.T,11,.K [8,9] []] rfl (a1_ z) ?_
    cases h
    exact Q6 rfl (an_ rfl rfl)
   obtain⟨j,Z,h⟩:=Qb h
   refine Qa i [.F,6,.o (.row (Q5 j)),7] rfl (a2_ z (QE Z)) ?_
   refine AK.meetX (fun σ=>σ=⟨[(1,.sl 4 (E.map Q5)),(3,.sl 1 (k.map Qe)),lk_ 4,(10,.own 21 u.length),(13,.I L.1),(15,.I j.Place),(22,.sl 1 (g.map Qe)),(23,.I (g.length:Int)),(24,.I P),(62,.b ((decide (j.Place<0))||(decide ((t.Places.length:Int)<=j.Place))))],[(4,.var (Qd t)),(21,.arr 1 (u.map Qg))]⟩) ?_ ?_
   ·refine tg_ i [4] ?_
    rcases QD (decide (j.Place<0))with s | s
    ·refine Qa i [.S 56 (.b true),7,.S 62 (.b ((decide (j.Place<0))||(decide ((t.Places.length:Int)<=j.Place)))),.K [1,3,4,10,13,15,22,23,24,62] [4,21]] rfl ⟨(tc_ s),(congrArg V.b (orT s rfl))⟩ ?_
     exact mt_
    refine Qa i [.S 56 (.b false),3,.o (.ln t.Places.length),3,.S 62 (.b ((decide (j.Place<0))||(decide ((t.Places.length:Int)<=j.Place)))),.K [1,3,4,10,13,15,22,23,24,62] [4,21]] rfl ⟨⟨(tc_ s),Qf⟩,(congrArg V.b (orF s rfl))⟩ ?_
    exact mt_
   rintro σ rfl
   refine tg_ i [1] ?_
   rcases Qp h with⟨A,h⟩|⟨A,h⟩
   ·refine Qa i [.T,10,.K [8,9] []] rfl (a1_ A) ?_
    cases h
    exact Q6 rfl (an_ rfl rfl)
   obtain⟨a8,a0,h⟩:=Qb h
   obtain⟨M,a1,h⟩:=Qb h
   refine Qa i [.F,3,.K [1,3,4,10,13,15,22,23,24] [4,21]] rfl (a1_ A) ?_
   refine AK.draw2 Qr i mixed [.N,.N,.N,.N,.N,.a (.row (QC a8)) none false,.N,.N,.N,.a (.C3 (.tup [.I M.1,.b M.2])) none false,.N,.N,.N,.N,.N] [] [] [1,3,4,10,15,16,17,22,23,24] [4,21] rfl rfl rfl ⟨⟨tt_,(QE a0)⟩,(Qvh _ _ _ a1)⟩ rfl (by kernel_rfl) rfl rfl rfl ?_
   refine tg_ i [8] ?_
   rcases Qp h with⟨B,h⟩|⟨B,h⟩
   ·refine Qa i [.T,10,.K [8,9] []] rfl (a1_ B) ?_
    cases h
    exact Q6 rfl (an_ rfl rfl)
   obtain⟨a9,H,h⟩:=Qb h
   obtain⟨a2,a3,h⟩:=Qb h
   obtain⟨G,a4,h⟩:=Qb h
   obtain⟨b0,J,h⟩:=Qb h
   refine Qa i [.F,3,.K [1,3,4,10,15,16,22,23,24] [4,21]] rfl (a1_ B) ?_
   refine AK.draw2 Qr i mixed [.N,.N,.N,.N,.N,.a (.row (Qg a9)) none false,.N,.a (.bd []) (some ([],.sl 1 (([M.1]:List Int).map Qe))) false,.a (.cd false [.d] 2 (a2.map Qo) a2.length) none false,.a (.C2 (.tup [.sl 2 (G.1.map Qo),.I G.2])) none false,.a .no none true true,.N,.a .no none true,.N,.m (.st (Qg b0) ((u.set j.Place.toNat G.1).map Qg)),.N] [1,3,4,10,15,16,22,23,24] [4] [1,3,4,10,14,22,23,24] [4,21] rfl rfl rfl ⟨⟨⟨⟨⟨⟨⟨tt_,(QbW H rfl)⟩,(QaN (Qby H).2)⟩,rfl⟩,⟨(QBn _ a3),Qf⟩⟩,(Qvm _ _ a4)⟩,(QbW J rfl)⟩,⟨(QaN (Qby J).2),QhQ rfl⟩⟩ rfl (by kernel_rfl) rfl rfl rfl ?_
   refine tg_ i [7] ?_
   refine bg_ h (fun D h=>Qa i [.T,10,.K [8,9] []] rfl (a1_ D) ?_) fun D h=>Qa i [.F,7,.S 10 (.own 21 (u.set j.Place.toNat G.1).length),.K [1,3,4,10,22,23,24] [4,21]] rfl (a2_ D (congrArg (fun n=>V.own 21 n) (by simp))) ?_
   ·cases h
    exact Q6 rfl (an_ rfl rfl)
   cases h
   exact QR rfl rfl
  refine Qa i [.F,2,.K [10] [21]] rfl (a1_ w) ?_
  cases h
  exact QT rfl (an_ rfl rfl)
 rcases a7 with(b1 | a5)
 ·replace h:Qqj b1=some r:=h
  rintro e σ ⟨rfl,rfl⟩
  refine tg_ i [2,.denil 8 [some 1]] ?_
  cases h
  exact d2_ tt_
 replace h:Qqk a5=some r:=h
 rintro e σ ⟨rfl,rfl⟩
 refine Qa i [10,.frz 21 (a5.map Qg) [8] []] rfl (a1_ (a1_ (Qcd Qf))) ?_
 cases h
 exact d2_ tt_
def Qdr (a:QBg)(b:Int)(c:Int):Option (Unit⊕Unit):=
 bif (decide (((QX a b).getD 0)<c))then
 some (.inr ())
 else
 some (.inl ())
def QlU : Option Bool:=
 some true
def QlV : Option Bool:=
 some false
def QeN (a:QBg)(b:QBg):Option Bool:=
 (QlQ (fun st p=>Qdr b p.1 p.2) () a).bind (Sum.elim (fun q=>QlU) (fun q=>QlV))
theorem QlW (s g){r}(h:QeN s g=some r):Qc prog 75 [.map 617,.map 618] [(617,.map (QQ V.I V.I s)),(618,.map (QQ V.I V.I g))] (Gives (.b r) [(617,.map (QQ V.I V.I s)),(618,.map (QQ V.I V.I g))]):=by
 refine wk_ 19 func75 fun C a=>?_
 refine tg_ a [9] ?_
 refine AK.openMap (b:=617) QmB rfl fun c d L5 t u=>?_
 refine Qa a [.x (fun σ=>(σ.set 8 (.itr c d #[] none)).put 8 (.L 8)),3,.K [1,8] [8,617,618]] rfl (a1_ (Stp.range (b:=617) rfl rfl (QS a.n rfl) rfl rfl Qis rfl)) ?_
 obtain⟨y,v,h⟩:=Qb h
 refine AK.range (body:=(fun st p=>Qdr g p.1 p.2)) (fun st seen σ=>∃cur:Option Nat,σ=⟨[(1,.map 618),lk_ 8],[(8,.itr c d seen cur),(617,.mapX c d (Qko V.I V.I L5) (QQ V.I V.I s)),(618,.map (QQ V.I V.I g))]⟩) (fun q e σ=>e=.ret/\σ=⟨[(4,.b false)],[(617,.mapX c d (Qko V.I V.I L5) (QQ V.I V.I s)),(618,.map (QQ V.I V.I g))]⟩) (fun st e σ=>e=.exit 0/\σ=⟨[],[(617,.mapX c d (Qko V.I V.I L5) (QQ V.I V.I s)),(618,.map (QQ V.I V.I g))]⟩) t u v (ex_ _ rfl) ?_ ?_
 ·rintro _ seen σ ⟨cur,rfl⟩ hex
  refine tg_ a [2] ?_
  refine AK.nextT (b:=8) (m:=617) rfl rfl rfl (QS a.n rfl) rfl rfl rfl rfl ?_ ?_
  ·intro hleft
   refine tg_ a [7,.K [] [617,618]] ?_
   exact AK.done (Or.inl (an_ hleft (an_ (fun h=>(by cases h)) (an_ rfl rfl))))
  intro D w A i
  obtain⟨o,h⟩:=hex _ i
  have ho:=h
  replace h:Qdr g w A=some o:=h
  refine Qa a [10,.x (fun σ=>σ.put 11 (.tup [.I w,.I A])),11,.o (.any (.I ((QX g w).getD 0)) none),3] rfl (a2_ (Stp.entryT (b:=8) (m:=617) (e:=V.I) (f:=V.I) rfl rfl (QS a.n rfl) rfl i rfl rfl) (fun σ B E _=>Stp.lookup (e:=V.I) (f:=V.I) (l:=g) (k:=w) (z:=0) rfl rfl (QS a.n rfl) (B _ _ rfl) (E _ _ rfl) (B _ _ rfl) Qis QmB Qw4 rfl)) ?_
  refine bq_ a h [.T,7,.K [4] [617,618]] rfl (fun j h=>?_) [.F,2,.K [1,8] [8,617,618]] rfl fun j h=>?_
  ·cases h
   exact AK.done (Or.inr (ex_ _ (an_ i (Or.inr (ex_ _ (an_ ho (an_ (fun h=>(by cases h)) (an_ rfl rfl))))))))
  cases h
  exact AK.done (Or.inr (ex_ _ (an_ i (Or.inl (ex_ _ (an_ ho (an_ rfl (ex_ _ rfl))))))))
 rcases y with(_ | _)
 ·replace h:QlU=some r:=h
  rintro e σ ⟨rfl,rfl⟩
  refine tg_ a [8] ?_
  refine AK.closeMap (b:=617) rfl ?_
  cases h
  exact d1_ r2_
 replace h:QlV=some r:=h
 rintro e σ ⟨rfl,rfl⟩
 refine tg_ a [2] ?_
 refine AK.closeMap (b:=617) rfl ?_
 cases h
 exact d1_ r2_
def Qrw (a:Unit):Option Bool:=
 some false
def Qrx (a:QBg):Option Bool:=
 some false
def Qry (a:QBg):Option Bool:=
 some false
def Qnl (b:(QBg×QBg)):Option Bool:=
 (QeN b.1 b.2).bind fun a=>
 some a
def Qky (a:QBg)(b:QBg):Option Bool:=
 (Qk8 a b).bind (Sum.elim (fun q=>Qrw q) (Sum.elim (fun q=>Qrx q) (Sum.elim (fun q=>Qry q) (fun q=>Qnl q))))
theorem Qyb (i j){r}(h:Qky i j=some r):Qc prog 191 [.sl 2 (i.map Qo),.sl 2 (j.map Qo)] [] (Gives (.b r) []):=by
 refine wk_ 21 func191 fun C c=>?_
 obtain⟨m,a,h⟩:=Qb h
 refine tg_ c [9] ?_
 rcases m with(o | (k | (l | e)))
 ·replace h:Qrw o=some r:=h
  refine Qa c [.cm (.fn) [] [] [] [.d,.d] [] (.tup [.lit (.map none),.lit (.map none),.b false]),21] rfl (a1_ (Qb0 _ _ a)) ?_
  cases h
  exact d1_ tt_
 ·replace h:Qrx k=some r:=h
  refine Qa c [.cm (.fn) [] [(11,603)] [] [.d,.d] [(603,.map (QQ V.I V.I k))] (.tup [.lit (.map none),.map 603,.b false]),21] rfl (a1_ (Qb0 _ _ a)) ?_
  cases h
  exact d1_ tt_
 ·replace h:Qry l=some r:=h
  refine Qa c [.cm (.fn) [] [(11,602)] [] [.d,.d] [(602,.map (QQ V.I V.I l))] (.tup [.map 602,.lit (.map none),.b false]),21] rfl (a1_ (Qb0 _ _ a)) ?_
  cases h
  exact d1_ tt_
 replace h:Qnl e=some r:=h
 obtain⟨g,f,h⟩:=Qb h
 refine Qa c [.cm (.fn) [] [(11,602),(610,603)] [] [.d,.d] [(602,.map (QQ V.I V.I e.1)),(603,.map (QQ V.I V.I e.2))] (.tup [.map 602,.map 603,.b true]),15,.cm (.fn) [(617,11),(618,610)] [(11,617),(610,618)] [] [.d,.d] [(617,.map (QQ V.I V.I e.1)),(618,.map (QQ V.I V.I e.2))] (.b g),5] rfl (a2_ (Qb0 _ _ a) (QlW _ _ f)) ?_
 cases h
 exact d1_ tt_
def QM (d:QMk)(e:QMk)(a:Int):Option (Int⊕(Unit⊕Unit)):=
 bif (decide (a<(d.length:Int)))then
 (idx d a).bind fun f=>
 (idx e a).bind fun b=>
 (Qky f b).bind fun c=>
 bif (!c)then
 some (.inr (.inl ()))
 else
 some (.inl (w64 (a+1)))
 else
 some (.inr (.inr ()))
def Qbr : Option Bool:=
 some false
def Qbs : Option Bool:=
 some true
def Qaf (a:QMk)(b:QMk):Option Bool:=
 bif ((a.length:Int) != (b.length:Int))then
 some false
 else
 (Qw (fun st=>QM a b st) 0).bind (Sum.elim (fun q=>Qbr) (fun q=>Qbs))
theorem Qd7 (g k){r}(h:Qaf g k=some r):Qc prog 49 [.sl 1 (g.map Qg),.sl 1 (k.map Qg),.clo (.func 191) [] []] [] (Gives (.b r) []):=by
 refine wk_ 32 func49 fun C f=>?_
 refine Qa f [9,.o (.ln g.length),1,.o (.ln k.length),3] rfl (a2_ Qf Qf) ?_
 refine bg_ h (fun i h=>Qa f [.T,7,.K [6] []] rfl (a1_ i) ?_) fun i h=>Qa f [.F,6,.o (.ln g.length),4,.K [1,2,15,16,17] []] rfl (a2_ i Qf) ?_
 ·cases h
  exact d1_ tt_
 obtain⟨s,l,h⟩:=Qb h
 refine AK.loop (body:=(fun st=>QM g k st)) (fun st σ=>σ=⟨[(1,.sl 1 (k.map Qg)),(2,.clo (.func 191) [] []),(15,.sl 1 (g.map Qg)),(16,.I (g.length:Int)),(17,.I st)],[]⟩) (Sum.elim (fun q e σ=>e=.ret/\σ=⟨[(6,.b false)],[]⟩) (fun q e σ=>e=.exit 0/\σ=⟨[],[]⟩)) l rfl ?_ ?_
 ·rintro x o σ rfl h
  refine tg_ f [6] ?_
  rcases Qp h with⟨j,h⟩|⟨j,h⟩
  ·obtain⟨w,t,h⟩:=Qb h
   obtain⟨u,m,h⟩:=Qb h
   obtain⟨v,p,h⟩:=Qb h
   refine Qa f [.T,7,.o (.row (Qg w)),9,.o (.row (Qg u)),9,.o (.C2 (.b v)),3] rfl (a4_ j (QE t) (QE m) (Qyb _ _ p)) ?_
   refine bq_ f h [.T,8,.K [6] []] rfl (fun a h=>?_) [.F,7,.K [1,2,15,16,17] []] rfl fun a h=>?_
   ·cases h
    exact Q6 rfl (an_ rfl rfl)
   cases h
   exact QR rfl rfl
  refine Qa f [.F,2,.K [] []] rfl (a1_ j) ?_
  cases h
  exact QT rfl (an_ rfl rfl)
 rcases s with(_ | _)
 ·replace h:Qbr=some r:=h
  rintro e σ ⟨rfl,rfl⟩
  refine tg_ f [2] ?_
  cases h
  exact d1_ tt_
 replace h:Qbs=some r:=h
 rintro e σ ⟨rfl,rfl⟩
 refine tg_ f [8] ?_
 cases h
 exact d1_ tt_
def Qfr (a:QMk)(b:QMk):Option Bool:=
 (Qaf a b).bind fun c=>
 some c
theorem Qql (a e){r}(h:Qfr a e=some r):Qc prog 140 [.sl 1 (a.map Qg),.sl 1 (e.map Qg)] [] (Gives (.b r) []):=by
 refine wk_ 8 func140 fun C f=>?_
 obtain⟨g,c,h⟩:=Qb h
 refine Qa f [9,.cm (.fn) [] [] [] [.d,.d,.d] [] (.b g),4] rfl (a1_ (Qd7 _ _ c)) ?_
 cases h
 exact d1_ tt_
def QaD (b:(List Int))(c:Int)(a:Int):Option (Int⊕(Int⊕Unit)):=
 bif (decide (a<(b.length:Int)))then
 (idx b a).bind fun d=>
 bif (c==d)then
 some (.inr (.inl a))
 else
 some (.inl (w64 (a+1)))
 else
 some (.inr (.inr ()))
def Qd1 (a:Int):Option Int:=
 some a
def Qd2 : Option Int:=
 some (-1)
def Qds (a:(List Int))(b:Int):Option Int:=
 (Qw (fun st=>QaD a b st) 0).bind (Sum.elim (fun q=>Qd1 q) (fun q=>Qd2))
theorem QpR (d g){r}(h:Qds d g=some r):Qc prog 192 [.sl 1 (d.map Qe),.I g] [] (Gives (.I r) []):=by
 refine wk_ 19 func192 fun C b=>?_
 refine Qa b [9,.o (.ln d.length),4,.K [0,1,7,8] []] rfl (a1_ Qf) ?_
 obtain⟨i,f,h⟩:=Qb h
 refine AK.loop (body:=(fun st=>QaD d g st)) (fun st σ=>σ=⟨[(0,.sl 1 (d.map Qe)),(1,.I g),(7,.I (d.length:Int)),(8,.I st)],[]⟩) (Sum.elim (fun q e σ=>e=.ret/\σ=⟨[(4,.I q)],[]⟩) (fun q e σ=>e=.exit 0/\σ=⟨[],[]⟩)) f rfl ?_ ?_
 ·rintro m o σ rfl h
  refine tg_ b [6] ?_
  rcases Qp h with⟨c,h⟩|⟨c,h⟩
  ·obtain⟨k,j,h⟩:=Qb h
   refine Qa b [.T,15,.o (.row (Qe k)),4] rfl (a2_ c (QE j)) ?_
   refine bq_ b h [.T,9,.K [4] []] rfl (fun a h=>?_) [.F,7,.K [0,1,7,8] []] rfl fun a h=>?_
   ·cases h
    exact Q6 rfl (an_ rfl rfl)
   cases h
   exact QR rfl rfl
  refine Qa b [.F,2,.K [] []] rfl (a1_ c) ?_
  cases h
  exact QT rfl (an_ rfl rfl)
 rcases i with(l | _)
 ·replace h:Qd1 l=some r:=h
  rintro e σ ⟨rfl,rfl⟩
  refine tg_ b [2] ?_
  cases h
  exact d1_ tt_
 replace h:Qd2=some r:=h
 rintro e σ ⟨rfl,rfl⟩
 refine tg_ b [8] ?_
 cases h
 exact d1_ tt_
def QaE (a:(List Int))(b:Int):Option Bool:=
 (Qds a b).bind fun c=>
 some (decide (0<=c))
theorem Qh0 (e f){r}(h:QaE e f=some r):Qc prog 141 [.sl 1 (e.map Qe),.I f] [] (Gives (.b r) []):=by
 refine wk_ 9 func141 fun C g=>?_
 obtain⟨i,a,h⟩:=Qb h
 refine Qa g [9,.o (.C2 (.I i)),5] rfl (a1_ (QpR _ _ a)) ?_
 cases h
 exact d1_ tt_
def QaL (a:(List Int)):Option (List Int):=
 (chk (decide ((([]:List Int).length+a.length)*8<=140737488355328))).bind fun _=>
 some (([]:List Int)++a)
theorem QcF (b){r}(h:QaL b=some r):Qc prog 142 [.sl 1 (b.map Qe)] [] (Gives (.own 600 r.length) [(600,.arr 1 (r.map Qe))]):=by
 refine wk_ 8 func142 fun C a=>?_
 unfold QaL at h
 refine tg_ a [9] ?_
 refine AK.eqNil rfl rfl rfl (QS a.n rfl) rfl rfl QFw ?_ ?_
 ·intro c
  replace h:some ([]:List Int)=some r:=by simpa [chk,List.map_eq_nil_iff.1 c] using h
  refine Qa a [10,.adopt 2 600 1,.O 600 (.arr 1 (([]:List Int).map Qe)),.S 2 (.own 600 ([]:List Int).length)] rfl (a2_ rfl rfl) ?_
  cases h
  exact d1_ r1_
 obtain⟨d,h⟩:=Qao h
 refine Qa a [8,.O 5 (.arr 1 (([]:List Int).map Qe)),.S 5 (.own 5 ([]:List Int).length),1,.x (fun σ=>σ.app 5 1 7 (([]:List Int)++b).length ((([]:List Int)++b).map Qe)),4,.K [2] [5],.ren 5 600] rfl (a3_ rfl rfl (Stp.appSB (by_:=8) (zs:=[.I 0]) (e:=3) (e':=3) (z':=1) (by':=8) rfl rfl (QS a.n rfl) rfl rfl rfl Qf (by kernel_rfl) (by kernel_rfl) (by kernel_rfl) rfl (by decide) (by decide) (Qwa d Qf) rfl Qap (QbG Qf))) ?_
 cases h
 exact d1_ r1_
def Qcs (a:Int):Option (Int⊕(Unit⊕Unit)):=
 some (.inl (w64 (a+1)))
def Qhk (a:(QMk×Int))(c:QO):Option Bool:=
 bif (a.2==0)then
 (Qfr a.1 c.m).bind fun b=>
 some b
 else
 some false
def Qdt (a:Int)(b:Bool):Option (Int⊕(Unit⊕Unit)):=
 bif b then
 some (.inr (.inl ()))
 else
 Qcs a
def Qam (d:QO)(b:(List Int))(a:Int):Option (Int⊕(Unit⊕Unit)):=
 bif (decide (a<(d.task.Ins.length:Int)))then
 (QaE b a).bind fun f=>
 bif f then
 Qcs a
 else
 (QaL b).bind fun c=>
 (chk (decide (c.length+([a]:List Int).length<=4294967296))).bind fun _=>
 (QcL (c++([a]:List Int))).bind fun e=>
 (chk (decide (e.length=(c++([a]:List Int)).length))).bind fun _=>
 (Qar d.net d.task.Ins e d.env).bind fun g=>
 (Qhk g d).bind (fun h=>Qdt a h)
 else
 some (.inr (.inr ()))
def QlX : Option Int:=
 some 11
def QlY : Option Int:=
 some 0
def Q0 (b:QO)(a:(List Int)):Option Int:=
 (Qar b.net b.task.Ins a b.env).bind fun c=>
 bif (c.2 != 0)then
 some c.2
 else
 (Qfr c.1 b.m).bind fun d=>
 bif (!d)then
 some 10
 else
 bif (b.task.Join != 3)then
 some 0
 else
 (Qw (fun st=>Qam b a st) 0).bind (Sum.elim (fun q=>QlX) (fun q=>QlY))
theorem QlZ (i f){r}(h:Q0 i f=some r):Qc prog 73 [.agg (Qy i),.sl 1 (f.map Qe)] [] (Gives (.I r) []):=by
 refine wk_ 76 func73 fun C a=>?_
 obtain⟨W,M,h⟩:=Qb h
 refine Qa a [9,.A (Qd i.net),6,.o (.C4 (.tup [.sl 1 (W.1.map Qg),.I W.2])),16] rfl (a2_ rfl (Qf6 _ _ _ _ M)) ?_
 rcases Qp h with⟨u,h⟩|⟨u,h⟩
 ·refine Qa a [.T,9] rfl (a1_ u) ?_
  cases h
  exact d1_ tt_
 obtain⟨X,N,h⟩:=Qb h
 refine Qa a [.F,5,.o (.C2 (.b X)),4] rfl (a2_ u (Qql _ _ N)) ?_
 refine bq_ a h [.T,8,.K [4] []] rfl (fun w h=>?_) [.F,9] rfl fun w h=>?_
 ·cases h
  exact d1_ tt_
 refine bg_ h (fun x h=>Qa a [.T,8,.K [4] []] rfl (a1_ x) ?_) fun x h=>Qa a [.F,9,.o (.ln i.task.Ins.length),4,.K [1,2,41,42] [2]] rfl (a2_ x Qf) ?_
 ·cases h
  exact d1_ tt_
 obtain⟨O,z,h⟩:=Qb h
 refine AK.loop (body:=(fun st=>Qam i f st)) (fun st σ=>σ=⟨[(1,.sl 1 (f.map Qe)),lk_ 2,(41,.I (i.task.Ins.length:Int)),(42,.I st)],[(2,.var (Qy i))]⟩) (Sum.elim (fun q e σ=>e=.ret/\σ=⟨[(4,.I 11)],[]⟩) (fun q e σ=>e=.exit 1/\σ=⟨[],[]⟩)) z rfl ?_ ?_
 ·rintro g o σ rfl h
  refine tg_ a [6] ?_
  refine bq_ a h [.T,2] rfl (fun j h=>?_) [.F,2,.K [] []] rfl fun j h=>?_
  ·refine AK.meet (fun σ=>σ=⟨[(1,.sl 1 (f.map Qe)),lk_ 2,(41,.I (i.task.Ins.length:Int)),(42,.I g)],[(2,.var (Qy i))]⟩/\Qcs g=some o) ?_ ?_
   ·obtain⟨P,A,h⟩:=Qb h
    refine Qa a [12,.o (.C2 (.b P)),2] rfl (a1_ (Qh0 _ _ A)) ?_
    rcases Qp h with⟨k,h⟩|⟨k,h⟩
    ·refine Qa a [.T,3,.K [1,2,41,42] [2]] rfl (a1_ k) ?_
     exact AK.met (an_ rfl h)
    obtain⟨t,B,h⟩:=Qb h
    obtain⟨D,h⟩:=Qao h
    obtain⟨l,E,h⟩:=Qb h
    obtain⟨m,h⟩:=Qao h
    obtain⟨G,H,h⟩:=Qb h
    refine Qa a [.F,5,.o (.co false [.d] 1 (t.map Qe) t.length),1,.v (.bd []) [] (.sl 1 (([g]:List Int).map Qe)),.app ((t++([g]:List Int)).map Qe) (t++([g]:List Int)).length,6,.cm (.fn) [(617,49)] [(49,617)] [] [.d] [(617,.arr 1 (l.map Qe))] (.tup []),.S 8 (.own 49 l.length),.S 52 (.own 49 l.length),.S 53 (.own 49 l.length),5,.A (Qd i.net),6,.frz 49 (l.map Qe) [8,52,53,61] [],.o (.C4 (.tup [.sl 1 (G.1.map Qg),.I G.2])),8] rfl (aB_ k ⟨(QcF _ B),Qf,.inl rfl⟩ rfl ⟨Qf,Qbk D Qf,Qap,QbG Qf⟩ (Qkx _ E) (by simp [Qak m]) (by simp [Qak m]) (by simp [Qak m]) rfl (a4_ (Qcd Qf) (Qcd Qf) (Qcd Qf) (Qcd Qf)) (Qf6 _ _ _ _ H)) ?_
    obtain⟨y,J,h⟩:=Qb h
    replace h:Qdt g y=some o:=h
    refine AK.meetX (fun σ=>σ=⟨[(1,.sl 1 (f.map Qe)),lk_ 2,(41,.I (i.task.Ins.length:Int)),(42,.I g),(74,.b y)],[(2,.var (Qy i))]⟩) ?_ ?_
    ·replace h:=J
     refine tg_ a [4] ?_
     rcases Qp h with⟨p,h⟩|⟨p,h⟩
     ·obtain⟨U,L,h⟩:=Qb h
      refine Qa a [.S 69 (.b true),3,.o (.C2 (.b U)),2,.K [1,2,41,42,74] [2]] rfl ⟨(tc_ p),(Qql _ _ L)⟩ ?_
      cases h
      exact mt_
     refine Qa a [.S 69 (.b false),6,.K [1,2,41,42,74] [2]] rfl (tc_ p) ?_
     cases h
     exact mt_
    rintro σ rfl
    replace h:Qdt g y=some o:=h
    refine tg_ a [1] ?_
    refine bq_ a h [.T,8,.K [4] []] rfl (fun s h=>?_) [.F,2,.K [1,2,41,42] [2]] rfl fun s h=>?_
    ·cases h
     exact Q6 rfl (an_ rfl rfl)
    exact AK.met (an_ rfl h)
   rintro σ ⟨rfl,h⟩
   refine tg_ a [4,.K [1,2,41,42] [2]] ?_
   cases h
   exact QR rfl rfl
  cases h
  exact QT rfl (an_ rfl rfl)
 rcases O with(_ | _)
 ·replace h:QlX=some r:=h
  rintro e σ ⟨rfl,rfl⟩
  refine tg_ a [2] ?_
  cases h
  exact d1_ tt_
 replace h:QlY=some r:=h
 rintro e σ ⟨rfl,rfl⟩
 refine tg_ a [8] ?_
 cases h
 exact d1_ tt_
def Qaj (b:QO)(a:(List Int)):Option Int:=
 (Qar b.net b.task.Outs a b.env).bind fun c=>
 some c.2
theorem Ql0 (b a){r}(h:Qaj b a=some r):Qc prog 74 [.agg (Qy b),.sl 1 (a.map Qe)] [] (Gives (.I r) []):=by
 refine wk_ 20 func74 fun C g=>?_
 obtain⟨f,e,h⟩:=Qb h
 refine Qa g [9,.A (Qd b.net),6,.o (.C4 (.tup [.sl 1 (f.1.map Qg),.I f.2])),14] rfl (a2_ rfl (Qf6 _ _ _ _ e)) ?_
 cases h
 exact d1_ tt_
def QgZ (a:(Int×QO))(d:Qh):Option Bool:=
 (Qez a.2.task.Join (a.2.task.Ins.length:Int) d.Ins).bind fun b=>
 bif (!b)then
 some true
 else
 (Qez a.2.task.Split (a.2.task.Outs.length:Int) d.Outs).bind fun c=>
 some (!c)
def Qef (c:(Int×QO))(d:Qh)(e:Bool):Option Int:=
 bif e then
 some 11
 else
 (Q0 c.2 d.Ins).bind fun a=>
 bif (a != 0)then
 some a
 else
 (Qaj c.2 d.Outs).bind fun b=>
 some b
def QbB (b:(Int×QO))(c:Qh)(a:Int):Option Int:=
 bif (a != 0)then
 some a
 else
 (QgZ b c).bind (fun d=>Qef b c d)
def Qck (d:Qq)(e:QMk)(b:Qh):Option Int:=
 (Qa9 d e b.Task b.Vars).bind fun a=>
 bif (a.1==0)then
 (Q7 a.2).bind fun c=>
 QbB a b c
 else
 QbB a b a.1
theorem Qyc (x H l){r}(h:Qck x H l=some r):Qc prog 34 [.agg (Qd x),.sl 1 (H.map Qg),.agg (Qi l)] [] (Gives (.I r) []):=by
 refine wk_ 62 func34 fun C a=>?_
 obtain⟨e,y,h⟩:=Qb h
 refine Qa a [9,.A (Qd x),5,.o (.C4 (.tup [.agg (Qy e.2),.I e.1])),5,.O 7 (.var (Qy e.2)),3] rfl (a3_ rfl (Qrv _ _ _ _ y) rfl) ?_
 refine AK.meet (fun σ=>∃f:Int,σ=⟨[lk_ 5,lk_ 7,(8,.I f)],[(5,.var (Qi l)),(7,.var (Qy e.2))]⟩/\QbB e l f=some r) ?_ ?_
 ·refine tg_ a [6] ?_
  rcases Qp h with⟨g,h⟩|⟨g,h⟩
  ·obtain⟨z,p,h⟩:=Qb h
   refine Qa a [.T,1,.A (Qy e.2),.o (.C1 (.I z)),2,.K [5,7,8] [5,7]] rfl (a3_ g rfl (Qkv _ p)) ?_
   exact AK.met (ex_ _ (an_ rfl h))
  refine Qa a [.F,1,.K [5,7,8] [5,7]] rfl (a1_ g) ?_
  exact AK.met (ex_ _ (an_ rfl h))
 rintro σ ⟨f,rfl,h⟩
 refine tg_ a [7] ?_
 refine bq_ a h [.T,8,.K [6] []] rfl (fun m h=>?_) [.F,4] rfl fun m h=>?_
 ·cases h
  exact d1_ tt_
 obtain⟨A,q,h⟩:=Qb h
 replace h:Qef e l A=some r:=h
 refine AK.meetX (fun σ=>σ=⟨[lk_ 5,lk_ 7,(50,.b A)],[(5,.var (Qi l)),(7,.var (Qy e.2))]⟩) ?_ ?_
 ·replace h:=q
  obtain⟨B,s,h⟩:=Qb h
  refine Qa a [7,.o (.ln e.2.task.Ins.length),2,.o (.C3 (.b B)),2] rfl (a2_ Qf (Qqg _ _ _ s)) ?_
  rcases Qp h with⟨i,h⟩|⟨i,h⟩
  ·refine Qa a [.S 38 (.b true),13,.K [5,7,50] [5,7]] rfl (tc_ i) ?_
   cases h
   exact mt_
  obtain⟨D,t,h⟩:=Qb h
  refine Qa a [.S 38 (.b false),6,.o (.ln e.2.task.Outs.length),2,.o (.C3 (.b D)),3,.K [5,7,50] [5,7]] rfl ⟨⟨(tc_ i),Qf⟩,(Qqg _ _ _ t)⟩ ?_
  cases h
  exact mt_
 rintro σ rfl
 replace h:Qef e l A=some r:=h
 refine tg_ a [1] ?_
 rcases Qp h with⟨j,h⟩|⟨j,h⟩
 ·refine Qa a [.T,7] rfl (a1_ j) ?_
  cases h
  exact d1_ tt_
 obtain⟨E,u,h⟩:=Qb h
 refine Qa a [.F,5,.A (Qy e.2),2,.o (.C2 (.I E)),9] rfl (a3_ j rfl (QlZ _ _ u)) ?_
 rcases Qp h with⟨k,h⟩|⟨k,h⟩
 ·refine Qa a [.T,8] rfl (a1_ k) ?_
  cases h
  exact d1_ tt_
 obtain⟨G,w,h⟩:=Qb h
 refine Qa a [.F,4,.A (Qy e.2),2,.o (.C2 (.I G)),4] rfl (a3_ k rfl (Ql0 _ _ w)) ?_
 cases h
 exact d1_ tt_
def Qdu (c:Qq)(b:Qh):Option (QMk×Int):=
 (QdB c b.Task b.Vars).bind fun d=>
 bif (d.2 != 0)then
 some (([]:List QBg),d.2)
 else
 (idx c.Tasks b.Task).bind fun e=>
 (Qar c e.Ins b.Ins d.1).bind fun a=>
 some (a.1,a.2)
theorem Qrz (i l){r}(h:Qdu i l=some r):Qc prog 26 [.agg (Qd i),.agg (Qi l)] [] (Gives (.tup [.sl 1 (r.1.map Qg),.I r.2]) []):=by
 refine wk_ 34 func26 fun C e=>?_
 obtain⟨p,j,h⟩:=Qb h
 refine Qa e [10,.A (Qd i),4,.o (.C3 (.tup [.sl 1 (p.1.map Qe),.I p.2])),14] rfl (a2_ rfl (QoO _ _ _ j)) ?_
 rcases Qp h with⟨b,h⟩|⟨b,h⟩
 ·refine Qa e [.T,9,.denil 4 [some 1]] rfl (a1_ b) ?_
  cases h
  exact d2_ tt_
 obtain⟨q,k,h⟩:=Qb h
 obtain⟨f,g,h⟩:=Qb h
 refine Qa e [.F,3,.K [2,3,4,5,6] [2,3]] rfl (a1_ b) ?_
 refine AK.draw2 Qr e mixed [.a .no (some ([],.agg (Qd i))) false,.N,.N,.N,.N,.a (.row (Qm q)) none false,.N,.N,.N,.N,.N,.a (.C4 (.tup [.sl 1 (f.1.map Qg),.I f.2])) none false,.N,.N,.m .s,.m .s] [] [] [4,5] [] rfl rfl rfl ⟨⟨⟨tt_,rfl⟩,(QE k)⟩,(Qf6 _ _ _ _ g)⟩ rfl (by kernel_rfl) rfl rfl rfl ?_
 refine tg_ e [2] ?_
 cases h
 exact d2_ tt_
def Qum (a:Unit):Option (QBg×Int):=
 some (([]:List (Int×Int)),1)
def Qun (a:QBg):Option (QBg×Int):=
 some (([]:List (Int×Int)),1)
def Quo (a:QBg):Option (QBg×Int):=
 some (([]:List (Int×Int)),1)
noncomputable def QgN (m16:QBg)(k18:Int)(v19:Int):Option (QBg⊕Empty):=
 some (.inl (QcJ ltI m16 k18 (w64 (((QX m16 k18).getD 0)-v19))))
def QoR (a:QBg):Option (QBg×Int):=
 (QeQ a).bind fun b=>
 some (b,0)
noncomputable def QoS (a11:(QBg×QBg)):Option (QBg×Int):=
 (QeN a11.2 a11.1).bind fun x12=>
 bif (!x12)then
 some (([]:List (Int×Int)),10)
 else
 (QlQ (fun st p=>QgN st p.1 p.2) a11.1 a11.2).bind (Sum.elim (fun q=>QoR q) (fun q=>Empty.elim q))
def QfH (a:QBg)(b:QBg):Option (QBg×Int):=
 (Qk8 a b).bind (Sum.elim (fun q=>Qum q) (Sum.elim (fun q=>Qun q) (Sum.elim (fun q=>Quo q) (fun q=>QoS q))))
theorem Qz0 (O P){r}(h:QfH O P=some r):Qc prog 36 [.sl 2 (O.map Qo),.sl 2 (P.map Qo)] [] (Gives (.tup [.sl 2 (r.1.map Qo),.I r.2]) []):=by
 refine wk_ 40 func36 fun C g=>?_
 obtain⟨X,w,h⟩:=Qb h
 refine tg_ g [10] ?_
 rcases X with(Y | (S | (E | i)))
 ·replace h:Qum Y=some r:=h
  refine Qa g [.cm (.fn) [] [] [] [.d,.d] [] (.tup [.lit (.map none),.lit (.map none),.b false]),28,.denil 4 [some 2]] rfl (a1_ (Qb0 _ _ w)) ?_
  cases h
  exact d2_ tt_
 ·replace h:Qun S=some r:=h
  refine Qa g [.cm (.fn) [] [(14,603)] [] [.d,.d] [(603,.map (QQ V.I V.I S))] (.tup [.lit (.map none),.map 603,.b false]),28,.denil 4 [some 2]] rfl (a1_ (Qb0 _ _ w)) ?_
  cases h
  exact d2_ tt_
 ·replace h:Quo E=some r:=h
  refine Qa g [.cm (.fn) [] [(14,602)] [] [.d,.d] [(602,.map (QQ V.I V.I E))] (.tup [.map 602,.lit (.map none),.b false]),28,.denil 4 [some 2]] rfl (a1_ (Qb0 _ _ w)) ?_
  cases h
  exact d2_ tt_
 replace h:QoS i=some r:=h
 obtain⟨L,G,h⟩:=Qb h
 refine Qa g [.cm (.fn) [] [(14,602),(610,603)] [] [.d,.d] [(602,.map (QQ V.I V.I i.1)),(603,.map (QQ V.I V.I i.2))] (.tup [.map 602,.map 603,.b true]),23,.cm (.fn) [(617,610),(618,14)] [(610,617),(14,618)] [] [.d,.d] [(617,.map (QQ V.I V.I i.2)),(618,.map (QQ V.I V.I i.1))] (.b L),4] rfl (a2_ (Qb0 _ _ w) (QlW _ _ G)) ?_
 refine bq_ g h [.T,9,.denil 4 [some 2],.K [4,5] []] rfl (fun j h=>?_) [.F,7] rfl fun j h=>?_
 ·cases h
  exact d2_ tt_
 refine AK.openMapK (b:=610) QmB rfl fun s t L14 A M B=>?_
 refine Qa g [.x (fun σ=>(σ.set 27 (.itr s t #[] none)).put 27 (.L 27)),3,.K [6,27] [14,27,610]] rfl (a1_ (Stp.range (b:=610) rfl rfl (QS g.n rfl) rfl rfl Qis rfl)) ?_
 obtain⟨N,H,h⟩:=Qb h
 refine AK.range (body:=(fun st p=>QgN st p.1 p.2)) (fun st seen σ=>∃cur:Option Nat,σ=⟨[(6,.map 14),lk_ 27],[(14,.map (QQ V.I V.I st)),(27,.itr s t seen cur),(610,.mapX s t (Qko V.I V.I L14) (QQ V.I V.I i.2))]⟩) (fun (q:Empty) _ _=>False) (fun st e σ=>e=.exit 1/\σ=⟨[(6,.map 14)],[(14,.map (QQ V.I V.I st))]⟩) A B H (ex_ _ rfl) ?_ ?_
 ·rintro a seen σ ⟨cur,rfl⟩ hex
  refine tg_ g [2] ?_
  refine AK.nextT (b:=27) (m:=610) rfl rfl rfl (QS g.n rfl) rfl rfl rfl rfl ?_ ?_
  ·intro hleft
   refine tg_ g [7,.K [6] [14]] ?_
   exact AK.done (Or.inl (an_ hleft (an_ (fun h=>(by cases h)) (an_ rfl rfl))))
  intro U c y u
  obtain⟨o,h⟩:=hex _ u
  have ho:=h
  replace h:QgN a c y=some o:=h
  refine Qa g [10,.x (fun σ=>σ.put 30 (.tup [.I c,.I y])),9,.o (.any (.I ((QX a c).getD 0)) none),2,.x (fun σ=>σ.set 14 (.map (QQ V.I V.I (QcJ ltI a c (w64 (((QX a c).getD 0)-y)))))),2,.K [6,27] [14,27,610]] rfl (a3_ (Stp.entryT (b:=27) (m:=610) (e:=V.I) (f:=V.I) rfl rfl (QS g.n rfl) rfl u rfl rfl) (fun σ W Z _=>Stp.lookup (e:=V.I) (f:=V.I) (l:=a) (k:=c) (z:=0) rfl rfl (QS g.n rfl) (W _ _ rfl) (Z _ _ rfl) (W _ _ rfl) Qis QmB Qw4 rfl) (Stp.mapUpdate (e:=V.I) (f:=V.I) (l:=a) (k:=c) (v:=(w64 (((QX a c).getD 0)-y))) ltI rfl rfl rfl rfl rfl rfl Qis QmB rfl)) ?_
  cases h
  exact AK.done (Or.inr (ex_ _ (an_ u (Or.inl (ex_ _ (an_ ho (an_ rfl (ex_ _ rfl))))))))
 rcases N with(a | q)
 ·replace h:QoR a=some r:=h
  rintro e σ ⟨rfl,rfl⟩
  obtain⟨D,J,h⟩:=Qb h
  refine Qa g [5,.cm (.fn) [(617,14)] [(39,600),(14,617)] [] [.d] [(600,.arr 2 (D.map Qo)),(617,.map (QQ V.I V.I a))] (.own 600 D.length),5,.frz 39 (D.map Qo) [4] []] rfl (a2_ (Qjo _ J) (a1_ (Qcd Qf))) ?_
  cases h
  exact d2_ tt_
 exact q.elim
def QcT (f:QMk)(g:QMk)(c:Int)(a:QMk):Option ((Int×QMk)⊕(Int⊕QMk)):=
 bif (decide (c<((List.replicate (min2 (f.length:Int) (g.length:Int)).toNat (([]:QBg):QBg)).length:Int)))then
 (idx f c).bind fun d=>
 (idx g c).bind fun e=>
 (QfH d e).bind fun b=>
 (idx a c).bind fun h=>
 bif (b.2 != 0)then
 some (.inr (.inl b.2))
 else
 some (.inl ((w64 (c+1)),(a.set c.toNat b.1)))
 else
 some (.inr (.inr a))
def Qqm (a:Int):Option (QMk×Int):=
 some (([]:List QBg),a)
def Qqn (a:QMk):Option (QMk×Int):=
 some (a,0)
def QgO (a:QMk)(b:QMk):Option (QMk×Int):=
 (chk (decide (0<=(min2 (a.length:Int) (b.length:Int)))&&decide ((min2 (a.length:Int) (b.length:Int))<=(min2 (a.length:Int) (b.length:Int)))&&decide ((min2 (a.length:Int) (b.length:Int))<=4294967296))).bind fun _=>
 (Qw (fun st=>QcT a b st.1 st.2) (0,(List.replicate (min2 (a.length:Int) (b.length:Int)).toNat (([]:QBg):QBg)))).bind (Sum.elim (fun q=>Qqm q) (fun q=>Qqn q))
theorem Qw8 (l p){r}(h:QgO l p=some r):Qc prog 35 [.sl 1 (l.map Qg),.sl 1 (p.map Qg),.clo (.func 36) [] []] [] (Gives (.tup [.sl 1 (r.1.map Qg),.I r.2]) []):=by
 refine wk_ 43 func35 fun C g=>?_
 obtain⟨B,h⟩:=Qao h
 refine Qa g [9,.o (.ln l.length),1,.o (.ln p.length),1,.o (.rows (List.replicate (min2 (l.length:Int) (p.length:Int)).toNat [.lit (.slice none 0 0)]))] rfl (a3_ Qf Qf ⟨B,rfl⟩) ?_
 refine AK.denilA (b:=16) [some 2] rfl (Qx3 (f:=Qg) (x:=([]:QBg)) rfl) ?_
 refine Qa g [.S 16 (.own 16 (List.replicate (min2 (l.length:Int) (p.length:Int)).toNat (([]:QBg):QBg)).length),12,.K [0,1,2,8,18,19] [16]] rfl (a1_ (by simp)) ?_
 obtain⟨D,u,h⟩:=Qb h
 refine AK.loop (body:=(fun st=>QcT l p st.1 st.2)) (fun st σ=>σ=⟨[(0,.sl 1 (l.map Qg)),(1,.sl 1 (p.map Qg)),(2,.clo (.func 36) [] []),(8,.own 16 st.2.length),(18,.I ((List.replicate (min2 (l.length:Int) (p.length:Int)).toNat (([]:QBg):QBg)).length:Int)),(19,.I st.1)],[(16,.arr 1 (st.2.map Qg))]⟩) (Sum.elim (fun q e σ=>e=.ret/\σ=⟨[(6,.lit (.slice none 0 0)),(7,.I q)],[]⟩) (fun q e σ=>e=.exit 0/\σ=⟨[(8,.own 16 q.length)],[(16,.arr 1 (q.map Qg))]⟩)) u rfl ?_ ?_
 ·rintro ⟨L,v⟩ o σ rfl h
  refine tg_ g [6] ?_
  rcases Qp h with⟨i,h⟩|⟨i,h⟩
  ·obtain⟨E,w,h⟩:=Qb h
   obtain⟨G,y,h⟩:=Qb h
   obtain⟨k,z,h⟩:=Qb h
   obtain⟨H,t,h⟩:=Qb h
   refine Qa g [.T,16,.K [0,1,2,8,9,10,18,19] [16]] rfl (a1_ i) ?_
   refine AK.draw2 Qr g mixed [.N,.N,.N,.N,.N,.a (.row (Qg E)) none false,.N,.N,.N,.a (.row (Qg G)) none false,.N,.a (.C2 (.tup [.sl 2 (k.1.map Qo),.I k.2])) none false,.a .no none true true,.N,.a .no none true,.N,.m (.st (Qg H) ((v.set L.toNat k.1).map Qg)),.m .s] [0,1,2,8,9,10,18,19] [] [0,1,2,8,10,18,19] [16] rfl rfl rfl ⟨⟨⟨⟨⟨tt_,(QE w)⟩,(QE y)⟩,(Qz0 _ _ z)⟩,(QbW t rfl)⟩,⟨(QaN (Qby t).2),QhQ rfl⟩⟩ rfl (by kernel_rfl) rfl rfl rfl ?_
   refine tg_ g [7] ?_
   refine bg_ h (fun j h=>Qa g [.T,10,.K [6,7] []] rfl (a1_ j) ?_) fun j h=>Qa g [.F,7,.S 8 (.own 16 (v.set L.toNat k.1).length),.K [0,1,2,8,18,19] [16]] rfl (a2_ j (congrArg (fun n=>V.own 16 n) (by simp))) ?_
   ·cases h
    exact Q6 rfl (an_ rfl rfl)
   cases h
   exact QR rfl rfl
  refine Qa g [.F,2,.K [8] [16]] rfl (a1_ i) ?_
  cases h
  exact QT rfl (an_ rfl rfl)
 rcases D with(J | A)
 ·replace h:Qqm J=some r:=h
  rintro e σ ⟨rfl,rfl⟩
  refine tg_ g [2,.denil 6 [some 1]] ?_
  cases h
  exact d2_ tt_
 replace h:Qqn A=some r:=h
 rintro e σ ⟨rfl,rfl⟩
 refine Qa g [10,.frz 16 (A.map Qg) [6] []] rfl (a1_ (a1_ (Qcd Qf))) ?_
 cases h
 exact d2_ tt_
def Qhl (c:Qq)(d:QMk)(e:Qh):Option (QMk×Int):=
 (Qck c d e).bind fun f=>
 bif (f != 0)then
 some (([]:List QBg),f)
 else
 (Qdu c e).bind fun a=>
 bif (a.2 != 0)then
 some (([]:List QBg),a.2)
 else
 (QgO d a.1).bind fun b=>
 some (b.1,b.2)
theorem QsF (k p l){r}(h:Qhl k p l=some r):Qc prog 10 [.agg (Qd k),.sl 1 (p.map Qg),.agg (Qi l)] [] (Gives (.tup [.sl 1 (r.1.map Qg),.I r.2]) []):=by
 refine wk_ 32 func10 fun C e=>?_
 obtain⟨q,m,h⟩:=Qb h
 refine Qa e [11,.A (Qd k),1,.A (Qi l),.o (.C3 (.I q)),9] rfl (a3_ rfl rfl (Qyc _ _ _ m)) ?_
 rcases Qp h with⟨b,h⟩|⟨b,h⟩
 ·refine Qa e [.T,9,.denil 6 [some 1]] rfl (a1_ b) ?_
  cases h
  exact d2_ tt_
 obtain⟨f,g,h⟩:=Qb h
 refine Qa e [.F,4,.A (Qd k),.A (Qi l),.o (.C2 (.tup [.sl 1 (f.1.map Qg),.I f.2])),14] rfl (a4_ b rfl rfl (Qrz _ _ g)) ?_
 rcases Qp h with⟨a,h⟩|⟨a,h⟩
 ·refine Qa e [.T,9,.denil 6 [some 1]] rfl (a1_ a) ?_
  cases h
  exact d2_ tt_
 obtain⟨i,j,h⟩:=Qb h
 refine Qa e [.F,6,.cm (.fn) [] [] [] [.d,.d,.d] [] (.tup [.sl 1 (i.1.map Qg),.I i.2]),7] rfl (a2_ a (Qw8 _ _ j)) ?_
 cases h
 exact d2_ tt_
def Qkz (c:Qq)(b:Qh):Option (QMk×Int):=
 (QdB c b.Task b.Vars).bind fun d=>
 bif (d.2 != 0)then
 some (([]:List QBg),d.2)
 else
 (idx c.Tasks b.Task).bind fun e=>
 (Qar c e.Outs b.Outs d.1).bind fun a=>
 some (a.1,a.2)
theorem Qyd (i l){r}(h:Qkz i l=some r):Qc prog 40 [.agg (Qd i),.agg (Qi l)] [] (Gives (.tup [.sl 1 (r.1.map Qg),.I r.2]) []):=by
 refine wk_ 34 func40 fun C e=>?_
 obtain⟨p,j,h⟩:=Qb h
 refine Qa e [10,.A (Qd i),4,.o (.C3 (.tup [.sl 1 (p.1.map Qe),.I p.2])),14] rfl (a2_ rfl (QoO _ _ _ j)) ?_
 rcases Qp h with⟨b,h⟩|⟨b,h⟩
 ·refine Qa e [.T,9,.denil 4 [some 1]] rfl (a1_ b) ?_
  cases h
  exact d2_ tt_
 obtain⟨q,k,h⟩:=Qb h
 obtain⟨f,g,h⟩:=Qb h
 refine Qa e [.F,3,.K [2,3,4,5,6] [2,3]] rfl (a1_ b) ?_
 refine AK.draw2 Qr e mixed [.a .no (some ([],.agg (Qd i))) false,.N,.N,.N,.N,.a (.row (Qm q)) none false,.N,.N,.N,.N,.N,.a (.C4 (.tup [.sl 1 (f.1.map Qg),.I f.2])) none false,.N,.N,.m .s,.m .s] [] [] [4,5] [] rfl rfl rfl ⟨⟨⟨tt_,rfl⟩,(QE k)⟩,(Qf6 _ _ _ _ g)⟩ rfl (by kernel_rfl) rfl rfl rfl ?_
 refine tg_ e [2] ?_
 cases h
 exact d2_ tt_
def QbY (a:QMk):Option QMk:=
 (chk (decide ((([]:List QBg).length+a.length)*24<=140737488355328))).bind fun _=>
 some (([]:List QBg)++a)
theorem Qkj (b){r}(h:QbY b=some r):Qc prog 85 [.sl 1 (b.map Qg)] [] (Gives (.own 600 r.length) [(600,.arr 1 (r.map Qg))]):=by
 refine wk_ 8 func85 fun C a=>?_
 unfold QbY at h
 refine tg_ a [9] ?_
 refine AK.eqNil rfl rfl rfl (QS a.n rfl) rfl rfl QFv ?_ ?_
 ·intro c
  replace h:some ([]:List QBg)=some r:=by simpa [chk,List.map_eq_nil_iff.1 c] using h
  refine Qa a [10,.adopt 2 600 1,.O 600 (.arr 1 (([]:List QBg).map Qg)),.S 2 (.own 600 ([]:List QBg).length)] rfl (a2_ rfl rfl) ?_
  cases h
  exact d1_ r1_
 obtain⟨d,h⟩:=Qao h
 refine Qa a [8,.O 5 (.arr 1 (([]:List QBg).map Qg)),.S 5 (.own 5 ([]:List QBg).length),1,.x (fun σ=>σ.app 5 1 7 (([]:List QBg)++b).length ((([]:List QBg)++b).map Qg)),4,.K [2] [5],.ren 5 600] rfl (a3_ rfl rfl (Stp.appSB (by_:=24) (zs:=[.lit (.slice none 0 0)]) (e:=35) (e':=35) (z':=1) (by':=24) rfl rfl (QS a.n rfl) rfl rfl rfl Qf (by kernel_rfl) (by kernel_rfl) (by kernel_rfl) rfl (by decide) (by decide) (Qwa d Qf) rfl Qap (QbG Qf))) ?_
 cases h
 exact d1_ r1_
def Qc8 (a:QBg):Option QBg:=
 (chk (decide ((([]:List (Int×Int)).length+a.length)*16<=140737488355328))).bind fun _=>
 some (([]:List (Int×Int))++a)
theorem QmV (b){r}(h:Qc8 b=some r):Qc prog 86 [.sl 2 (b.map Qo)] [] (Gives (.own 600 r.length) [(600,.arr 2 (r.map Qo))]):=by
 refine wk_ 8 func86 fun C a=>?_
 unfold Qc8 at h
 refine tg_ a [9] ?_
 refine AK.eqNil rfl rfl rfl (QS a.n rfl) rfl rfl QFx ?_ ?_
 ·intro c
  replace h:some ([]:List (Int×Int))=some r:=by simpa [chk,List.map_eq_nil_iff.1 c] using h
  refine Qa a [10,.adopt 2 600 2,.O 600 (.arr 2 (([]:List (Int×Int)).map Qo)),.S 2 (.own 600 ([]:List (Int×Int)).length)] rfl (a2_ rfl rfl) ?_
  cases h
  exact d1_ r1_
 obtain⟨d,h⟩:=Qao h
 refine Qa a [8,.O 5 (.arr 2 (([]:List (Int×Int)).map Qo)),.S 5 (.own 5 ([]:List (Int×Int)).length),1,.x (fun σ=>σ.app 5 2 7 (([]:List (Int×Int))++b).length ((([]:List (Int×Int))++b).map Qo)),4,.K [2] [5],.ren 5 600] rfl (a3_ rfl rfl (Stp.appSB (by_:=16) (zs:=[.I 0,.I 0]) (e:=40) (e':=40) (z':=2) (by':=16) rfl rfl (QS a.n rfl) rfl rfl rfl Qf (by kernel_rfl) (by kernel_rfl) (by kernel_rfl) rfl (by decide) (by decide) (Qwa d Qf) rfl Qap (QbG Qf))) ?_
 cases h
 exact d1_ r1_
def Qh1 (e:QMk)(a:Int)(b:QMk):Option ((Int×QMk)⊕QMk):=
 bif (decide (a<(e.length:Int)))then
 (idx b a).bind fun c=>
 (Qc8 c).bind fun d=>
 (idx b a).bind fun f=>
 some (.inl ((w64 (a+1)),(b.set a.toNat d)))
 else
 some (.inr b)
def QsG (a:QMk):Option QMk:=
 some a
def Ql1 (b:QMk):Option QMk:=
 (QbY b).bind fun a=>
 (Qw (fun st=>Qh1 a st.1 st.2) (0,a)).bind (fun q=>QsG q)
theorem QsH (u){r}(h:Ql1 u=some r):Qc prog 41 [.sl 1 (u.map Qg)] [] (Gives (.own 600 r.length) [(600,.arr 1 (r.map Qg))]):=by
 refine wk_ 22 func41 fun C g=>?_
 obtain⟨k,l,h⟩:=Qb h
 refine Qa g [8,.o (.co false [.d] 1 (k.map Qg) k.length),12,.K [3,8,9,10] [7]] rfl (a1_ ⟨(Qkj _ l),Qf,.inl rfl⟩) ?_
 obtain⟨v,i,h⟩:=Qb h
 refine AK.loop (body:=(fun st=>Qh1 k st.1 st.2)) (fun st σ=>σ=⟨[(3,.own 7 st.2.length),(8,.own 7 st.2.length),(9,.I (k.length:Int)),(10,.I st.1)],[(7,.arr 1 (st.2.map Qg))]⟩) (fun q e σ=>e=.exit 0/\σ=⟨[(3,.own 7 q.length)],[(7,.arr 1 (q.map Qg))]⟩) i rfl ?_ ?_
 ·rintro ⟨m,p⟩ o σ rfl h
  refine tg_ g [6] ?_
  rcases Qp h with⟨b,h⟩|⟨b,h⟩
  ·obtain⟨s,c,h⟩:=Qb h
   obtain⟨a,j,h⟩:=Qb h
   obtain⟨t,f,h⟩:=Qb h
   refine Qa g [.T,8,.o (.row (Qg s)),8,.o (.co false [.d] 2 (a.map Qo) a.length),1,.frz 18 (a.map Qo) [18] [],.st (Qg t) ((p.set m.toNat a).map Qg),7,.S 3 (.own 7 (p.set m.toNat a).length),.S 8 (.own 7 (p.set m.toNat a).length),.K [3,8,9,10] [7]] rfl (a9_ b (QbW c rfl) (QaN (Qby c).2) ⟨(QmV _ j),Qf,.inl rfl⟩ (QbW f rfl) (a1_ (Qcd Qf)) ⟨(QaN (Qby f).2),QhQ rfl⟩ (congrArg (fun n=>V.own 7 n) (by simp)) (congrArg (fun n=>V.own 7 n) (by simp))) ?_
   cases h
   exact QR rfl rfl
  refine Qa g [.F,2,.K [3] [7]] rfl (a1_ b) ?_
  cases h
  exact QT rfl (an_ rfl rfl)
 replace h:QsG v=some r:=h
 rintro e σ ⟨rfl,rfl⟩
 refine tg_ g [9,.K [2] [7],.ren 7 600] ?_
 cases h
 exact d1_ r1_
def QbS (f:QMk)(g:QMk)(c:Int)(a:QMk):Option ((Int×QMk)⊕(Int⊕QMk)):=
 bif (decide (c<((List.replicate (min2 (f.length:Int) (g.length:Int)).toNat (([]:QBg):QBg)).length:Int)))then
 (idx f c).bind fun d=>
 (idx g c).bind fun e=>
 (Qe9 d e).bind fun b=>
 (idx a c).bind fun h=>
 bif (b.2 != 0)then
 some (.inr (.inl b.2))
 else
 some (.inl ((w64 (c+1)),(a.set c.toNat b.1)))
 else
 some (.inr (.inr a))
def QnL (a:Int):Option (QMk×Int):=
 some (([]:List QBg),a)
def QnM (a:QMk):Option (QMk×Int):=
 some (a,0)
def QdK (a:QMk)(b:QMk):Option (QMk×Int):=
 (chk (decide (0<=(min2 (a.length:Int) (b.length:Int)))&&decide ((min2 (a.length:Int) (b.length:Int))<=(min2 (a.length:Int) (b.length:Int)))&&decide ((min2 (a.length:Int) (b.length:Int))<=4294967296))).bind fun _=>
 (Qw (fun st=>QbS a b st.1 st.2) (0,(List.replicate (min2 (a.length:Int) (b.length:Int)).toNat (([]:QBg):QBg)))).bind (Sum.elim (fun q=>QnL q) (fun q=>QnM q))
theorem QnN (l p){r}(h:QdK l p=some r):Qc prog 35 [.sl 1 (l.map Qg),.sl 1 (p.map Qg),.clo (.func 24) [] []] [] (Gives (.tup [.sl 1 (r.1.map Qg),.I r.2]) []):=by
 refine wk_ 43 func35 fun C g=>?_
 obtain⟨B,h⟩:=Qao h
 refine Qa g [9,.o (.ln l.length),1,.o (.ln p.length),1,.o (.rows (List.replicate (min2 (l.length:Int) (p.length:Int)).toNat [.lit (.slice none 0 0)]))] rfl (a3_ Qf Qf ⟨B,rfl⟩) ?_
 refine AK.denilA (b:=16) [some 2] rfl (Qx3 (f:=Qg) (x:=([]:QBg)) rfl) ?_
 refine Qa g [.S 16 (.own 16 (List.replicate (min2 (l.length:Int) (p.length:Int)).toNat (([]:QBg):QBg)).length),12,.K [0,1,2,8,18,19] [16]] rfl (a1_ (by simp)) ?_
 obtain⟨D,u,h⟩:=Qb h
 refine AK.loop (body:=(fun st=>QbS l p st.1 st.2)) (fun st σ=>σ=⟨[(0,.sl 1 (l.map Qg)),(1,.sl 1 (p.map Qg)),(2,.clo (.func 24) [] []),(8,.own 16 st.2.length),(18,.I ((List.replicate (min2 (l.length:Int) (p.length:Int)).toNat (([]:QBg):QBg)).length:Int)),(19,.I st.1)],[(16,.arr 1 (st.2.map Qg))]⟩) (Sum.elim (fun q e σ=>e=.ret/\σ=⟨[(6,.lit (.slice none 0 0)),(7,.I q)],[]⟩) (fun q e σ=>e=.exit 0/\σ=⟨[(8,.own 16 q.length)],[(16,.arr 1 (q.map Qg))]⟩)) u rfl ?_ ?_
 ·rintro ⟨L,v⟩ o σ rfl h
  refine tg_ g [6] ?_
  rcases Qp h with⟨i,h⟩|⟨i,h⟩
  ·obtain⟨E,w,h⟩:=Qb h
   obtain⟨G,y,h⟩:=Qb h
   obtain⟨k,z,h⟩:=Qb h
   obtain⟨H,t,h⟩:=Qb h
   refine Qa g [.T,16,.K [0,1,2,8,9,10,18,19] [16]] rfl (a1_ i) ?_
   refine AK.draw2 Qr g mixed [.N,.N,.N,.N,.N,.a (.row (Qg E)) none false,.N,.N,.N,.a (.row (Qg G)) none false,.N,.a (.C2 (.tup [.sl 2 (k.1.map Qo),.I k.2])) none false,.a .no none true true,.N,.a .no none true,.N,.m (.st (Qg H) ((v.set L.toNat k.1).map Qg)),.m .s] [0,1,2,8,9,10,18,19] [] [0,1,2,8,10,18,19] [16] rfl rfl rfl ⟨⟨⟨⟨⟨tt_,(QE w)⟩,(QE y)⟩,(Qvm _ _ z)⟩,(QbW t rfl)⟩,⟨(QaN (Qby t).2),QhQ rfl⟩⟩ rfl (by kernel_rfl) rfl rfl rfl ?_
   refine tg_ g [7] ?_
   refine bg_ h (fun j h=>Qa g [.T,10,.K [6,7] []] rfl (a1_ j) ?_) fun j h=>Qa g [.F,7,.S 8 (.own 16 (v.set L.toNat k.1).length),.K [0,1,2,8,18,19] [16]] rfl (a2_ j (congrArg (fun n=>V.own 16 n) (by simp))) ?_
   ·cases h
    exact Q6 rfl (an_ rfl rfl)
   cases h
   exact QR rfl rfl
  refine Qa g [.F,2,.K [8] [16]] rfl (a1_ i) ?_
  cases h
  exact QT rfl (an_ rfl rfl)
 rcases D with(J | A)
 ·replace h:QnL J=some r:=h
  rintro e σ ⟨rfl,rfl⟩
  refine tg_ g [2,.denil 6 [some 1]] ?_
  cases h
  exact d2_ tt_
 replace h:QnM A=some r:=h
 rintro e σ ⟨rfl,rfl⟩
 refine Qa g [10,.frz 16 (A.map Qg) [6] []] rfl (a1_ (a1_ (Qcd Qf))) ?_
 cases h
 exact d2_ tt_
def QfU (a:Int)(b:QMk):Option ((Int×QMk)⊕QMk):=
 some (.inl ((w64 (a+1)),b))
def Qbv (d:QG)(b:Int)(a:QMk):Option ((Int×QMk)⊕QMk):=
 bif (decide (b<(d.Cancel.length:Int)))then
 (idx d.Cancel b).bind fun c=>
 bif ((decide (0<=c))&&(decide (c<(a.length:Int))))then
 (idx a c).bind fun e=>
 QfU b (a.set c.toNat ([]:List (Int×Int)))
 else
 QfU b a
 else
 some (.inr a)
def Qh2 (c:(QMk×Int))(b:QMk):Option (QMk×Int):=
 (QdK b c.1).bind fun a=>
 some (a.1,a.2)
def Qjf (d:Qq)(f:QMk)(e:Qh):Option (QMk×Int):=
 (Qkz d e).bind fun a=>
 bif (a.2 != 0)then
 some (([]:List QBg),a.2)
 else
 (Ql1 f).bind fun b=>
 (idx d.Tasks e.Task).bind fun c=>
 (Qw (fun st=>Qbv c st.1 st.2) (0,b)).bind (fun q=>Qh2 a q)
theorem Qy9 (H N J){r}(h:Qjf H N J=some r):Qc prog 12 [.agg (Qd H),.sl 1 (N.map Qg),.agg (Qi J)] [] (Gives (.tup [.sl 1 (r.1.map Qg),.I r.2]) []):=by
 refine wk_ 53 func12 fun C i=>?_
 obtain⟨s,L,h⟩:=Qb h
 refine Qa i [10,.A (Qd H),.A (Qi J),.o (.C2 (.tup [.sl 1 (s.1.map Qg),.I s.2])),14] rfl (a3_ rfl rfl (Qyd _ _ L)) ?_
 rcases Qp h with⟨t,h⟩|⟨t,h⟩
 ·refine Qa i [.T,9,.denil 6 [some 1]] rfl (a1_ t) ?_
  cases h
  exact d2_ tt_
 obtain⟨w,y,h⟩:=Qb h
 obtain⟨f,z,h⟩:=Qb h
 refine Qa i [.F,5,.o (.co false [.d] 1 (w.map Qg) w.length),10,.o (.row (Qm f)),2,.o (.ln f.Cancel.length),4,.K [8,10,30,31,32] [23]] rfl (a4_ t ⟨(QsH _ y),Qf,.inl rfl⟩ (QE z) Qf) ?_
 obtain⟨A,B,h⟩:=Qb h
 refine AK.loop (body:=(fun st=>Qbv f st.1 st.2)) (fun st σ=>σ=⟨[(8,.sl 1 (s.1.map Qg)),(10,.own 23 st.2.length),(30,.sl 1 (f.Cancel.map Qe)),(31,.I (f.Cancel.length:Int)),(32,.I st.1)],[(23,.arr 1 (st.2.map Qg))]⟩) (fun q e σ=>e=.exit 0/\σ=⟨[(8,.sl 1 (s.1.map Qg)),(10,.own 23 q.length)],[(23,.arr 1 (q.map Qg))]⟩) B rfl ?_ ?_
 ·rintro ⟨u,j⟩ o σ rfl h
  refine tg_ i [6] ?_
  refine bq_ i h [.T,2] rfl (fun k h=>?_) [.F,2,.K [8,10] [23]] rfl fun k h=>?_
  ·refine AK.meet (fun σ=>∃m:QMk,σ=⟨[(8,.sl 1 (s.1.map Qg)),(10,.own 23 m.length),(30,.sl 1 (f.Cancel.map Qe)),(31,.I (f.Cancel.length:Int)),(32,.I u)],[(23,.arr 1 (m.map Qg))]⟩/\QfU u m=some o) ?_ ?_
   ·obtain⟨a,D,h⟩:=Qb h
    refine Qa i [3,.o (.row (Qe a)),5] rfl (a1_ (QE D)) ?_
    refine AK.meetX (fun σ=>σ=⟨[(8,.sl 1 (s.1.map Qg)),(10,.own 23 j.length),(12,.I a),(30,.sl 1 (f.Cancel.map Qe)),(31,.I (f.Cancel.length:Int)),(32,.I u),(43,.b ((decide (0<=a))&&(decide (a<(j.length:Int)))))],[(23,.arr 1 (j.map Qg))]⟩) ?_ ?_
    ·refine tg_ i [4] ?_
     rcases QD (decide (0<=a))with g | g
     ·refine Qa i [.S 38 (.b true),6,.S 43 (.b ((decide (0<=a))&&(decide (a<(j.length:Int))))),.K [8,10,12,30,31,32,43] [23]] rfl ⟨(tc_ g),(congrArg V.b (Qai g rfl))⟩ ?_
      exact mt_
     refine Qa i [.S 38 (.b false),6,.S 43 (.b ((decide (0<=a))&&(decide (a<(j.length:Int))))),.K [8,10,12,30,31,32,43] [23]] rfl ⟨(tc_ g),(congrArg V.b (QaS g rfl))⟩ ?_
     exact mt_
    rintro σ rfl
    refine tg_ i [1] ?_
    rcases Qp h with⟨l,h⟩|⟨l,h⟩
    ·obtain⟨M,p,h⟩:=Qb h
     refine Qa i [.T,4,.x (fun σ=>σ.set 23 (.arr 1 ((j.set a.toNat ([]:List (Int×Int))).map Qg))),2,.S 10 (.own 23 (j.set a.toNat ([]:List (Int×Int))).length),.K [8,10,30,31,32] [23]] rfl (a4_ l (QbW p rfl) (Stp.storeNil (zz:=2) (r:=Qg M) rfl rfl rfl rfl (QaN (Qby p).2) rfl (Qr.sz rfl) rfl (QhQ rfl)) (congrArg (fun n=>V.own 23 n) (by simp))) ?_
     exact AK.met (ex_ _ (an_ rfl h))
    refine Qa i [.F,2,.K [8,10,30,31,32] [23]] rfl (a1_ l) ?_
    exact AK.met (ex_ _ (an_ rfl h))
   rintro σ ⟨m,rfl,h⟩
   refine tg_ i [4,.K [8,10,30,31,32] [23]] ?_
   cases h
   exact QR rfl rfl
  cases h
  exact QT rfl (an_ rfl rfl)
 replace h:Qh2 s A=some r:=h
 rintro e σ ⟨rfl,rfl⟩
 obtain⟨E,G,h⟩:=Qb h
 refine Qa i [6,.frz 23 (A.map Qg) [10,48] [],.cm (.fn) [] [] [] [.d,.d,.d] [] (.tup [.sl 1 (E.1.map Qg),.I E.2]),7] rfl (a2_ (a2_ (Qcd Qf) (Qcd Qf)) (QnN _ _ G)) ?_
 cases h
 exact d2_ tt_
def QdX (c:Qq)(e:QMk)(d:Qh):Option (QMk×Int):=
 (Qhl c e d).bind fun b=>
 bif (b.2 != 0)then
 some (([]:List QBg),b.2)
 else
 (Qjf c b.1 d).bind fun a=>
 some (a.1,a.2)
theorem Qnm (f k g){r}(h:QdX f k g=some r):Qc prog 16 [.agg (Qd f),.sl 1 (k.map Qg),.agg (Qi g)] [] (Gives (.tup [.sl 1 (r.1.map Qg),.I r.2]) []):=by
 refine wk_ 26 func16 fun C i=>?_
 obtain⟨l,j,h⟩:=Qb h
 refine Qa i [10,.A (Qd f),1,.A (Qi g),.o (.C3 (.tup [.sl 1 (l.1.map Qg),.I l.2])),14] rfl (a3_ rfl rfl (QsF _ _ _ j)) ?_
 rcases Qp h with⟨a,h⟩|⟨a,h⟩
 ·refine Qa i [.T,9,.denil 6 [some 1]] rfl (a1_ a) ?_
  cases h
  exact d2_ tt_
 obtain⟨b,e,h⟩:=Qb h
 refine Qa i [.F,4,.A (Qd f),1,.A (Qi g),.o (.C3 (.tup [.sl 1 (b.1.map Qg),.I b.2])),7] rfl (a4_ a rfl rfl (Qy9 _ _ _ e)) ?_
 cases h
 exact d2_ tt_
def QwU (c:Qq)(d:QMk)(e:Qh):Option (QMk×Int):=
 (Qdu c e).bind fun b=>
 bif (b.2 != 0)then
 some (([]:List QBg),b.2)
 else
 (QdK d b.1).bind fun a=>
 some (a.1,a.2)
theorem Qza (f k g){r}(h:QwU f k g=some r):Qc prog 14 [.agg (Qd f),.sl 1 (k.map Qg),.agg (Qi g)] [] (Gives (.tup [.sl 1 (r.1.map Qg),.I r.2]) []):=by
 refine wk_ 24 func14 fun C i=>?_
 obtain⟨l,j,h⟩:=Qb h
 refine Qa i [10,.A (Qd f),.A (Qi g),.o (.C2 (.tup [.sl 1 (l.1.map Qg),.I l.2])),14] rfl (a3_ rfl rfl (Qrz _ _ j)) ?_
 rcases Qp h with⟨a,h⟩|⟨a,h⟩
 ·refine Qa i [.T,9,.denil 6 [some 1]] rfl (a1_ a) ?_
  cases h
  exact d2_ tt_
 obtain⟨b,e,h⟩:=Qb h
 refine Qa i [.F,6,.cm (.fn) [] [] [] [.d,.d,.d] [] (.tup [.sl 1 (b.1.map Qg),.I b.2]),7] rfl (a2_ a (QnN _ _ e)) ?_
 cases h
 exact d2_ tt_
def QgP (e:(List Qh))(f:Qq)(b:QMk)(a:Int):Option ((QMk×Int)⊕((QMk×Int)⊕QMk)):=
 bif (decide (a<(e.length:Int)))then
 (idx e a).bind fun d=>
 (QdX f b d).bind fun c=>
 bif (c.2 != 0)then
 some (.inr (.inl (b,a)))
 else
 some (.inl (c.1,(w64 (a+1))))
 else
 some (.inr (.inr b))
def Qup (a:QMk)(b:Int):Option (QMk×Int):=
 some (a,b)
def Quq (b:(List Qh))(a:QMk):Option (QMk×Int):=
 some (a,(b.length:Int))
def Qnn (b:Qq)(c:QMk)(a:(List Qh)):Option (QMk×Int):=
 (Ql1 c).bind fun d=>
 (Qw (fun st=>QgP a b st.1 st.2) (d,0)).bind (Sum.elim (fun q=>Qup q.1 q.2) (fun q=>Quq a q))
theorem Qur (j z f){r}(h:Qnn j z f=some r):Qc prog 19 [.agg (Qd j),.sl 1 (z.map Qg),.sl 4 (f.map Qi)] [] (Gives (.tup [.sl 1 (r.1.map Qg),.I r.2]) []):=by
 refine wk_ 37 func19 fun C i=>?_
 obtain⟨s,t,h⟩:=Qb h
 refine Qa i [10,.o (.co false [.d] 1 (s.map Qg) s.length),7,.o (.ln f.length),4,.frz 13 (s.map Qg) [1] [],.K [1,2,3,14,15,16] [3]] rfl (a3_ ⟨(QsH _ t),Qf,.inl rfl⟩ Qf (a1_ (Qcd Qf))) ?_
 obtain⟨u,k,h⟩:=Qb h
 refine AK.loop (body:=(fun st=>QgP f j st.1 st.2)) (fun st σ=>σ=⟨[(1,.sl 1 (st.1.map Qg)),(2,.sl 4 (f.map Qi)),lk_ 3,(14,.sl 4 (f.map Qi)),(15,.I (f.length:Int)),(16,.I st.2)],[(3,.var (Qd j))]⟩) (Sum.elim (fun q e σ=>e=.ret/\σ=⟨[(6,.sl 1 (q.1.map Qg)),(7,.I q.2)],[]⟩) (fun q e σ=>e=.exit 0/\σ=⟨[(1,.sl 1 (q.map Qg)),(2,.sl 4 (f.map Qi))],[]⟩)) k rfl ?_ ?_
 ·rintro ⟨A,B⟩ o σ rfl h
  refine tg_ i [6] ?_
  rcases Qp h with⟨a,h⟩|⟨a,h⟩
  ·obtain⟨g,l,h⟩:=Qb h
   obtain⟨m,p,h⟩:=Qb h
   refine Qa i [.T,7,.o (.row (Qi g)),.A (Qi g),3,.O 9 (.var (Qi g)),4,.A (Qd j),1,.A (Qi g),.o (.C3 (.tup [.sl 1 (m.1.map Qg),.I m.2])),14] rfl (a7_ a (QE l) rfl rfl rfl rfl (Qnm _ _ _ p)) ?_
   refine bq_ i h [.T,12,.K [6,7] []] rfl (fun b h=>?_) [.F,12,.K [1,2,3,14,15,16] [3]] rfl fun b h=>?_
   ·cases h
    exact Q6 rfl (an_ rfl rfl)
   cases h
   exact QR rfl rfl
  refine Qa i [.F,2,.K [1,2] []] rfl (a1_ a) ?_
  cases h
  exact QT rfl (an_ rfl rfl)
 rcases u with(⟨w,x⟩|y)
 ·replace h:Qup w x=some r:=h
  rintro e σ ⟨rfl,rfl⟩
  refine tg_ i [2] ?_
  cases h
  exact d2_ tt_
 replace h:Quq f y=some r:=h
 rintro e σ ⟨rfl,rfl⟩
 refine Qa i [6,.o (.ln f.length),5] rfl (a1_ Qf) ?_
 cases h
 exact d2_ tt_
def QrA (a:Qq)(b:QG):Option (Qq×QG):=
 some (a,b)
theorem Qvn (a b){r}(h:QrA a b=some r):Qc prog 153 [.agg (Qd a),.agg (Qm b)] [] (Gives (.clo (.func 199) [] [.L 3,.L 2]) [(2,.var (Qd r.1)),(3,.var (Qm r.2))]):=by
 refine wk_ 6 func153 fun C c=>?_
 refine tg_ c [14] ?_
 cases h
 exact d1_ r2_
def QcG (a:QLL):Option QLL:=
 (chk (decide ((([]:List (List Int)).length+a.length)*24<=140737488355328))).bind fun _=>
 some (([]:List (List Int))++a)
theorem QnZ (b){r}(h:QcG b=some r):Qc prog 155 [.sl 1 (b.map Qv)] [] (Gives (.own 600 r.length) [(600,.arr 1 (r.map Qv))]):=by
 refine wk_ 8 func155 fun C a=>?_
 unfold QcG at h
 refine tg_ a [9] ?_
 refine AK.eqNil rfl rfl rfl (QS a.n rfl) rfl rfl QE8 ?_ ?_
 ·intro c
  replace h:some ([]:List (List Int))=some r:=by simpa [chk,List.map_eq_nil_iff.1 c] using h
  refine Qa a [10,.adopt 2 600 1,.O 600 (.arr 1 (([]:List (List Int)).map Qv)),.S 2 (.own 600 ([]:List (List Int)).length)] rfl (a2_ rfl rfl) ?_
  cases h
  exact d1_ r1_
 obtain⟨d,h⟩:=Qao h
 refine Qa a [8,.O 5 (.arr 1 (([]:List (List Int)).map Qv)),.S 5 (.own 5 ([]:List (List Int)).length),1,.x (fun σ=>σ.app 5 1 7 (([]:List (List Int))++b).length ((([]:List (List Int))++b).map Qv)),4,.K [2] [5],.ren 5 600] rfl (a3_ rfl rfl (Stp.appSB (by_:=24) (zs:=[.lit (.slice none 0 0)]) (e:=29) (e':=29) (z':=1) (by':=24) rfl rfl (QS a.n rfl) rfl rfl rfl Qf (by kernel_rfl) (by kernel_rfl) (by kernel_rfl) rfl (by decide) (by decide) (Qwa d Qf) rfl Qap (QbG Qf))) ?_
 cases h
 exact d1_ r1_
def QeR (a:(List Int))(b:QO):Option Bool:=
 (Qaj b a).bind fun c=>
 some (c != 0)
theorem Qpe (a e){r}(h:QeR a e=some r):Qc prog 156 [.sl 1 (a.map Qe),.L 617] [(617,.var (Qy e))] (Gives (.b r) [(617,.var (Qy e))]):=by
 refine wk_ 8 func156 fun C g=>?_
 obtain⟨i,f,h⟩:=Qb h
 refine Qa g [7,.A (Qy e),1,.o (.C2 (.I i)),5] rfl (a2_ rfl (Ql0 _ _ f)) ?_
 cases h
 exact d1_ r1_
def QaG (c:QLL)(d:QO)(a:Int):Option (Int⊕(Int⊕Unit)):=
 bif (decide (a<(c.length:Int)))then
 (idx c a).bind fun e=>
 (QeR e d).bind fun b=>
 bif b then
 some (.inr (.inl a))
 else
 some (.inl (w64 (a+1)))
 else
 some (.inr (.inr ()))
def Qf7 (a:Int):Option Int:=
 some a
def Qf8 : Option Int:=
 some (-1)
def QaZ (a:QLL)(b:QO):Option Int:=
 (Qw (fun st=>QaG a b st) 0).bind (Sum.elim (fun q=>Qf7 q) (fun q=>Qf8))
theorem QmF (c f){r}(h:QaZ c f=some r):Qc prog 190 [.own 617 c.length,.clo (.func 156) [] [.L 618]] [(617,.arr 1 (c.map Qv)),(618,.var (Qy f))] (Gives (.I r) [(617,.arr 1 (c.map Qv)),(618,.var (Qy f))]):=by
 refine wk_ 19 func190 fun C g=>?_
 refine tg_ g [14,.K [0,1,7,8] [617,618]] ?_
 obtain⟨m,j,h⟩:=Qb h
 refine AK.loop (body:=(fun st=>QaG c f st)) (fun st σ=>σ=⟨[(0,.own 617 c.length),(1,.clo (.func 156) [] [.L 618]),(7,.I (c.length:Int)),(8,.I st)],[(617,.arr 1 (c.map Qv)),(618,.var (Qy f))]⟩) (Sum.elim (fun q e σ=>e=.ret/\σ=⟨[(4,.I q)],[(617,.arr 1 (c.map Qv)),(618,.var (Qy f))]⟩) (fun q e σ=>e=.exit 0/\σ=⟨[],[(617,.arr 1 (c.map Qv)),(618,.var (Qy f))]⟩)) j rfl ?_ ?_
 ·rintro u o σ rfl h
  refine tg_ g [6] ?_
  rcases Qp h with⟨i,h⟩|⟨i,h⟩
  ·obtain⟨s,k,h⟩:=Qb h
   obtain⟨p,l,h⟩:=Qb h
   refine Qa g [.T,16,.o (.row (Qv s)),.cm (.clo) [(617,618)] [(618,617)] [] [.d,.d] [(617,.var (Qy f))] (.b p),2] rfl (a4_ i (QbW k rfl) (QaN (Qby k).2) (Qpe _ _ l)) ?_
   refine bq_ g h [.T,9,.K [4] [617,618]] rfl (fun a h=>?_) [.F,7,.K [0,1,7,8] [617,618]] rfl fun a h=>?_
   ·cases h
    exact Q6 rfl (an_ rfl rfl)
   cases h
   exact QR rfl rfl
  refine Qa g [.F,2,.K [] [617,618]] rfl (a1_ i) ?_
  cases h
  exact QT rfl (an_ rfl rfl)
 rcases m with(t | _)
 ·replace h:Qf7 t=some r:=h
  rintro e σ ⟨rfl,rfl⟩
  refine tg_ g [2] ?_
  cases h
  exact d1_ r2_
 replace h:Qf8=some r:=h
 rintro e σ ⟨rfl,rfl⟩
 refine tg_ g [8] ?_
 cases h
 exact d1_ r2_
def Qdv (a:Int)(b:Int)(c:QLL):Option ((Int×Int×QLL)⊕(Int×QLL)):=
 some (.inl (b,(w64 (a+1)),c))
def Qay (f:QO)(c:Int)(b:Int)(a:QLL):Option ((Int×Int×QLL)⊕(Int×QLL)):=
 bif (decide (b<(a.length:Int)))then
 (idx a b).bind fun d=>
 (QeR d f).bind fun e=>
 bif (!e)then
 (idx a c).bind fun g=>
 Qdv b (w64 (c+1)) (a.set c.toNat d)
 else
 Qdv b c a
 else
 some (.inr (c,a))
def Qaz (a:Int)(b:QLL):Option QLL:=
 (chk (decide (0<=a)&&decide (a.toNat<=b.length))).bind fun _=>
 (chk (decide (0<=a)&&decide (a.toNat<=(b.take a.toNat++List.replicate (b.length-a.toNat) (([]:(List Int)):(List Int))).length))).bind fun _=>
 some ((b.take a.toNat++List.replicate (b.length-a.toNat) (([]:(List Int)):(List Int))).take a.toNat)
def QaQ (a:QLL)(c:QO):Option QLL:=
 (QaZ a c).bind fun b=>
 bif (b==(-1))then
 some a
 else
 (Qw (fun st=>Qay c st.1 st.2.1 st.2.2) (b,(w64 (b+1)),a)).bind (fun q=>Qaz q.1 q.2)
theorem Ql2 (E p){r}(h:QaQ E p=some r):Qc prog 154 [.own 617 E.length,.clo (.func 156) [] [.L 618]] [(617,.arr 1 (E.map Qv)),(618,.var (Qy p))] (Gives (.own 617 r.length) [(617,.arr 1 (r.map Qv)),(618,.var (Qy p))]):=by
 refine wk_ 42 func154 fun C g=>?_
 obtain⟨O,G,h⟩:=Qb h
 refine Qa g [9,.cm (.fn) [(617,617),(618,618)] [(617,617),(618,618)] [] [.d,.d] [(617,.arr 1 (E.map Qv)),(618,.var (Qy p))] (.I O),10] rfl (a1_ (QmF _ _ G)) ?_
 refine bq_ g h [.T,8,.K [4] [617,618]] rfl (fun v h=>?_) [.F,11,.K [0,1,5,6] [617,618]] rfl fun v h=>?_
 ·cases h
  exact d1_ r2_
 obtain⟨H,z,h⟩:=Qb h
 refine AK.loop (body:=(fun st=>Qay p st.1 st.2.1 st.2.2)) (fun st σ=>σ=⟨[(0,.own 617 st.2.2.length),(1,.clo (.func 156) [] [.L 618]),(5,.I st.1),(6,.I st.2.1)],[(617,.arr 1 (st.2.2.map Qv)),(618,.var (Qy p))]⟩) (fun q e σ=>e=.exit 0/\σ=⟨[(0,.own 617 q.2.length),(5,.I q.1)],[(617,.arr 1 (q.2.map Qv)),(618,.var (Qy p))]⟩) z rfl ?_ ?_
 ·rintro ⟨M,A,B⟩ o σ rfl h
  refine tg_ g [9] ?_
  refine bq_ g h [.T,2] rfl (fun k h=>?_) [.F,2,.K [0,5] [617,618]] rfl fun k h=>?_
  ·refine AK.meet (fun σ=>∃w:Int,∃s:QLL,σ=⟨[(0,.own 617 s.length),(1,.clo (.func 156) [] [.L 618]),(5,.I w),(6,.I A)],[(617,.arr 1 (s.map Qv)),(618,.var (Qy p))]⟩/\Qdv A w s=some o) ?_ ?_
   ·obtain⟨y,t,h⟩:=Qb h
    obtain⟨J,D,h⟩:=Qb h
    refine Qa g [6,.o (.row (Qv y)),7,.cm (.clo) [(617,618)] [(618,617)] [] [.d,.d] [(617,.var (Qy p))] (.b J),3] rfl (a3_ (QbW t rfl) (QaN (Qby t).2) (Qpe _ _ D)) ?_
    rcases Qp h with⟨m,h⟩|⟨m,h⟩
    ·obtain⟨L,u,h⟩:=Qb h
     refine Qa g [.T,6,.st (Qv L) ((B.set M.toNat y).map Qv),8,.S 0 (.own 617 (B.set M.toNat y).length),.K [0,1,5,6] [617,618]] rfl (a4_ m (QbW u rfl) ⟨(QaN (Qby u).2),QhQ rfl⟩ (congrArg (fun n=>V.own 617 n) (by simp))) ?_
     exact AK.met (ex_ _ (ex_ _ (an_ rfl h)))
    refine Qa g [.F,2,.K [0,1,5,6] [617,618]] rfl (a1_ m) ?_
    exact AK.met (ex_ _ (ex_ _ (an_ rfl h)))
   rintro σ ⟨w,s,rfl,h⟩
   refine tg_ g [5,.K [0,1,5,6] [617,618]] ?_
   cases h
   exact QR rfl rfl
  cases h
  exact QT rfl (an_ rfl rfl)
 obtain⟨a,c⟩:=H
 replace h:Qaz a c=some r:=h
 rintro e σ ⟨rfl,rfl⟩
 refine tg_ g [6] ?_
 obtain⟨i,h⟩:=Qao h
 refine AK.clearTail (b:=617) (l:=a.toNat) (n:=c.length) rfl rfl rfl rfl rfl rfl (QS g.n rfl) rfl rfl Qf (Qr.es rfl) QEr rfl rfl rfl (Bnd.val rfl (Qak (Qu9 i)) rfl) (Qak (Qow i)) rfl ?_
 refine AK.denilA (b:=617) [some 1] rfl (QE4 (f:=Qv) (x:=(([]:(List Int)):(List Int))) (fun _=>rfl) rfl) ?_
 obtain⟨j,h⟩:=Qao h
 refine Qa g [.S 0 (.own 617 (c.take a.toNat++List.replicate (c.length-a.toNat) (([]:(List Int)):(List Int))).length),.S 36 (.own 617 (c.take a.toNat++List.replicate (c.length-a.toNat) (([]:(List Int)):(List Int))).length),6] rfl (a2_ (QCW (Qak (Qow i))) (QCW (Qak (Qow i)))) ?_
 have N:a.toNat=((c.take a.toNat++List.replicate (c.length-a.toNat) (([]:(List Int)):(List Int))).take a.toNat).length:=by rw [Qe0,Nat.min_eq_left (Qak (Qow j))]
 refine Qa g [.x (fun σ=>(σ.set 617 (.arr 1 (((c.take a.toNat++List.replicate (c.length-a.toNat) (([]:(List Int)):(List Int))).take a.toNat).map Qv))).put 41 (.own 617 a.toNat)),.S 41 (.own 617 ((c.take a.toNat++List.replicate (c.length-a.toNat) (([]:(List Int)):(List Int))).take a.toNat).length),4] rfl (a2_ (Stp.sliceO rfl rfl (QS g.n rfl) rfl rfl (Qr.es rfl) Bnd.no (Bnd.val rfl (Qak (Qu9 j)) rfl) (Qak (Qow j)) (by simp)) (QEX (Qak (Qow j)))) ?_
 cases h
 exact d1_ r2_
def Qf9 (a:(Int×QO)):Option Bool:=
 bif (a.1 != 0)then
 some true
 else
 (Q7 a.2).bind fun b=>
 some (b != 0)
def Qba (a:Int)(b:(List Qh)):Option ((Int×(List Qh))⊕((List Qh)⊕(List Qh))):=
 some (.inl ((w64 (a+1)),b))
def Qb2 (f:QLL)(j:(List Int))(h:(List Int))(g:Int)(k:Int)(e:Int)(a:(List Qh)):Option ((Int×(List Qh))⊕((List Qh)⊕(List Qh))):=
 bif (decide (e<(f.length:Int)))then
 (idx f e).bind fun i=>
 (QaL j).bind fun b=>
 (QaL h).bind fun c=>
 (QaL i).bind fun d=>
 (chk (decide (a.length+([(Qh.mk g b c d)]:List Qh).length<=4294967296))).bind fun _=>
 bif (((a++[(Qh.mk g b c d)]).length:Int)==k)then
 some (.inr (.inl (a++[(Qh.mk g b c d)])))
 else
 some (.inl ((w64 (e+1)),(a++[(Qh.mk g b c d)])))
 else
 some (.inr (.inr a))
def QkA (a:(List Qh)):Option ((Int×(List Qh))⊕((List Qh)⊕(List Qh))):=
 some (.inr (.inl a))
def Qga (a:Int)(b:(List Qh)):Option ((Int×(List Qh))⊕((List Qh)⊕(List Qh))):=
 Qba a b
def Qb3 (g:QLL)(d:(Int×QO))(e:QLL)(h:(List Int))(i:Int)(j:Int)(a:Int)(b:(List Qh)):Option ((Int×(List Qh))⊕((List Qh)⊕(List Qh))):=
 bif (decide (a<(g.length:Int)))then
 (idx g a).bind fun c=>
 (Q0 d.2 c).bind fun f=>
 bif (f != 0)then
 Qba a b
 else
 (Qw (fun st=>Qb2 e h c i j st.1 st.2) (0,b)).bind (Sum.elim (fun q=>QkA q) (fun q=>Qga a q))
 else
 some (.inr (.inr b))
def QkB (a:(List Qh)):Option ((List Qh)⊕(List Qh)):=
 some (.inl a)
def QkC (a:(List Qh)):Option ((List Qh)⊕(List Qh)):=
 some (.inr a)
def QcU (e:(List Qh))(f:QLL)(a:(Int×QO))(g:QLL)(h:(List Int))(i:Int)(j:Int)(b:Bool):Option ((List Qh)⊕(List Qh)):=
 bif b then
 some (.inr e)
 else
 (QcG f).bind fun c=>
 (QaQ c a.2).bind fun d=>
 (Qw (fun st=>Qb3 g a d h i j st.1 st.2) (0,e)).bind (Sum.elim (fun q=>QkB q) (fun q=>QkC q))
def QcM (e:Qq)(f:QMk)(c:Int)(g:Int)(k:(List Qh))(h:QLL)(i:QLL)(j:(List Qh))(d:(List Int)):Option ((List Qh)⊕(List Qh)):=
 (Qa9 e f c d).bind fun a=>
 (Qf9 a).bind (fun b=>QcU j i a h d c g b)
theorem QkD (lpl lpf:Nat)(y:Qq)(z:QMk)(k:Int)(w:Int)(l:(List Qh))(j:QLL)(x:QLL)(W:(List Qh))(A:(List Int)){r:((List Qh)⊕(List Qh))}(h:QcM y z k w l j x W A=some r):Qox prog lpl (QaO lpf) (QGc (.L 618) (.L 619) (.L 620) (.L 621) (.L 622) (.L 623) (.L 624) (.L 625) (.sl 1 (A.map Qe))) [(617,.lp lpl (QaO lpf) (QeC (.L 618) (.L 619) (.L 620) (.L 621) (.L 622) (.L 623) (.L 624) (.L 625)) 0),(618,.var (Qd y)),(619,.var (Qan z)),(620,.var (Qe k)),(621,.var (Qe w)),(622,.var [.own 615 l.length]),(615,.arr 4 (l.map Qi)),(623,.var (QW j)),(624,.var (QW x)),(625,.var [.own 616 W.length]),(616,.arr 4 (W.map Qi))] ((Sum.elim (fun q=>(Gives (.b false) [(615,.arr 4 (l.map Qi)),(616,.arr 4 (q.map Qi)),(617,.lp lpl (QaO lpf) (QeC (.L 618) (.L 619) (.L 620) (.L 621) (.L 622) (.L 623) (.L 624) (.L 625)) 2),(618,.var (Qd y)),(619,.var (Qan z)),(620,.var (Qe k)),(621,.var (Qe w)),(622,.var [.own 616 q.length]),(623,.var (QW j)),(624,.var (QW x)),(625,.var [.own 616 q.length])])) (fun q=>(Gives (.b true) [(615,.arr 4 (l.map Qi)),(616,.arr 4 (q.map Qi)),(617,.lp lpl (QaO lpf) (QeC (.L 618) (.L 619) (.L 620) (.L 621) (.L 622) (.L 623) (.L 624) (.L 625)) 0),(618,.var (Qd y)),(619,.var (Qan z)),(620,.var (Qe k)),(621,.var (Qe w)),(622,.var [.own 615 l.length]),(623,.var (QW j)),(624,.var (QW x)),(625,.var [.own 616 q.length])]))) r):=by
 refine Qox.walk (b:=617) 109 rfl rfl fun C i=>?_
 refine tg_ i [3] ?_
 refine AK.done (an_ rfl (ex_ _ (an_ rfl ?_)))
 obtain⟨f,Z,h⟩:=Qb h
 refine Qa i [3,.A (Qd y),3,.o (.C4 (.tup [.agg (Qy f.2),.I f.1])),5,.O 14 (.var (Qy f.2)),5] rfl (a3_ rfl (Qrv _ _ _ _ Z) rfl) ?_
 obtain⟨X,a0,h⟩:=Qb h
 replace h:QcU W x f j A k w X=some r:=h
 refine AK.meetX (fun σ=>σ=⟨[(6,.L 620),(7,.L 621),(8,.L 622),(10,.L 623),(11,.L 624),(12,.L 625),(13,.sl 1 (A.map Qe)),lk_ 14,(69,.b X)],[(14,.var (Qy f.2)),(615,.arr 4 (l.map Qi)),(616,.arr 4 (W.map Qi)),(617,.lp lpl (QaO lpf) (QeC (.L 618) (.L 619) (.L 620) (.L 621) (.L 622) (.L 623) (.L 624) (.L 625)) 1),(618,.var (Qd y)),(619,.var (Qan z)),(620,.var (Qe k)),(621,.var (Qe w)),(622,.var [.own 615 l.length]),(623,.var (QW j)),(624,.var (QW x)),(625,.var [.own 616 W.length])]⟩) ?_ ?_
 ·replace h:=a0
  refine tg_ i [4] ?_
  rcases Qp h with⟨B,h⟩|⟨B,h⟩
  ·refine Qa i [.S 65 (.b true),5,.K [6,7,8,10,11,12,13,14,69] [14,615,616,617,618,619,620,621,622,623,624,625]] rfl (tc_ B) ?_
   cases h
   exact mt_
  obtain⟨b3,a1,h⟩:=Qb h
  refine Qa i [.S 65 (.b false),.A (Qy f.2),.o (.C1 (.I b3)),3,.K [6,7,8,10,11,12,13,14,69] [14,615,616,617,618,619,620,621,622,623,624,625]] rfl ⟨⟨(tc_ B),rfl⟩,(Qkv _ a1)⟩ ?_
  cases h
  exact mt_
 rintro σ rfl
 replace h:QcU W x f j A k w X=some r:=h
 refine tg_ i [1] ?_
 rcases Qp h with⟨D,h⟩|⟨D,h⟩
 ·refine Qa i [.T,3,.K [] [615,616,617,618,619,620,621,622,623,624,625]] rfl (a1_ D) ?_
  cases h
  refine AK.done ?_
  exact ex_ _ (an_ rfl (gives rB_))
 obtain⟨a2,a3,h⟩:=Qb h
 obtain⟨g,a4,h⟩:=Qb h
 refine Qa i [.F,5,.o (.co false [.d] 1 (a2.map Qv) a2.length),1,.cm (.fn) [(617,71),(618,14)] [(71,617),(14,618)] [] [.d,.d] [(617,.arr 1 (g.map Qv)),(618,.var (Qy f.2))] (.own 617 g.length),6,.o (.ln j.length),4,.K [6,7,8,12,13,14,16,74,75,76] [14,71,615,616,617,618,619,620,621,622,623,624,625]] rfl (a4_ D ⟨(QnZ _ a3),Qf,.inl rfl⟩ (Ql2 _ _ a4) Qf) ?_
 obtain⟨b4,a5,h⟩:=Qb h
 refine AK.loop (body:=(fun st=>Qb3 j f g A k w st.1 st.2)) (fun st σ=>σ=⟨[(6,.L 620),(7,.L 621),(8,.L 622),(12,.L 625),(13,.sl 1 (A.map Qe)),lk_ 14,(16,.own 71 g.length),(74,.sl 1 (j.map Qv)),(75,.I (j.length:Int)),(76,.I st.1)],[(14,.var (Qy f.2)),(71,.arr 1 (g.map Qv)),(615,.arr 4 (l.map Qi)),(616,.arr 4 (st.2.map Qi)),(617,.lp lpl (QaO lpf) (QeC (.L 618) (.L 619) (.L 620) (.L 621) (.L 622) (.L 623) (.L 624) (.L 625)) 1),(618,.var (Qd y)),(619,.var (Qan z)),(620,.var (Qe k)),(621,.var (Qe w)),(622,.var [.own 615 l.length]),(623,.var (QW j)),(624,.var (QW x)),(625,.var [.own 616 st.2.length])]⟩) (Sum.elim (fun q e σ=>e=.ret/\σ=⟨[],[(615,.arr 4 (l.map Qi)),(616,.arr 4 (q.map Qi)),(617,.lp lpl (QaO lpf) (QeC (.L 618) (.L 619) (.L 620) (.L 621) (.L 622) (.L 623) (.L 624) (.L 625)) 1),(618,.var (Qd y)),(619,.var (Qan z)),(620,.var (Qe k)),(621,.var (Qe w)),(622,.var [.own 616 q.length]),(623,.var (QW j)),(624,.var (QW x)),(625,.var [.own 616 q.length])]⟩) (fun q e σ=>e=.exit 2/\σ=⟨[],[(615,.arr 4 (l.map Qi)),(616,.arr 4 (q.map Qi)),(617,.lp lpl (QaO lpf) (QeC (.L 618) (.L 619) (.L 620) (.L 621) (.L 622) (.L 623) (.L 624) (.L 625)) 1),(618,.var (Qd y)),(619,.var (Qan z)),(620,.var (Qe k)),(621,.var (Qe w)),(622,.var [.own 615 l.length]),(623,.var (QW j)),(624,.var (QW x)),(625,.var [.own 616 q.length])]⟩)) a5 rfl ?_ ?_
 ·rintro ⟨E,c2⟩ o σ rfl h
  refine tg_ i [6] ?_
  refine bq_ i h [.T,2] rfl (fun G h=>?_) [.F,2,.K [] [615,616,617,618,619,620,621,622,623,624,625]] rfl fun G h=>?_
  ·refine AK.meet (fun σ=>∃M:(List Qh),σ=⟨[(6,.L 620),(7,.L 621),(8,.L 622),(12,.L 625),(13,.sl 1 (A.map Qe)),lk_ 14,(16,.own 71 g.length),(74,.sl 1 (j.map Qv)),(75,.I (j.length:Int)),(76,.I E)],[(14,.var (Qy f.2)),(71,.arr 1 (g.map Qv)),(615,.arr 4 (l.map Qi)),(616,.arr 4 (M.map Qi)),(617,.lp lpl (QaO lpf) (QeC (.L 618) (.L 619) (.L 620) (.L 621) (.L 622) (.L 623) (.L 624) (.L 625)) 1),(618,.var (Qd y)),(619,.var (Qan z)),(620,.var (Qe k)),(621,.var (Qe w)),(622,.var [.own 615 l.length]),(623,.var (QW j)),(624,.var (QW x)),(625,.var [.own 616 M.length])]⟩/\Qba E M=some o) ?_ ?_
   ·obtain⟨Y,a6,h⟩:=Qb h
    obtain⟨b5,a7,h⟩:=Qb h
    refine Qa i [3,.o (.row (Qv Y)),7,.A (Qy f.2),1,.o (.C2 (.I b5)),3] rfl (a3_ (QE a6) rfl (QlZ _ _ a7)) ?_
    refine bq_ i h [.T,3,.K [6,7,8,12,13,14,16,74,75,76] [14,71,615,616,617,618,619,620,621,622,623,624,625]] rfl (fun H h=>?_) [.F,10,.K [6,7,8,12,13,14,16,18,74,75,76,84,85,86] [14,71,615,616,617,618,619,620,621,622,623,624,625]] rfl fun H h=>?_
    ·exact AK.met (ex_ _ (an_ rfl h))
    obtain⟨b6,a8,h⟩:=Qb h
    refine AK.loop (body:=(fun st=>Qb2 g A Y k w st.1 st.2)) (fun st σ=>σ=⟨[(6,.L 620),(7,.L 621),(8,.L 622),(12,.L 625),(13,.sl 1 (A.map Qe)),lk_ 14,(16,.own 71 g.length),(18,.sl 1 (Y.map Qe)),(74,.sl 1 (j.map Qv)),(75,.I (j.length:Int)),(76,.I E),(84,.own 71 g.length),(85,.I (g.length:Int)),(86,.I st.1)],[(14,.var (Qy f.2)),(71,.arr 1 (g.map Qv)),(615,.arr 4 (l.map Qi)),(616,.arr 4 (st.2.map Qi)),(617,.lp lpl (QaO lpf) (QeC (.L 618) (.L 619) (.L 620) (.L 621) (.L 622) (.L 623) (.L 624) (.L 625)) 1),(618,.var (Qd y)),(619,.var (Qan z)),(620,.var (Qe k)),(621,.var (Qe w)),(622,.var [.own 615 l.length]),(623,.var (QW j)),(624,.var (QW x)),(625,.var [.own 616 st.2.length])]⟩) (Sum.elim (fun q e σ=>e=.ret/\σ=⟨[],[(615,.arr 4 (l.map Qi)),(616,.arr 4 (q.map Qi)),(617,.lp lpl (QaO lpf) (QeC (.L 618) (.L 619) (.L 620) (.L 621) (.L 622) (.L 623) (.L 624) (.L 625)) 1),(618,.var (Qd y)),(619,.var (Qan z)),(620,.var (Qe k)),(621,.var (Qe w)),(622,.var [.own 616 q.length]),(623,.var (QW j)),(624,.var (QW x)),(625,.var [.own 616 q.length])]⟩) (fun q e σ=>e=.exit 4/\σ=⟨[(6,.L 620),(7,.L 621),(8,.L 622),(12,.L 625),(13,.sl 1 (A.map Qe)),lk_ 14,(16,.own 71 g.length),(74,.sl 1 (j.map Qv)),(75,.I (j.length:Int)),(76,.I E)],[(14,.var (Qy f.2)),(71,.arr 1 (g.map Qv)),(615,.arr 4 (l.map Qi)),(616,.arr 4 (q.map Qi)),(617,.lp lpl (QaO lpf) (QeC (.L 618) (.L 619) (.L 620) (.L 621) (.L 622) (.L 623) (.L 624) (.L 625)) 1),(618,.var (Qd y)),(619,.var (Qan z)),(620,.var (Qe k)),(621,.var (Qe w)),(622,.var [.own 615 l.length]),(623,.var (QW j)),(624,.var (QW x)),(625,.var [.own 616 q.length])]⟩)) a8 rfl ?_ ?_
    ·rintro ⟨c3,P⟩ o σ rfl h
     refine tg_ i [6] ?_
     rcases Qp h with⟨J,h⟩|⟨J,h⟩
     ·obtain⟨b7,U,h⟩:=Qb h
      obtain⟨p,a9,h⟩:=Qb h
      obtain⟨t,b0,h⟩:=Qb h
      obtain⟨u,b1,h⟩:=Qb h
      obtain⟨b2,h⟩:=Qao h
      refine Qa i [.T,7,.o (.row (Qv b7)),4,.K [6,7,8,12,13,14,16,18,20,74,75,76,84,85,86] [14,71,615,616,617,618,619,620,621,622,623,624,625]] rfl (a3_ J (QbW U rfl) (QaN (Qby U).2)) ?_
      refine AK.draw2 Qr i mixed [.N,.N,.N,.a (.cd false [.d] 1 (p.map Qe) p.length) none false,.N,.a (.cd false [.d] 1 (t.map Qe) t.length) none false,.N,.a (.cd false [.d] 1 (u.map Qe) u.length) none false,.a .no (some ([],.agg (Qi (Qh.mk k p t u)))) false,.a (.bd []) (some ([],.sl 4 (([(Qh.mk k p t u)]:List Qh).map Qi))) false,.m (.app ((P++[(Qh.mk k p t u)]).map Qi) (P++[(Qh.mk k p t u)]).length),.m .s] [] [] [6,7,8,12,13,14,16,18,74,75,76,84,85,86] [14,71,615,616,617,618,619,620,621,622,623,624,625] rfl rfl rfl ⟨⟨⟨⟨⟨⟨tt_,⟨(QcF _ a9),Qf⟩⟩,⟨(QcF _ b0),Qf⟩⟩,⟨(QcF _ b1),Qf⟩⟩,rfl⟩,rfl⟩,⟨Qf,Qbk b2 Qf,Qap,QbG Qf⟩⟩ rfl (by kernel_rfl) rfl rfl rfl ?_
      refine Qa i [.O 625 (.var [.own 616 (P++[(Qh.mk k p t u)]).length]),9] rfl (a1_ rfl) ?_
      refine bg_ h (fun L h=>Qa i [.T,4,.O 622 (.var [.own 616 (P++[(Qh.mk k p t u)]).length]),5,.K [] [615,616,617,618,619,620,621,622,623,624,625]] rfl (a2_ L rfl) ?_) fun L h=>Qa i [.F,7,.K [6,7,8,12,13,14,16,18,74,75,76,84,85,86] [14,71,615,616,617,618,619,620,621,622,623,624,625]] rfl (a1_ L) ?_
      ·cases h
       exact Q6 rfl (an_ rfl rfl)
      cases h
      exact QR rfl rfl
     refine Qa i [.F,2,.K [6,7,8,12,13,14,16,74,75,76] [14,71,615,616,617,618,619,620,621,622,623,624,625]] rfl (a1_ J) ?_
     cases h
     exact QT rfl (an_ rfl rfl)
    rcases b6 with(b8 | b9)
    ·replace h:QkA b8=some o:=h
     rintro e σ ⟨rfl,rfl⟩
     refine tg_ i [3,.K [] [615,616,617,618,619,620,621,622,623,624,625]] ?_
     cases h
     exact Q6 rfl (an_ rfl rfl)
    replace h:Qga E b9=some o:=h
    unfold Qga at h
    rintro e σ ⟨rfl,rfl⟩
    refine tg_ i [2,.K [6,7,8,12,13,14,16,74,75,76] [14,71,615,616,617,618,619,620,621,622,623,624,625]] ?_
    exact AK.met (ex_ _ (an_ rfl h))
   rintro σ ⟨M,rfl,h⟩
   refine tg_ i [4,.K [6,7,8,12,13,14,16,74,75,76] [14,71,615,616,617,618,619,620,621,622,623,624,625]] ?_
   cases h
   exact QR rfl rfl
  cases h
  exact QT rfl (an_ rfl rfl)
 rcases b4 with(c0 | c1)
 ·replace h:QkB c0=some r:=h
  rintro e σ ⟨rfl,rfl⟩
  refine tg_ i [2,.K [] [615,616,617,618,619,620,621,622,623,624,625]] ?_
  cases h
  refine AK.done ?_
  exact ex_ _ (an_ rfl (gives rB_))
 replace h:QkC c1=some r:=h
 rintro e σ ⟨rfl,rfl⟩
 refine tg_ i [2,.K [] [615,616,617,618,619,620,621,622,623,624,625]] ?_
 cases h
 refine AK.done ?_
 exact ex_ _ (an_ rfl (gives rB_))
def QaH (c:(List QF))(a:Int):Option Int:=
 (Qdq c a).bind fun b=>
 bif (!b.1)then
 some 0
 else
 (idx b.2.sizes a).bind fun d=>
 some d
theorem Qix (j k){r}(h:QaH j k=some r):Qc prog 53 [.sl 7 (j.map Qs),.I k] [] (Gives (.I r) []):=by
 refine wk_ 20 func53 fun C e=>?_
 obtain⟨f,g,h⟩:=Qb h
 refine Qa e [9,.o (.C2 (.tup [.agg (Q8 f.2),.b f.1])),5,.O 5 (.var (Q8 f.2)),10] rfl (a2_ (QnW _ _ g) rfl) ?_
 rcases Qp h with⟨a,h⟩|⟨a,h⟩
 ·refine Qa e [.T,7] rfl (a1_ a) ?_
  cases h
  exact d1_ tt_
 obtain⟨l,i,h⟩:=Qb h
 refine Qa e [.F,7,.o (.row (Qe l)),5] rfl (a2_ a (QE i)) ?_
 cases h
 exact d1_ tt_
def Qno (a:(List Qh)):Option (((List Int)×(List Qh))⊕((List Qh)⊕(List Qh))):=
 some (.inr (.inr a))
def QfI (at_25:Int)(a:(List Int))(f:QG)(b:Qq):Option Bool:=
 bif (decide (0<=at_25))then
 (idx a at_25).bind fun c=>
 (idx f.Vars at_25).bind fun d=>
 (QaH b.Colours d.Colour).bind fun e=>
 some (decide (e<=(w64 (c+1))))
 else
 some false
def Qeg (a:(List Int))(at_25:Int)(b:Bool):Option ((Int×(List Int))⊕(Int×(List Int))):=
 bif b then
 (idx a at_25).bind fun c=>
 some (.inl ((w64 (at_25-1)),(a.set at_25.toNat 0)))
 else
 some (.inr (at_25,a))
def Qav (d:QG)(b:Qq)(at_25:Int)(a:(List Int)):Option ((Int×(List Int))⊕(Int×(List Int))):=
 (QfI at_25 a d b).bind (fun c=>Qeg a at_25 c)
def Qc9 (b:(List Qh))(at_29:Int)(a:(List Int)):Option (((List Int)×(List Qh))⊕((List Qh)⊕(List Qh))):=
 bif (decide (at_29<0))then
 some (.inr (.inl b))
 else
 (idx a at_29).bind fun c=>
 (idx a at_29).bind fun d=>
 some (.inl ((a.set at_29.toNat (w64 (c+1))),b))
def Qda (d:QG)(b:Qq)(a:(List Int))(c:(List Qh)):Option (((List Int)×(List Qh))⊕((List Qh)⊕(List Qh))):=
 (Qw (fun st=>Qav d b st.1 st.2) ((w64 ((a.length:Int)-1)),a)).bind (fun q=>Qc9 c q.1 q.2)
def Qdb (e:Qq)(f:QMk)(g:Int)(h:Int)(i:(List Qh))(j:QLL)(k:QLL)(l:QG)(b:Qq)(a:(List Int))(c:(List Qh)):Option (((List Int)×(List Qh))⊕((List Qh)⊕(List Qh))):=
 (QaL a).bind fun d=>
 (QcM e f g h i j k c d).bind (Sum.elim (fun q=>Qno q) (fun q=>Qda l b a q))
def Qnp (a:(List Qh)):Option ((List Qh)⊕(List Qh)):=
 some (.inl a)
def Qnq (a:(List Qh)):Option ((List Qh)⊕(List Qh)):=
 some (.inr a)
def Qet (c:Qq)(d:QMk)(e:Int)(f:Int)(g:(List Qh))(h:QLL)(i:QLL)(j:(List Qh))(a:QG)(b:Qq):Option ((List Qh)⊕(List Qh)):=
 (chk (decide (0<=(a.Vars.length:Int))&&decide ((a.Vars.length:Int)<=(a.Vars.length:Int))&&decide ((a.Vars.length:Int)<=4294967296))).bind fun _=>
 (Qw (fun st=>Qdb c d e f g h i a b st.1 st.2) ((List.replicate (a.Vars.length:Int).toNat (0:Int)),j)).bind (Sum.elim (fun q=>Qnp q) (fun q=>Qnq q))
theorem Qnr (lpl lpf:Nat)(m:Qq)(p:QMk)(s:Int)(t:Int)(j:(List Qh))(u:QLL)(v:QLL)(l8:(List Qh))(l:QG)(f:Qq){r:((List Qh)⊕(List Qh))}(h:Qet m p s t j u v l8 l f=some r):Qc prog 199 [.clo (.yield lpl) [] [],.L 626,.L 627] [(617,.lp lpl (QaO lpf) (QeC (.L 618) (.L 619) (.L 620) (.L 621) (.L 622) (.L 623) (.L 624) (.L 625)) 0),(618,.var (Qd m)),(619,.var (Qan p)),(620,.var (Qe s)),(621,.var (Qe t)),(622,.var [.own 615 j.length]),(615,.arr 4 (j.map Qi)),(623,.var (QW u)),(624,.var (QW v)),(625,.var [.own 616 l8.length]),(616,.arr 4 (l8.map Qi)),(626,.var (Qm l)),(627,.var (Qd f))] ((Sum.elim (fun q=>(Gives (.tup []) [(615,.arr 4 (j.map Qi)),(616,.arr 4 (q.map Qi)),(617,.lp lpl (QaO lpf) (QeC (.L 618) (.L 619) (.L 620) (.L 621) (.L 622) (.L 623) (.L 624) (.L 625)) 0),(618,.var (Qd m)),(619,.var (Qan p)),(620,.var (Qe s)),(621,.var (Qe t)),(622,.var [.own 615 j.length]),(623,.var (QW u)),(624,.var (QW v)),(625,.var [.own 616 q.length]),(626,.var (Qm l)),(627,.var (Qd f))])) (fun q=>(Gives (.tup []) [(615,.arr 4 (j.map Qi)),(616,.arr 4 (q.map Qi)),(617,.lp lpl (QaO lpf) (QeC (.L 618) (.L 619) (.L 620) (.L 621) (.L 622) (.L 623) (.L 624) (.L 625)) 2),(618,.var (Qd m)),(619,.var (Qan p)),(620,.var (Qe s)),(621,.var (Qe t)),(622,.var [.own 616 q.length]),(623,.var (QW u)),(624,.var (QW v)),(625,.var [.own 616 q.length]),(626,.var (Qm l)),(627,.var (Qd f))]))) r):=by
 refine wk_ 50 func199 fun C k=>?_
 obtain⟨W,h⟩:=Qao h
 refine Qa k [4,.o (.ln l.Vars.length),.o (.rows ((List.replicate (l.Vars.length:Int).toNat (0:Int)).map Qe)),.S 9 (.own 9 (List.replicate (l.Vars.length:Int).toNat (0:Int)).length),4,.K [0,1,2,4] [9,615,616,617,618,619,620,621,622,623,624,625,626,627]] rfl (a3_ Qf ⟨W,QAm rfl⟩ (by simp)) ?_
 obtain⟨a4,X,h⟩:=Qb h
 refine AK.loop (body:=(fun st=>Qdb m p s t j u v l f st.1 st.2)) (fun st σ=>σ=⟨[(0,.clo (.yield lpl) [] []),(1,.L 626),(2,.L 627),(4,.own 9 st.1.length)],[(9,.arr 1 (st.1.map Qe)),(615,.arr 4 (j.map Qi)),(616,.arr 4 (st.2.map Qi)),(617,.lp lpl (QaO lpf) (QeC (.L 618) (.L 619) (.L 620) (.L 621) (.L 622) (.L 623) (.L 624) (.L 625)) 0),(618,.var (Qd m)),(619,.var (Qan p)),(620,.var (Qe s)),(621,.var (Qe t)),(622,.var [.own 615 j.length]),(623,.var (QW u)),(624,.var (QW v)),(625,.var [.own 616 st.2.length]),(626,.var (Qm l)),(627,.var (Qd f))]⟩) (Sum.elim (fun q e σ=>e=.ret/\σ=⟨[],[(615,.arr 4 (j.map Qi)),(616,.arr 4 (q.map Qi)),(617,.lp lpl (QaO lpf) (QeC (.L 618) (.L 619) (.L 620) (.L 621) (.L 622) (.L 623) (.L 624) (.L 625)) 0),(618,.var (Qd m)),(619,.var (Qan p)),(620,.var (Qe s)),(621,.var (Qe t)),(622,.var [.own 615 j.length]),(623,.var (QW u)),(624,.var (QW v)),(625,.var [.own 616 q.length]),(626,.var (Qm l)),(627,.var (Qd f))]⟩) (fun q e σ=>e=.ret/\σ=⟨[],[(615,.arr 4 (j.map Qi)),(616,.arr 4 (q.map Qi)),(617,.lp lpl (QaO lpf) (QeC (.L 618) (.L 619) (.L 620) (.L 621) (.L 622) (.L 623) (.L 624) (.L 625)) 2),(618,.var (Qd m)),(619,.var (Qan p)),(620,.var (Qe s)),(621,.var (Qe t)),(622,.var [.own 616 q.length]),(623,.var (QW u)),(624,.var (QW v)),(625,.var [.own 616 q.length]),(626,.var (Qm l)),(627,.var (Qd f))]⟩)) X rfl ?_ ?_
 ·rintro ⟨Y,b4⟩ o σ rfl h
  obtain⟨L,Z,h⟩:=Qb h
  obtain⟨a5,D,h⟩:=Qb h
  refine Qa k [6,.o (.co true [.o (Y.map Qe)] 1 (L.map Qe) L.length),.frz 12 (L.map Qe) [12] []] rfl (a2_ ⟨(Qv7 rfl),⟨(QcF _ Z),Qf,.inr (QCY _)⟩⟩ (a1_ (Qcd Qf))) ?_
  rcases a5 with(w | i)
  ·replace h:Qno w=some o:=h
   refine Qa k [.x (fun σ=>(σ.after [615,616] [(615,.arr 4 (j.map Qi)),(616,.arr 4 (w.map Qi)),(617,.lp lpl (QaO lpf) (QeC (.L 618) (.L 619) (.L 620) (.L 621) (.L 622) (.L 623) (.L 624) (.L 625)) 2),(618,.var (Qd m)),(619,.var (Qan p)),(620,.var (Qe s)),(621,.var (Qe t)),(622,.var [.own 616 w.length]),(623,.var (QW u)),(624,.var (QW v)),(625,.var [.own 616 w.length])]).put 13 (.b false)),7,.K [] [615,616,617,618,619,620,621,622,623,624,625,626,627]] rfl (a1_ (Stp.yieldV (b:=617) (M:=[(617,617),(618,618),(619,619),(620,620),(621,621),(622,622),(615,615),(623,623),(624,624),(625,625),(616,616)]) (N:=[(615,615),(616,616),(617,617),(618,618),(619,619),(620,620),(621,621),(622,622),(623,623),(624,624),(625,625)]) (dead:=[615,616]) (ms:=[.d,.d,.d,.d,.d,.d,.d,.d,.d,.d,.d,.d,.d,.d,.d,.d,.d,.d,.d,.d,.d,.d,.d,.d,.d,.d,.d,.d,.d,.d,.d,.d,.d,.d,.d,.d,.d,.d,.d,.d,.d,.d,.d,.d,.d,.d,.d,.d,.d,.d,.d,.d,.d,.d,.d,.d,.d,.d,.d,.d,.d,.d,.d,.d,.d,.d,.d,.d,.d,.d,.d,.d,.d,.d,.d,.d,.d,.d,.d,.d,.d,.d,.d,.d,.d,.d,.d,.d,.d,.d,.d,.d,.d,.d,.d,.d,.d,.d,.d,.d,.d,.d,.d,.d,.d,.d,.d,.d,.d]) (outs:=[(615,.arr 4 (j.map Qi)),(616,.arr 4 (w.map Qi)),(617,.lp lpl (QaO lpf) (QeC (.L 618) (.L 619) (.L 620) (.L 621) (.L 622) (.L 623) (.L 624) (.L 625)) 2),(618,.var (Qd m)),(619,.var (Qan p)),(620,.var (Qe s)),(621,.var (Qe t)),(622,.var [.own 616 w.length]),(623,.var (QW u)),(624,.var (QW v)),(625,.var [.own 616 w.length])]) (r:=.b false) rfl rfl rfl rfl rfl rfl rfl (QS k.n rfl) k.g rfl rfl (QkD _ _ _ _ _ _ _ _ _ _ _ D))) ?_
   cases h
   exact Q6 rfl (an_ rfl rfl)
  replace h:Qda l f Y i=some o:=h
  refine Qa k [.x (fun σ=>(σ.after [615,616] [(615,.arr 4 (j.map Qi)),(616,.arr 4 (i.map Qi)),(617,.lp lpl (QaO lpf) (QeC (.L 618) (.L 619) (.L 620) (.L 621) (.L 622) (.L 623) (.L 624) (.L 625)) 0),(618,.var (Qd m)),(619,.var (Qan p)),(620,.var (Qe s)),(621,.var (Qe t)),(622,.var [.own 615 j.length]),(623,.var (QW u)),(624,.var (QW v)),(625,.var [.own 616 i.length])]).put 13 (.b true)),16,.K [0,1,2,4,5] [9,615,616,617,618,619,620,621,622,623,624,625,626,627]] rfl (a1_ (Stp.yieldV (b:=617) (M:=[(617,617),(618,618),(619,619),(620,620),(621,621),(622,622),(615,615),(623,623),(624,624),(625,625),(616,616)]) (N:=[(615,615),(616,616),(617,617),(618,618),(619,619),(620,620),(621,621),(622,622),(623,623),(624,624),(625,625)]) (dead:=[615,616]) (ms:=[.d,.d,.d,.d,.d,.d,.d,.d,.d,.d,.d,.d,.d,.d,.d,.d,.d,.d,.d,.d,.d,.d,.d,.d,.d,.d,.d,.d,.d,.d,.d,.d,.d,.d,.d,.d,.d,.d,.d,.d,.d,.d,.d,.d,.d,.d,.d,.d,.d,.d,.d,.d,.d,.d,.d,.d,.d,.d,.d,.d,.d,.d,.d,.d,.d,.d,.d,.d,.d,.d,.d,.d,.d,.d,.d,.d,.d,.d,.d,.d,.d,.d,.d,.d,.d,.d,.d,.d,.d,.d,.d,.d,.d,.d,.d,.d,.d,.d,.d,.d,.d,.d,.d,.d,.d,.d,.d,.d,.d]) (outs:=[(615,.arr 4 (j.map Qi)),(616,.arr 4 (i.map Qi)),(617,.lp lpl (QaO lpf) (QeC (.L 618) (.L 619) (.L 620) (.L 621) (.L 622) (.L 623) (.L 624) (.L 625)) 0),(618,.var (Qd m)),(619,.var (Qan p)),(620,.var (Qe s)),(621,.var (Qe t)),(622,.var [.own 615 j.length]),(623,.var (QW u)),(624,.var (QW v)),(625,.var [.own 616 i.length])]) (r:=.b true) rfl rfl rfl rfl rfl rfl rfl (QS k.n rfl) k.g rfl rfl (QkD _ _ _ _ _ _ _ _ _ _ _ D))) ?_
  obtain⟨a6,a0,h⟩:=Qb h
  refine AK.loop (body:=(fun st=>Qav l f st.1 st.2)) (fun st σ=>σ=⟨[(0,.clo (.yield lpl) [] []),(1,.L 626),(2,.L 627),(4,.own 9 st.2.length),(5,.I st.1)],[(9,.arr 1 (st.2.map Qe)),(615,.arr 4 (j.map Qi)),(616,.arr 4 (i.map Qi)),(617,.lp lpl (QaO lpf) (QeC (.L 618) (.L 619) (.L 620) (.L 621) (.L 622) (.L 623) (.L 624) (.L 625)) 0),(618,.var (Qd m)),(619,.var (Qan p)),(620,.var (Qe s)),(621,.var (Qe t)),(622,.var [.own 615 j.length]),(623,.var (QW u)),(624,.var (QW v)),(625,.var [.own 616 i.length]),(626,.var (Qm l)),(627,.var (Qd f))]⟩) (fun q e σ=>e=.exit 2/\σ=⟨[(0,.clo (.yield lpl) [] []),(1,.L 626),(2,.L 627),(4,.own 9 q.2.length),(5,.I q.1)],[(9,.arr 1 (q.2.map Qe)),(615,.arr 4 (j.map Qi)),(616,.arr 4 (i.map Qi)),(617,.lp lpl (QaO lpf) (QeC (.L 618) (.L 619) (.L 620) (.L 621) (.L 622) (.L 623) (.L 624) (.L 625)) 0),(618,.var (Qd m)),(619,.var (Qan p)),(620,.var (Qe s)),(621,.var (Qe t)),(622,.var [.own 615 j.length]),(623,.var (QW u)),(624,.var (QW v)),(625,.var [.own 616 i.length]),(626,.var (Qm l)),(627,.var (Qd f))]⟩) a0 rfl ?_ ?_
  ·rintro ⟨at_25,y⟩ o σ rfl h
   refine tg_ k [2] ?_
   obtain⟨O,a1,h⟩:=Qb h
   replace h:Qeg y at_25 O=some o:=h
   refine AK.meetX (fun σ=>σ=⟨[(0,.clo (.yield lpl) [] []),(1,.L 626),(2,.L 627),(4,.own 9 y.length),(5,.I at_25),(36,.b O)],[(9,.arr 1 (y.map Qe)),(615,.arr 4 (j.map Qi)),(616,.arr 4 (i.map Qi)),(617,.lp lpl (QaO lpf) (QeC (.L 618) (.L 619) (.L 620) (.L 621) (.L 622) (.L 623) (.L 624) (.L 625)) 0),(618,.var (Qd m)),(619,.var (Qan p)),(620,.var (Qe s)),(621,.var (Qe t)),(622,.var [.own 615 j.length]),(623,.var (QW u)),(624,.var (QW v)),(625,.var [.own 616 i.length]),(626,.var (Qm l)),(627,.var (Qd f))]⟩) ?_ ?_
   ·replace h:=a1
    refine tg_ k [.K [0,1,2,4,5] [9,615,616,617,618,619,620,621,622,623,624,625,626,627]] ?_
    rcases Qp h with⟨z,h⟩|⟨z,h⟩
    ·obtain⟨a7,E,h⟩:=Qb h
     obtain⟨a8,a2,h⟩:=Qb h
     obtain⟨a9,a3,h⟩:=Qb h
     refine AK.draw2 Qr k mixed [.N,.N,.a .no (some ([],.b true)) false,.N,.N,.N,.a (.row (Qe a7)) none false,.N,.N,.N,.N,.N,.N,.a (.row (QP a8)) none false,.N,.N,.a (.C2 (.I a9)) none false,.N,.N] [] [] [0,1,2,4,5,36] [9,615,616,617,618,619,620,621,622,623,624,625,626,627] rfl rfl rfl ⟨⟨⟨⟨(tc_ z),(QbW E rfl)⟩,(QaN (Qby E).2)⟩,(QE a2)⟩,(Qix _ _ a3)⟩ rfl (by kernel_rfl) rfl rfl rfl ?_
     refine tg_ k [.K [0,1,2,4,5,36] [9,615,616,617,618,619,620,621,622,623,624,625,626,627]] ?_
     cases h
     exact mt_
    refine AK.draw2 Qr k mixed [.N,.N,.a .no (some ([],.b false)) false,.N,.N,.N,.N,.N,.N,.N,.N,.N,.N,.N,.N,.N,.N,.N,.N] [] [] [0,1,2,4,5,36] [9,615,616,617,618,619,620,621,622,623,624,625,626,627] rfl rfl rfl (tc_ z) rfl (by kernel_rfl) rfl rfl rfl ?_
    refine tg_ k [.K [0,1,2,4,5,36] [9,615,616,617,618,619,620,621,622,623,624,625,626,627]] ?_
    cases h
    exact mt_
   rintro σ rfl
   replace h:Qeg y at_25 O=some o:=h
   refine tg_ k [1] ?_
   rcases Qp h with⟨A,h⟩|⟨A,h⟩
   ·obtain⟨b0,G,h⟩:=Qb h
    refine Qa k [.T,8,.st (Qe b0) ((y.set at_25.toNat 0).map Qe),8,.S 4 (.own 9 (y.set at_25.toNat 0).length),.K [0,1,2,4,5] [9,615,616,617,618,619,620,621,622,623,624,625,626,627]] rfl (a4_ A (QbW G rfl) ⟨(QaN (Qby G).2),QhQ rfl⟩ (congrArg (fun n=>V.own 9 n) (by simp))) ?_
    cases h
    exact QR rfl rfl
   refine Qa k [.F,2,.K [0,1,2,4,5] [9,615,616,617,618,619,620,621,622,623,624,625,626,627]] rfl (a1_ A) ?_
   cases h
   exact QT rfl (an_ rfl rfl)
  obtain⟨at_29,P⟩:=a6
  replace h:Qc9 i at_29 P=some o:=h
  rintro e σ ⟨rfl,rfl⟩
  refine tg_ k [9] ?_
  rcases Qp h with⟨B,h⟩|⟨B,h⟩
  ·refine Qa k [.T,3,.K [] [615,616,617,618,619,620,621,622,623,624,625,626,627]] rfl (a1_ B) ?_
   cases h
   exact Q6 rfl (an_ rfl rfl)
  obtain⟨U,H,h⟩:=Qb h
  obtain⟨b1,J,h⟩:=Qb h
  refine Qa k [.F,6,.o (.row (Qe U)),2,.st (Qe b1) ((P.set at_29.toNat (w64 (U+1))).map Qe),2,.S 4 (.own 9 (P.set at_29.toNat (w64 (U+1))).length),.K [0,1,2,4] [9,615,616,617,618,619,620,621,622,623,624,625,626,627]] rfl (a6_ B (QbW H rfl) (QaN (Qby H).2) (QbW J rfl) ⟨(QaN (Qby J).2),QhQ rfl⟩ (congrArg (fun n=>V.own 9 n) (by simp))) ?_
  cases h
  exact QR rfl rfl
 rcases a4 with(b2 | b3)
 ·replace h:Qnp b2=some r:=h
  rintro e σ ⟨rfl,rfl⟩
  refine tg_ k [1,.K [] [615,616,617,618,619,620,621,622,623,624,625,626,627]] ?_
  cases h
  refine AK.done ?_
  exact ex_ [] (an_ tt_ (gives rD_))
 replace h:Qnq b3=some r:=h
 rintro e σ ⟨rfl,rfl⟩
 refine tg_ k [1,.K [] [615,616,617,618,619,620,621,622,623,624,625,626,627]] ?_
 cases h
 refine AK.done ?_
 exact ex_ [] (an_ tt_ (gives rD_))
def QrB (a:(List Qh)):Option (List Qh):=
 some a
def QrC (a:(List Qh)):Option (List Qh):=
 some a
def Qeh (e:Qq)(h:QMk)(a:Int)(b:Int):Option (List Qh):=
 bif ((decide (a<0))||((decide ((e.Tasks.length:Int)<=a))||(decide (b<1))))then
 some ([]:List Qh)
 else
 (idx e.Tasks a).bind fun c=>
 (QaF c.Join (c.Ins.length:Int)).bind fun f=>
 (QaF c.Split (c.Outs.length:Int)).bind fun g=>
 (QrA e c).bind fun d=>
 (Qet e h a b ([]:List Qh) f g ([]:List Qh) d.2 d.1).bind (Sum.elim (fun q=>QrB q) (fun q=>QrC q))
theorem Qye (k y c e){r}(h:Qeh k y c e=some r):Qc prog 88 [.agg (Qd k),.sl 1 (y.map Qg),.I c,.I e] [] (Gives (.sl 4 (r.map Qi)) []):=by
 refine Qc.walkR 109 func88 rfl ntmps88 rfl fun C f hR=>?_
 unfold Qeh at h
 refine tg_ f [11] ?_
 refine AK.meetX (fun σ=>σ=⟨[lk_ 4,lk_ 5,lk_ 6,lk_ 7,lk_ 8,(33,.b ((decide (c<0))||((decide ((k.Tasks.length:Int)<=c))||(decide (e<1)))))],[(4,.var (Qd k)),(5,.var (Qan y)),(6,.var (Qe c)),(7,.var (Qe e)),(8,.var [.lit (.slice none 0 0)])]⟩) ?_ ?_
 ·refine tg_ f [4] ?_
  rcases QD (decide (c<0))with g | g
  ·refine Qa f [.S 23 (.b true),11,.S 33 (.b ((decide (c<0))||((decide ((k.Tasks.length:Int)<=c))||(decide (e<1))))),.K [4,5,6,7,8,33] [4,5,6,7,8]] rfl ⟨(tc_ g),(congrArg V.b (orT g rfl))⟩ ?_
   exact mt_
  refine Qa f [.S 23 (.b false),3,.o (.ln k.Tasks.length),3] rfl ⟨(tc_ g),Qf⟩ ?_
  rcases QD (decide ((k.Tasks.length:Int)<=c))with l | l
  ·refine Qa f [.S 30 (.b true),4,.S 33 (.b ((decide (c<0))||((decide ((k.Tasks.length:Int)<=c))||(decide (e<1))))),.K [4,5,6,7,8,33] [4,5,6,7,8]] rfl ⟨(tc_ l),(congrArg V.b (orF g (orT l rfl)))⟩ ?_
   exact mt_
  refine Qa f [.S 30 (.b false),4,.S 33 (.b ((decide (c<0))||((decide ((k.Tasks.length:Int)<=c))||(decide (e<1))))),.K [4,5,6,7,8,33] [4,5,6,7,8]] rfl ⟨(tc_ l),(congrArg V.b (orF g (orF l rfl)))⟩ ?_
  exact mt_
 rintro σ rfl
 refine tg_ f [1] ?_
 rcases Qp h with⟨p,h⟩|⟨p,h⟩
 ·refine Qa f [.T,3,.O 8 (.var [.lit (.slice none 0 0)]),4,.denilO 8 [some 4],.O 8 (.var (Qx6 ([]:List Qh))),.K [8] [8]] rfl (a3_ p rfl rfl) ?_
  cases h
  exact AK.done (ex_ [_] (an_ (an_ (ex_ _ (ex_ _ (an_ rfl (an_ rfl (Or.inr (an_ (Qr.ag rfl) rfl)))))) tt_) (gives tt_)))
 obtain⟨i,z,h⟩:=Qb h
 obtain⟨q,A,h⟩:=Qb h
 obtain⟨t,B,h⟩:=Qb h
 refine Qa f [.F,7,.o (.row (Qm i)),.A (Qm i),2,.O 9 (.var (Qm i)),3,.K [4,5,6,7,8,9] [4,5,6,7,8,9]] rfl (a4_ p (QE z) rfl rfl) ?_
 refine AK.draw2 Qr f mixed [.N,.N,.N,.N,.a (.ln i.Ins.length) none false,.a (.cd false [.d,.d] 1 (q.map Qv) q.length) none false,.N,.N,.N,.N,.a (.ln i.Outs.length) none false,.a (.cd false [.d,.d] 1 (t.map Qv) t.length) none false,.N,.N,.m .s,.m .s] [] [] [4,5,6,7,8,9,10,11] [4,5,6,7,8,9,10,11] rfl rfl rfl ⟨⟨⟨⟨tt_,Qf⟩,⟨(QlK _ _ A),Qf⟩⟩,Qf⟩,⟨(QlK _ _ B),Qf⟩⟩ rfl (by kernel_rfl) rfl rfl rfl ?_
 obtain⟨j,D,h⟩:=Qb h
 refine Qa f [.O 10 (.var (QW q)),.O 11 (.var (QW t)),9,.A (Qd k),.A (Qm i),.cm (.fn) [] [(53,2),(610,3)] [] [.d,.d] [(2,.var (Qd j.1)),(3,.var (Qm j.2))] (.clo (.func 199) [] [.L 3,.L 2]),3,.K [4,5,6,7,8,10,11,12,53] [4,5,6,7,8,10,11,12,53,610]] rfl (a5_ rfl rfl rfl rfl (Qvn _ _ D)) ?_
 obtain⟨E,x,h⟩:=Qb h
 refine Qa f [.adoptO 8 0 608 4,.O 608 (.arr 4 (([]:List Qh).map Qi)),.O 8 (.var [.own 608 ([]:List Qh).length]),.adoptO 12 0 609 4,.O 609 (.arr 4 (([]:List Qh).map Qi)),.O 12 (.var [.own 609 ([]:List Qh).length])] rfl (a4_ rfl rfl rfl rfl) ?_
 rcases E with(u | w)
 ·replace h:QrB u=some r:=h
  refine AK.rangeF 614 [4,5,6,7,8,10,11,12] [(617,614),(618,4),(619,5),(620,6),(621,7),(622,8),(615,608),(623,10),(624,11),(625,12),(616,609),(626,610),(627,53)] [(608,615),(609,616),(614,617),(4,618),(5,619),(6,620),(7,621),(8,622),(10,623),(11,624),(12,625),(610,626),(53,627)] [608,609] [.d,.d,.d] QaO f hR (fun _=>rfl) rfl rfl rfl rfl fun lpl lpf=>?_
  refine ex_ [(615,.arr 4 (([]:List Qh).map Qi)),(616,.arr 4 (u.map Qi)),(617,.lp lpl (QaO lpf) (QeC (.L 618) (.L 619) (.L 620) (.L 621) (.L 622) (.L 623) (.L 624) (.L 625)) 0),(618,.var (Qd k)),(619,.var (Qan y)),(620,.var (Qe c)),(621,.var (Qe e)),(622,.var [.own 615 ([]:List Qh).length]),(623,.var (QW q)),(624,.var (QW t)),(625,.var [.own 616 u.length]),(626,.var (Qm j.2)),(627,.var (Qd j.1))] (ex_ (.tup []) (ex_ _ (ex_ _ (ex_ (QeC (.L 4) (.L 5) (.L 6) (.L 7) (.L 8) (.L 10) (.L 11) (.L 12)) (ex_ 0 (an_ rfl ?_))))))
  refine an_ (Qnr _ _ _ _ _ _ _ _ _ _ _ _ x) (an_ rfl (an_ (bne_iff_ne.1 (show(0 != 1)=true from rfl)) ?_))
  refine QE2 rfl ?_
  refine Qa f [6,.O 8 (.var [.own 609 u.length]),3,.frz 609 (u.map Qi) [] [8],.K [8] [8]] rfl (a2_ rfl (a1_ ⟨(Qcd Qf),tt_⟩)) ?_
  cases h
  exact AK.done (ex_ [_] (an_ (an_ (ex_ _ (ex_ _ (an_ rfl (an_ rfl (Or.inr (an_ (Qr.ag rfl) rfl)))))) tt_) (gives tt_)))
 replace h:QrC w=some r:=h
 refine AK.rangeF 614 [4,5,6,7,8,10,11,12] [(617,614),(618,4),(619,5),(620,6),(621,7),(622,8),(615,608),(623,10),(624,11),(625,12),(616,609),(626,610),(627,53)] [(608,615),(609,616),(614,617),(4,618),(5,619),(6,620),(7,621),(8,622),(10,623),(11,624),(12,625),(610,626),(53,627)] [608,609] [.d,.d,.d] QaO f hR (fun _=>rfl) rfl rfl rfl rfl fun lpl lpf=>?_
 refine ex_ [(615,.arr 4 (([]:List Qh).map Qi)),(616,.arr 4 (w.map Qi)),(617,.lp lpl (QaO lpf) (QeC (.L 618) (.L 619) (.L 620) (.L 621) (.L 622) (.L 623) (.L 624) (.L 625)) 2),(618,.var (Qd k)),(619,.var (Qan y)),(620,.var (Qe c)),(621,.var (Qe e)),(622,.var [.own 616 w.length]),(623,.var (QW q)),(624,.var (QW t)),(625,.var [.own 616 w.length]),(626,.var (Qm j.2)),(627,.var (Qd j.1))] (ex_ (.tup []) (ex_ _ (ex_ _ (ex_ (QeC (.L 4) (.L 5) (.L 6) (.L 7) (.L 8) (.L 10) (.L 11) (.L 12)) (ex_ 2 (an_ rfl ?_))))))
 refine an_ (Qnr _ _ _ _ _ _ _ _ _ _ _ _ x) (an_ rfl (an_ (bne_iff_ne.1 (show(2 != 1)=true from rfl)) ?_))
 refine QF8 rfl ?_
 refine Qa f [3,.frz 609 (w.map Qi) [] [8],.K [8] [8]] rfl (a1_ (a1_ ⟨(Qcd Qf),tt_⟩)) ?_
 cases h
 exact AK.done (ex_ [_] (an_ (an_ (ex_ _ (ex_ _ (an_ rfl (an_ rfl (Or.inr (an_ (Qr.ag rfl) rfl)))))) tt_) (gives tt_)))
def QdD (e:Qq)(f:QMk)(a:Int)(d:Int)(c:(List Qh)):Option ((Int×(List Qh))⊕(List Qh)):=
 bif (decide (d<(e.Tasks.length:Int)))then
 (Qeh e f d (w64 (a-(c.length:Int)))).bind fun b=>
 (chk (decide (c.length+b.length<=4294967296))).bind fun _=>
 some (.inl ((w64 (d+1)),(c++b)))
 else
 some (.inr c)
def Qus (a:(List Qh)):Option (List Qh):=
 some a
def Qk9 (b:Qq)(c:QMk)(a:Int):Option (List Qh):=
 (Qw (fun st=>QdD b c a st.1 st.2) (0,([]:List Qh))).bind (fun q=>Qus q)
theorem Qz1 (f m a){r}(h:Qk9 f m a=some r):Qc prog 45 [.agg (Qd f),.sl 1 (m.map Qg),.I a] [] (Gives (.own 600 r.length) [(600,.arr 4 (r.map Qi))]):=by
 refine wk_ 27 func45 fun C i=>?_
 refine Qa i [16,.o (.ln f.Tasks.length),4,.adopt 7 15 4,.O 15 (.arr 4 (([]:List Qh).map Qi)),.S 7 (.own 15 ([]:List Qh).length),.K [1,2,3,7,11,12] [3,15]] rfl (a3_ Qf rfl (congrArg (fun n=>V.own 15 n) (by simp))) ?_
 obtain⟨p,j,h⟩:=Qb h
 refine AK.loop (body:=(fun st=>QdD f m a st.1 st.2)) (fun st σ=>σ=⟨[(1,.sl 1 (m.map Qg)),(2,.I a),lk_ 3,(7,.own 15 st.2.length),(11,.I (f.Tasks.length:Int)),(12,.I st.1)],[(3,.var (Qd f)),(15,.arr 4 (st.2.map Qi))]⟩) (fun q e σ=>e=.exit 0/\σ=⟨[(7,.own 15 q.length)],[(15,.arr 4 (q.map Qi))]⟩) j rfl ?_ ?_
 ·rintro ⟨t,s⟩ o σ rfl h
  refine tg_ i [6] ?_
  rcases Qp h with⟨b,h⟩|⟨b,h⟩
  ·obtain⟨g,k,h⟩:=Qb h
   obtain⟨l,h⟩:=Qao h
   refine Qa i [.T,12,.A (Qd f),6,.o (.C4 (.sl 4 (g.map Qi))),.app ((s++g).map Qi) (s++g).length,8,.K [1,2,3,7,11,12] [3,15]] rfl (a4_ b rfl (Qye _ _ _ _ k) ⟨Qf,Qbk l Qf,Qap,QbG Qf⟩) ?_
   cases h
   exact QR rfl rfl
  refine Qa i [.F,2,.K [7] [15]] rfl (a1_ b) ?_
  cases h
  exact QT rfl (an_ rfl rfl)
 replace h:Qus p=some r:=h
 rintro e σ ⟨rfl,rfl⟩
 refine tg_ i [9,.K [6] [15],.ren 15 600] ?_
 cases h
 exact d1_ r1_
def QcH (b:(List Int))(h:Qq)(i:QMk)(f:Int)(c:(List Qh)):Option ((QMk×Int×(List Qh))⊕((List Qh)⊕(List Qh))):=
 bif (decide (f<(b.length:Int)))then
 (idx b f).bind fun g=>
 (Qk9 h i 4096).bind fun a=>
 bif ((a.length:Int)==0)then
 some (.inr (.inl c))
 else
 (chk ((a.length:Int) != 0)).bind fun _=>
 (chk ((a.length:Int) != 0)).bind fun _=>
 (idx a (Int.tmod (w64 ((Int.tmod g (a.length:Int))+(a.length:Int))) (a.length:Int))).bind fun d=>
 (QdX h i d).bind fun e=>
 bif (e.2 != 0)then
 some (.inr (.inl c))
 else
 (chk (decide (c.length+([d]:List Qh).length<=4294967296))).bind fun _=>
 some (.inl (e.1,(w64 (f+1)),(c++([d]:List Qh))))
 else
 some (.inr (.inr c))
def QrD (a:(List Qh)):Option (List Qh):=
 some a
def QrE (a:(List Qh)):Option (List Qh):=
 some a
def Qgb (b:Qq)(c:QMk)(a:(List Int)):Option (List Qh):=
 (Qw (fun st=>QcH a b st.1 st.2.1 st.2.2) (c,0,([]:List Qh))).bind (Sum.elim (fun q=>QrD q) (fun q=>QrE q))
theorem QrF (l H a){r}(h:Qgb l H a=some r):Qc prog 22 [.agg (Qd l),.sl 1 (H.map Qg),.sl 1 (a.map Qe)] [] (Gives (.own 600 r.length) [(600,.arr 4 (r.map Qi))]):=by
 refine wk_ 57 func22 fun C j=>?_
 refine Qa j [15,.o (.ln a.length),4,.adopt 7 50 4,.O 50 (.arr 4 (([]:List Qh).map Qi)),.S 7 (.own 50 ([]:List Qh).length),.K [1,3,7,14,15,16] [3,50]] rfl (a3_ Qf rfl (congrArg (fun n=>V.own 50 n) (by simp))) ?_
 obtain⟨B,m,h⟩:=Qb h
 refine AK.loop (body:=(fun st=>QcH a l st.1 st.2.1 st.2.2)) (fun st σ=>σ=⟨[(1,.sl 1 (st.1.map Qg)),lk_ 3,(7,.own 50 st.2.2.length),(14,.sl 1 (a.map Qe)),(15,.I (a.length:Int)),(16,.I st.2.1)],[(3,.var (Qd l)),(50,.arr 4 (st.2.2.map Qi))]⟩) (Sum.elim (fun q e σ=>e=.ret/\σ=⟨[(6,.own 50 q.length)],[(50,.arr 4 (q.map Qi))]⟩) (fun q e σ=>e=.exit 0/\σ=⟨[(7,.own 50 q.length)],[(50,.arr 4 (q.map Qi))]⟩)) m rfl ?_ ?_
 ·rintro ⟨J,L,p⟩ o σ rfl h
  refine tg_ j [6] ?_
  rcases Qp h with⟨f,h⟩|⟨f,h⟩
  ·obtain⟨D,s,h⟩:=Qb h
   obtain⟨t,u,h⟩:=Qb h
   refine Qa j [.T,6,.o (.row (Qe D)),6,.A (Qd l),1,.o (.co false [.d,.d,.d] 4 (t.map Qi) t.length),11] rfl (a4_ f (QE s) rfl ⟨(Qz1 _ _ _ u),Qf,.inl rfl⟩) ?_
   rcases Qp h with⟨g,h⟩|⟨g,h⟩
   ·refine Qa j [.T,10,.K [6] [50]] rfl (a1_ g) ?_
    cases h
    exact Q6 rfl (an_ rfl rfl)
   obtain⟨w,h⟩:=Qao h
   obtain⟨x,h⟩:=Qao h
   obtain⟨b,k,h⟩:=Qb h
   obtain⟨y,z,h⟩:=Qb h
   refine Qa j [.F,16,.v (.row (Qi b)) [] (.agg (Qi b)),2,.O 11 (.var (Qi b)),4,.A (Qd l),1,.A (Qi b),.o (.C3 (.tup [.sl 1 (y.1.map Qg),.I y.2])),14] rfl (aA_ g (neZ w) (neZ x) (QbW k rfl) (QaN (Qby k).2) rfl rfl rfl rfl (Qnm _ _ _ z)) ?_
   rcases Qp h with⟨i,h⟩|⟨i,h⟩
   ·refine Qa j [.T,10,.K [6] [50]] rfl (a1_ i) ?_
    cases h
    exact Q6 rfl (an_ rfl rfl)
   obtain⟨A,h⟩:=Qao h
   refine Qa j [.F,4,.A (Qi b),.v (.bd []) [] (.sl 4 (([b]:List Qh).map Qi)),.app ((p++([b]:List Qh)).map Qi) (p++([b]:List Qh)).length,10,.K [1,3,7,14,15,16] [3,50]] rfl (a4_ i rfl rfl ⟨Qf,Qbk A Qf,Qap,QbG Qf⟩) ?_
   cases h
   exact QR rfl rfl
  refine Qa j [.F,2,.K [7] [50]] rfl (a1_ f) ?_
  cases h
  exact QT rfl (an_ rfl rfl)
 rcases B with(E | G)
 ·replace h:QrD E=some r:=h
  rintro e σ ⟨rfl,rfl⟩
  refine tg_ j [2,.K [6] [50],.ren 50 600] ?_
  cases h
  exact d1_ r1_
 replace h:QrE G=some r:=h
 rintro e σ ⟨rfl,rfl⟩
 refine tg_ j [9,.K [6] [50],.ren 50 600] ?_
 cases h
 exact d1_ r1_

end Go.Proofs
