/- What functions of the program do, as functions over plain data, and the walks that show it: printed by a program. -/
import Derived.Test.YtbfgchciebcbpaaGreatDoorH2V3
import Derived.Test.YtbfgchciebcbpaaGreatDoorProg
set_option linter.unusedVariables false
set_option linter.unusedSimpArgs false
set_option linter.unusedSectionVars false
set_option linter.deprecated false
set_option maxRecDepth 100000
set_option maxHeartbeats 4000000
noncomputable section
namespace Go.Proofs
open Go Go.RowKit Go.Vm Go.Proofs.Tryz
structure QO where
 Name:ByteArray
 Kind:Int
 Lo:Int
 Hi:Int
 Names:(List ByteArray)
 First:Int
 Then:Int
structure QW where
 Name:ByteArray
 Colour:Int
 First:(List (Int×Int))
structure QaA where
 Name:ByteArray
 Colour:Int
structure Ql where
 Kind:Int
 Num:Int
 Kids:(List Ql)
structure QX where
 Place:Int
 Expr:Ql
structure QA where
 Name:ByteArray
 Vars:(List QaA)
 Guard:Ql
 Join:Int
 Split:Int
 Ins:(List QX)
 Outs:(List QX)
 Cancel:(List Int)
 After:Int
 Many:(Int×Int×Int)
structure Qk where
 Colours:(List QO)
 Places:(List QW)
 Tasks:(List QA)
 From:Int
 To:Int
structure QhB where
 a:Int
 b:Int
structure QfO where
 Kind:Int
 At:Int
structure Qa9 where
 all:(List QO)
 sizes:(List Int)
 k:Int
structure Qq where
 Task:Int
 Vars:(List Int)
 Ins:(List Int)
 Outs:(List Int)
structure QP where
 net:Qk
 m:(List (List (Int×Int)))
 task:QA
 env:(List Int)
def Qet (x:ByteArray):List V:=[.s x]
def Qb (x:Int):List V:=[.i .i64 x]
theorem QyE (l:List Int):∀r∈l.map Qb,∀v∈r,v.sca=true:=QDY (fun _=>rfl) l
def QEE (x:(List ByteArray)):List V:=[.sl 1 (x.map Qet)]
def QF (x:QO):List V:=[.s x.Name,.i .i64 x.Kind,.i .i64 x.Lo,.i .i64 x.Hi,.sl 1 (x.Names.map Qet),.i .i64 x.First,.i .i64 x.Then]
def QzQ (x:(List QO)):List V:=[.sl 7 (x.map QF)]
def QK (x:(Int×Int)):List V:=[.i .i64 x.1,.i .i64 x.2]
def Qm (x:(List (Int×Int))):List V:=[.sl 2 (x.map QK)]
def QC (x:QW):List V:=[.s x.Name,.i .i64 x.Colour,.sl 2 (x.First.map QK)]
def QAD (x:(List QW)):List V:=[.sl 3 (x.map QC)]
def QL (x:QaA):List V:=[.s x.Name,.i .i64 x.Colour]
def Qcv (x:(List QaA)):List V:=[.sl 2 (x.map QL)]
mutual
def Qs6 : Ql→List V
 | ⟨x0,x1,x2⟩=>[.i .i64 x0,.i .i64 x1,.sl 3 (Qby x2)]
def Qby : List Ql→List (List V)
 | []=>[]
 | e::es=>Qs6 e::Qby es
end
def Qp (x:Ql):List V:=[.i .i64 x.Kind,.i .i64 x.Num,.sl 3 (Qby x.Kids)]
theorem Qy0 : ∀x:Ql,Qs6 x=Qp x
 | ⟨x0,x1,x2⟩=>by rw [Qs6];rfl
theorem Qk7 : ∀l:List Ql,Qby l=l.map Qp
 | []=>by rw [Qby];rfl
 | e::es=>by rw [Qby,Qk7 es,Qy0];rfl
theorem Qk8 (l:List Ql):(Qby l).length=l.length:=by rw [Qk7,Qk0]
theorem QeX {l:List Ql}{j:Int}{x:Ql}(h:idx l j=some x):0≤j∧(Qby l)[j.toNat]? = some (Qp x):=by rw [Qk7];exact QJ h
def Q2 (x:QX):List V:=[.i .i64 x.Place,.i .i64 x.Expr.Kind,.i .i64 x.Expr.Num,.sl 3 (Qby x.Expr.Kids)]
def QCi (x:(List QX)):List V:=[.sl 4 (x.map Q2)]
def Qj (x:(List Int)):List V:=[.sl 1 (x.map Qb)]
def Qx6 (x:(Int×Int×Int)):List V:=[.i .i64 x.1,.i .i64 x.2.1,.i .i64 x.2.2]
def Qh (x:QA):List V:=[.s x.Name,.sl 2 (x.Vars.map QL),.i .i64 x.Guard.Kind,.i .i64 x.Guard.Num,.sl 3 (Qby x.Guard.Kids),.i .i64 x.Join,.i .i64 x.Split,.sl 4 (x.Ins.map Q2),.sl 4 (x.Outs.map Q2),.sl 1 (x.Cancel.map Qb),.i .i64 x.After,.i .i64 x.Many.1,.i .i64 x.Many.2.1,.i .i64 x.Many.2.2]
def QBx (x:(List QA)):List V:=[.sl 14 (x.map Qh)]
def Qe (x:Qk):List V:=[.sl 7 (x.Colours.map QF),.sl 3 (x.Places.map QC),.sl 14 (x.Tasks.map Qh),.i .i64 x.From,.i .i64 x.To]
def QjL (x:QhB):List V:=[.i .i64 x.a,.i .i64 x.b]
def QcP (x:QfO):List V:=[.i .i64 x.Kind,.i .i64 x.At]
def Q3 (x:Qa9):List V:=[.sl 7 (x.all.map QF),.sl 1 (x.sizes.map Qb),.i .i64 x.k]
def Qo (x:Qq):List V:=[.i .i64 x.Task,.sl 1 (x.Vars.map Qb),.sl 1 (x.Ins.map Qb),.sl 1 (x.Outs.map Qb)]
def Qaj (x:(List (List (Int×Int)))):List V:=[.sl 1 (x.map Qm)]
def QT (x:(List (List Int))):List V:=[.sl 1 (x.map Qj)]
def Qv (x:QP):List V:=[.sl 7 (x.net.Colours.map QF),.sl 3 (x.net.Places.map QC),.sl 14 (x.net.Tasks.map Qh),.i .i64 x.net.From,.i .i64 x.net.To,.sl 1 (x.m.map Qm),.s x.task.Name,.sl 2 (x.task.Vars.map QL),.i .i64 x.task.Guard.Kind,.i .i64 x.task.Guard.Num,.sl 3 (Qby x.task.Guard.Kids),.i .i64 x.task.Join,.i .i64 x.task.Split,.sl 4 (x.task.Ins.map Q2),.sl 4 (x.task.Outs.map Q2),.sl 1 (x.task.Cancel.map Qb),.i .i64 x.task.After,.i .i64 x.task.Many.1,.i .i64 x.task.Many.2.1,.i .i64 x.task.Many.2.2,.sl 1 (x.env.map Qb)]
def QBy (x:(List Qq)):List V:=[.sl 4 (x.map Qo)]
def Qgk (fn:Nat):QgT:=QDf Tryz.f247 0 fn
def Qct (fn:Nat):QgT:=QDf Tryz.f34 0 fn
def QaT (fn:Nat):QgT:=QDf Tryz.f93 0 fn
def QDi : Go.Shelf.Ren:=⟨fun | 20=>44 | n=>n,fun | 0=>0 | 3=>3 | 4=>4 | 22=>27 | n=>n,fun n=>n⟩
theorem QCj : Lays2.n20 Tryz.prog QDi where
 mixed:=by kernel_rfl
 f20:=Tryz.func44.trans (congrArg some (by kernel_rfl))
 t0:=Tryz.underlying0
 a0:=Tryz.isAgg0
 z0:=Tryz.sizeOf0
 v0:=Tryz.zeroValue0
 t3:=Tryz.underlying3
 a3:=Tryz.isAgg3
 z3:=Tryz.sizeOf3
 v3:=Tryz.zeroValue3
 t4:=Tryz.underlying4
 a4:=Tryz.isAgg4
 z4:=Tryz.sizeOf4
 v4:=Tryz.zeroValue4
 t22:=Tryz.underlying27
 a22:=Tryz.isAgg27
 z22:=Tryz.sizeOf27
 v22:=Tryz.zeroValue27
 i3:=by kernel_rfl
theorem QFs (a0 a1 a2 b0 b1 b2:Int):EqT Tryz.prog 73 [.int .i64 a0,.int .i64 a1,.int .i64 a2] [.int .i64 b0,.int .i64 b1,.int .i64 b2] ((a0==b0)&&((a1==b1)&&(a2==b2))):=by
 refine⟨by kernel_rfl,fun w=>?_⟩
 have u3:=Tryz.underlying3
 have g3:=Tryz.isAgg3
 have z3:=Tryz.sizeOf3
 show(Op.equalIn (9999+1) 73 (.agg #[.int .i64 a0,.int .i64 a1,.int .i64 a2]) (.agg #[.int .i64 b0,.int .i64 b1,.int .i64 b2])).run Tryz.prog w=_
 rw [Op.equalIn]
 simp only [Sem.run_bind,run_underlying Tryz.underlying73,Result.andThen_ok]
 simp only [Std.Legacy.Range.forIn_eq_forIn_range',Std.Legacy.Range.size,Nat.sub_zero,Nat.add_sub_cancel,Nat.div_one,List.range'_succ,List.range'_zero,List.forIn_cons,List.forIn_nil]
 go_simp
 by_cases h0:a0=b0<;>by_cases h1:a1=b1<;>by_cases h2:a2=b2<;>simp [h0,h1,h2]
theorem QDj : Qur Tryz.prog 102 1=some (1,false,1):=by kernel_rfl
theorem QDk : Qur Tryz.prog 102 2=some (2,false,1):=by kernel_rfl
def QDl : Go.Shelf.Ren:=⟨fun | 157=>242 | 199=>249 | 229=>248 | 261=>255 | 311=>257 | 312=>258 | n=>n,fun | 0=>0 | 3=>3 | 4=>4 | 5=>5 | 9=>9 | 21=>21 | 31=>100 | 40=>263 | 46=>128 | 49=>274 | 51=>176 | 119=>261 | 141=>268 | 152=>264 | 154=>266 | 193=>270 | 194=>271 | 196=>273 | 198=>276 | 201=>279 | 226=>281 | 227=>282 | n=>n,fun | 0=>0 | 6=>1 | n=>n⟩
theorem QCk : Lays.n157 Tryz.prog QDl where
 mixed:=by kernel_rfl
 f157:=Tryz.func242.trans (congrArg some (by kernel_rfl))
 f199:=Tryz.func249.trans (congrArg some (by kernel_rfl))
 f229:=Tryz.func248.trans (congrArg some (by kernel_rfl))
 f261:=Tryz.func255.trans (congrArg some (by kernel_rfl))
 f311:=Tryz.func257.trans (congrArg some (by kernel_rfl))
 f312:=Tryz.func258.trans (congrArg some (by kernel_rfl))
 t0:=Tryz.underlying0
 a0:=Tryz.isAgg0
 z0:=Tryz.sizeOf0
 v0:=Tryz.zeroValue0
 t3:=Tryz.underlying3
 a3:=Tryz.isAgg3
 z3:=Tryz.sizeOf3
 v3:=Tryz.zeroValue3
 t4:=Tryz.underlying4
 a4:=Tryz.isAgg4
 z4:=Tryz.sizeOf4
 v4:=Tryz.zeroValue4
 t5:=Tryz.underlying5
 a5:=Tryz.isAgg5
 z5:=Tryz.sizeOf5
 v5:=Tryz.zeroValue5
 t9:=Tryz.underlying9
 a9:=Tryz.isAgg9
 z9:=Tryz.sizeOf9
 v9:=Tryz.zeroValue9
 t21:=Tryz.underlying21
 a21:=Tryz.isAgg21
 z21:=Tryz.sizeOf21
 v21:=Tryz.zeroValue21
 t31:=Tryz.underlying100
 a31:=Tryz.isAgg100
 z31:=Tryz.sizeOf100
 v31:=Tryz.zeroValue100
 t40:=Tryz.underlying263
 a40:=Tryz.isAgg263
 z40:=Tryz.sizeOf263
 v40:=Tryz.zeroValue263
 t46:=Tryz.underlying128
 a46:=Tryz.isAgg128
 z46:=Tryz.sizeOf128
 v46:=Tryz.zeroValue128
 t49:=Tryz.underlying274
 a49:=Tryz.isAgg274
 z49:=Tryz.sizeOf274
 v49:=Tryz.zeroValue274
 t51:=Tryz.underlying176
 a51:=Tryz.isAgg176
 z51:=Tryz.sizeOf176
 v51:=Tryz.zeroValue176
 t119:=Tryz.underlying261
 a119:=Tryz.isAgg261
 z119:=Tryz.sizeOf261
 t141:=Tryz.underlying268
 a141:=Tryz.isAgg268
 z141:=Tryz.sizeOf268
 v141:=Tryz.zeroValue268
 t152:=Tryz.underlying264
 a152:=Tryz.isAgg264
 z152:=Tryz.sizeOf264
 v152:=Tryz.zeroValue264
 t154:=Tryz.underlying266
 a154:=Tryz.isAgg266
 z154:=Tryz.sizeOf266
 v154:=Tryz.zeroValue266
 t193:=Tryz.underlying270
 a193:=Tryz.isAgg270
 z193:=Tryz.sizeOf270
 v193:=Tryz.zeroValue270
 t194:=Tryz.underlying271
 a194:=Tryz.isAgg271
 z194:=Tryz.sizeOf271
 v194:=Tryz.zeroValue271
 t196:=Tryz.underlying273
 a196:=Tryz.isAgg273
 z196:=Tryz.sizeOf273
 v196:=Tryz.zeroValue273
 t198:=Tryz.underlying276
 a198:=Tryz.isAgg276
 z198:=Tryz.sizeOf276
 v198:=Tryz.zeroValue276
 t201:=Tryz.underlying279
 a201:=Tryz.isAgg279
 z201:=Tryz.sizeOf279
 v201:=Tryz.zeroValue279
 t226:=Tryz.underlying281
 a226:=Tryz.isAgg281
 z226:=Tryz.sizeOf281
 v226:=Tryz.zeroValue281
 t227:=Tryz.underlying282
 a227:=Tryz.isAgg282
 z227:=Tryz.sizeOf282
 v227:=Tryz.zeroValue282
 g0:=by kernel_rfl
 g6:=by kernel_rfl
theorem Qus : Qx4 Tryz.prog 178 .u64=true:=by kernel_rfl
theorem QzR : Qx4 Tryz.prog 3 .i64=true:=by kernel_rfl
theorem Qen : QfL Tryz.prog 3 (V.i .i64) (Value.int .i64):=QfL.int (by kernel_rfl)
theorem QBz : QfL Tryz.prog 9 V.s Value.string:=QfL.str (by kernel_rfl)
theorem mixed : Tryz.prog.follows .mixedOrders=true:=by kernel_rfl
theorem Qxa : QnW Tryz.prog 241=some (9,4):=by kernel_rfl
theorem Qmt : QnW Tryz.prog 88=some (3,27):=by kernel_rfl
theorem Qhj : QnW Tryz.prog 97=some (3,3):=by kernel_rfl
def QDm : Go.Shelf.Ren:=⟨fun | 125=>82 | 128=>158 | 129=>159 | 189=>43 | 215=>212 | 216=>155 | 257=>81 | 294=>149 | 295=>150 | 296=>151 | 297=>152 | 298=>153 | 299=>154 | 300=>156 | 301=>157 | 328=>207 | 329=>208 | 330=>209 | 331=>210 | 332=>211 | 343=>233 | n=>n,fun | 0=>0 | 3=>3 | 4=>4 | 5=>5 | 9=>9 | 28=>27 | 46=>128 | 51=>176 | 53=>178 | 131=>165 | 182=>168 | 183=>169 | 218=>224 | 222=>228 | 228=>246 | 229=>247 | n=>n,fun n=>n⟩
theorem QCl : Lays.n189 Tryz.prog QDm where
 mixed:=by kernel_rfl
 f125:=Tryz.func82.trans (congrArg some (by kernel_rfl))
 f128:=Tryz.func158.trans (congrArg some (by kernel_rfl))
 f129:=Tryz.func159.trans (congrArg some (by kernel_rfl))
 f189:=Tryz.func43.trans (congrArg some (by kernel_rfl))
 f215:=Tryz.func212.trans (congrArg some (by kernel_rfl))
 f216:=Tryz.func155.trans (congrArg some (by kernel_rfl))
 f257:=Tryz.func81.trans (congrArg some (by kernel_rfl))
 f294:=Tryz.func149.trans (congrArg some (by kernel_rfl))
 f295:=Tryz.func150.trans (congrArg some (by kernel_rfl))
 f296:=Tryz.func151.trans (congrArg some (by kernel_rfl))
 f297:=Tryz.func152.trans (congrArg some (by kernel_rfl))
 f298:=Tryz.func153.trans (congrArg some (by kernel_rfl))
 f299:=Tryz.func154.trans (congrArg some (by kernel_rfl))
 f300:=Tryz.func156.trans (congrArg some (by kernel_rfl))
 f301:=Tryz.func157.trans (congrArg some (by kernel_rfl))
 f328:=Tryz.func207.trans (congrArg some (by kernel_rfl))
 f329:=Tryz.func208.trans (congrArg some (by kernel_rfl))
 f330:=Tryz.func209.trans (congrArg some (by kernel_rfl))
 f331:=Tryz.func210.trans (congrArg some (by kernel_rfl))
 f332:=Tryz.func211.trans (congrArg some (by kernel_rfl))
 f343:=Tryz.func233.trans (congrArg some (by kernel_rfl))
 t0:=Tryz.underlying0
 a0:=Tryz.isAgg0
 z0:=Tryz.sizeOf0
 v0:=Tryz.zeroValue0
 t3:=Tryz.underlying3
 a3:=Tryz.isAgg3
 z3:=Tryz.sizeOf3
 v3:=Tryz.zeroValue3
 t4:=Tryz.underlying4
 a4:=Tryz.isAgg4
 z4:=Tryz.sizeOf4
 v4:=Tryz.zeroValue4
 t5:=Tryz.underlying5
 a5:=Tryz.isAgg5
 z5:=Tryz.sizeOf5
 v5:=Tryz.zeroValue5
 t9:=Tryz.underlying9
 a9:=Tryz.isAgg9
 z9:=Tryz.sizeOf9
 v9:=Tryz.zeroValue9
 t28:=Tryz.underlying27
 a28:=Tryz.isAgg27
 z28:=Tryz.sizeOf27
 v28:=Tryz.zeroValue27
 t46:=Tryz.underlying128
 a46:=Tryz.isAgg128
 z46:=Tryz.sizeOf128
 v46:=Tryz.zeroValue128
 t51:=Tryz.underlying176
 a51:=Tryz.isAgg176
 z51:=Tryz.sizeOf176
 v51:=Tryz.zeroValue176
 t53:=Tryz.underlying178
 a53:=Tryz.isAgg178
 z53:=Tryz.sizeOf178
 v53:=Tryz.zeroValue178
 t131:=Tryz.underlying165
 a131:=Tryz.isAgg165
 z131:=Tryz.sizeOf165
 v131:=Tryz.zeroValue165
 t182:=Tryz.underlying168
 a182:=Tryz.isAgg168
 z182:=Tryz.sizeOf168
 v182:=Tryz.zeroValue168
 t183:=Tryz.underlying169
 a183:=Tryz.isAgg169
 z183:=Tryz.sizeOf169
 v183:=Tryz.zeroValue169
 t218:=Tryz.underlying224
 a218:=Tryz.isAgg224
 z218:=Tryz.sizeOf224
 v218:=Tryz.zeroValue224
 t222:=Tryz.underlying228
 a222:=Tryz.isAgg228
 z222:=Tryz.sizeOf228
 v222:=Tryz.zeroValue228
 t228:=Tryz.underlying246
 a228:=Tryz.isAgg246
 z228:=Tryz.sizeOf246
 v228:=Tryz.zeroValue246
 t229:=Tryz.underlying247
 a229:=Tryz.isAgg247
 z229:=Tryz.sizeOf247
 v229:=Tryz.zeroValue247
theorem QBA : Tryz.prog.underlying 27=some (.slice 3):=by kernel_rfl
theorem QFt : Tryz.prog.underlying 29=some (.slice 59):=by kernel_rfl
theorem QFu : Tryz.prog.underlying 36=some (.slice 27):=by kernel_rfl
theorem QFv : Tryz.prog.underlying 59=some (.slice 61):=by kernel_rfl
theorem QFw : Qks Tryz.prog 27 ((fun x=>V.sl 1 (x.map Qb)) ([]:(List Int))):=Qks.sl (by kernel_rfl)
theorem Qwf : Qks Tryz.prog 3 ((V.i .i64) 0):=Qks.one (v:=.int .i64 0) (by kernel_rfl)
theorem QEF : Qks Tryz.prog 4 (V.b false):=Qks.one (v:=.bool false) (by kernel_rfl)
theorem QEG : Qar Tryz.prog 3=some [.i .i64 0]:=by kernel_rfl
theorem QF2 : Qar Tryz.prog 9=some [.s (⟨#[]⟩:ByteArray)]:=by kernel_rfl
theorem QFx : Qar Tryz.prog 26=some [.lit (.slice none 0 0),.lit (.slice none 0 0),.lit (.slice none 0 0),.i .i64 0,.i .i64 0]:=by kernel_rfl
theorem QDQ : Qar Tryz.prog 27=some [.lit (.slice none 0 0)]:=by kernel_rfl
theorem QFy : Qar Tryz.prog 33=some [.i .i64 0]:=by kernel_rfl
theorem QFz : Qar Tryz.prog 36=some [.lit (.slice none 0 0)]:=by kernel_rfl
theorem QFA : Qar Tryz.prog 48=some [.lit (.slice none 0 0)]:=by kernel_rfl
theorem QFB : Qar Tryz.prog 53=some [.i .i64 0,.lit (.slice none 0 0),.lit (.slice none 0 0),.lit (.slice none 0 0)]:=by kernel_rfl
theorem QFC : Qar Tryz.prog 59=some [.lit (.slice none 0 0)]:=by kernel_rfl
theorem QFD : Qar Tryz.prog 61=some [.i .i64 0,.i .i64 0]:=by kernel_rfl
theorem QFE : Qar Tryz.prog 63=some [.i .i64 0,.i .i64 0]:=by kernel_rfl
theorem QFF : Qar Tryz.prog 71=some [.i .i64 0,.i .i64 0,.lit (.slice none 0 0)]:=by kernel_rfl
theorem QFG : Qar Tryz.prog 73=some [.i .i64 0,.i .i64 0,.i .i64 0]:=by kernel_rfl
theorem QFH : Qar Tryz.prog 75=some [.s (⟨#[]⟩:ByteArray),.lit (.slice none 0 0),.i .i64 0,.i .i64 0,.lit (.slice none 0 0),.i .i64 0,.i .i64 0,.lit (.slice none 0 0),.lit (.slice none 0 0),.lit (.slice none 0 0),.i .i64 0,.i .i64 0,.i .i64 0,.i .i64 0]:=by kernel_rfl
theorem QFI : Qar Tryz.prog 79=some [.i .i64 0,.i .i64 0,.i .i64 0,.lit (.slice none 0 0)]:=by kernel_rfl
theorem QFJ : Qar Tryz.prog 90=some [.i .i64 0,.lit (.map none)]:=by kernel_rfl
theorem QEH : Qar Tryz.prog 102=some [.s (⟨#[]⟩:ByteArray),.i .i64 0,.i .i64 0,.i .i64 0,.lit (.slice none 0 0),.i .i64 0,.i .i64 0]:=by kernel_rfl
theorem QEI : Qar Tryz.prog 104=some [.s (⟨#[]⟩:ByteArray),.i .i64 0,.lit (.slice none 0 0)]:=by kernel_rfl
theorem QEJ : Qar Tryz.prog 106=some [.s (⟨#[]⟩:ByteArray),.i .i64 0]:=by kernel_rfl
theorem QoB : Qar Tryz.prog 110=some [.lit (.nilFunc),.i .i64 0]:=by kernel_rfl
theorem QEK : Qar Tryz.prog 122=some [.i .i64 0,.i .i64 0]:=by kernel_rfl
theorem QEL : Qar Tryz.prog 146=some [.lit (.nilFunc)]:=by kernel_rfl
theorem QEM : Qar Tryz.prog 151=some [.lit (.nilFunc)]:=by kernel_rfl
theorem QEN : Qar Tryz.prog 182=some [.lit (.slice none 0 0),.lit (.slice none 0 0),.i .i64 0]:=by kernel_rfl
theorem QEO : Qar Tryz.prog 189=some [.lit (.slice none 0 0),.lit (.slice none 0 0),.lit (.slice none 0 0),.i .i64 0,.i .i64 0,.lit (.slice none 0 0),.s (⟨#[]⟩:ByteArray),.lit (.slice none 0 0),.i .i64 0,.i .i64 0,.lit (.slice none 0 0),.i .i64 0,.i .i64 0,.lit (.slice none 0 0),.lit (.slice none 0 0),.lit (.slice none 0 0),.i .i64 0,.i .i64 0,.i .i64 0,.i .i64 0,.lit (.slice none 0 0)]:=by kernel_rfl
theorem QEP : Qar Tryz.prog 211=some [.lit (.nilFunc)]:=by kernel_rfl
def tab : Tab:={ ag:=[(3,false),(9,false),(22,false),(23,false),(24,false),(26,true),(27,false),(29,false),(30,false),(33,false),(36,false),(48,false),(53,true),(59,false),(61,true),(63,true),(68,false),(69,false),(71,true),(72,false),(73,true),(75,true),(79,true),(88,false),(90,true),(97,false),(100,false),(102,true),(104,true),(106,true),(110,true),(146,false),(151,false),(154,false),(156,false),(182,true),(189,true),(211,false)],sz:=[(3,1),(26,5),(27,1),(33,1),(36,1),(48,1),(53,4),(59,1),(61,2),(63,2),(71,3),(73,3),(75,14),(79,4),(90,2),(102,7),(104,3),(106,2),(110,2),(122,2),(146,1),(151,1),(182,3),(189,21),(211,1)],fo:=[(26,[0,1,2,3,4]),(53,[0,1,2,3]),(71,[0,1,2]),(75,[0,1,2,5,6,7,8,9,10,11]),(79,[0,1]),(90,[0,1]),(102,[0,1,2,3,4,5,6]),(104,[0,1,2]),(106,[0,1]),(110,[0,1]),(122,[0,1]),(182,[0,1,2]),(189,[0,5,6,20])],sp:=[(26,[(0,1),(1,1),(2,1),(3,1),(4,1)]),(53,[(0,1),(1,1),(2,1),(3,1)]),(63,[(0,1),(1,1)]),(71,[(0,1),(1,1),(2,1)]),(75,[(0,1),(1,1),(2,3),(5,1),(6,1),(7,1),(8,1),(9,1),(10,1),(11,3)]),(79,[(0,1),(1,3)]),(90,[(0,1),(1,1)]),(102,[(0,1),(1,1),(2,1),(3,1),(4,1),(5,1),(6,1)]),(104,[(0,1),(1,1),(2,1)]),(110,[(0,1),(1,1)]),(122,[(0,1),(1,1)]),(182,[(0,1),(1,1),(2,1)]),(189,[(0,5),(5,1),(6,14),(20,1)])],es:=[(22,(102,7,80)),(23,(104,3,48)),(24,(75,14,200)),(27,(3,1,8)),(28,(59,1,24)),(29,(59,1,24)),(36,(27,1,24)),(48,(53,4,80)),(59,(61,2,16)),(68,(106,2,24)),(69,(71,3,40)),(72,(79,4,48)),(100,(9,1,16)),(140,(110,2,16)),(249,(3,1,8))],ar:=[(61,(2,1)),(73,(3,1))],zv:=[(3,[.i .i64 0]),(9,[.s (⟨#[]⟩:ByteArray)]),(26,[.lit (.slice none 0 0),.lit (.slice none 0 0),.lit (.slice none 0 0),.i .i64 0,.i .i64 0]),(27,[.lit (.slice none 0 0)]),(33,[.i .i64 0]),(36,[.lit (.slice none 0 0)]),(48,[.lit (.slice none 0 0)]),(53,[.i .i64 0,.lit (.slice none 0 0),.lit (.slice none 0 0),.lit (.slice none 0 0)]),(59,[.lit (.slice none 0 0)]),(61,[.i .i64 0,.i .i64 0]),(63,[.i .i64 0,.i .i64 0]),(71,[.i .i64 0,.i .i64 0,.lit (.slice none 0 0)]),(73,[.i .i64 0,.i .i64 0,.i .i64 0]),(75,[.s (⟨#[]⟩:ByteArray),.lit (.slice none 0 0),.i .i64 0,.i .i64 0,.lit (.slice none 0 0),.i .i64 0,.i .i64 0,.lit (.slice none 0 0),.lit (.slice none 0 0),.lit (.slice none 0 0),.i .i64 0,.i .i64 0,.i .i64 0,.i .i64 0]),(79,[.i .i64 0,.i .i64 0,.i .i64 0,.lit (.slice none 0 0)]),(90,[.i .i64 0,.lit (.map none)]),(102,[.s (⟨#[]⟩:ByteArray),.i .i64 0,.i .i64 0,.i .i64 0,.lit (.slice none 0 0),.i .i64 0,.i .i64 0]),(104,[.s (⟨#[]⟩:ByteArray),.i .i64 0,.lit (.slice none 0 0)]),(106,[.s (⟨#[]⟩:ByteArray),.i .i64 0]),(110,[.lit (.nilFunc),.i .i64 0]),(122,[.i .i64 0,.i .i64 0]),(146,[.lit (.nilFunc)]),(151,[.lit (.nilFunc)]),(182,[.lit (.slice none 0 0),.lit (.slice none 0 0),.i .i64 0]),(189,[.lit (.slice none 0 0),.lit (.slice none 0 0),.lit (.slice none 0 0),.i .i64 0,.i .i64 0,.lit (.slice none 0 0),.s (⟨#[]⟩:ByteArray),.lit (.slice none 0 0),.i .i64 0,.i .i64 0,.lit (.slice none 0 0),.i .i64 0,.i .i64 0,.lit (.slice none 0 0),.lit (.slice none 0 0),.lit (.slice none 0 0),.i .i64 0,.i .i64 0,.i .i64 0,.i .i64 0,.lit (.slice none 0 0)]),(211,[.lit (.nilFunc)])],sb:=[9],bo:=[4],cc:=[9],en:=[9,10,11,12,14,15,17,18,20,22,24,26,27,28,29,30,31,32,33,34,35,38,39,41,42,43,44,45,46,47,48,49,50,51,52,53,56,57,58,59,60,61,62,63,64,65,66,67,68,69,70,71,72,73,74,75,76,77,80,83,84,85,86,87,88,89,90,91,92,93,94,95,96,97,98,99,100,101,102,103,104,105,106,107,108,109,110,111,112,113,114,115,116,117,118,119,120,121,122,123,124,125,126,127,128,129,130,131,132,133,134,135,136,137,138,139,140,141,142,143,144,160,161,162,163,164,165,166,167,168,169,170,171,172,173,174,175,176,177,178,179,180,181,182,183,184,185,186,187,188,189,190,191,192,193,194,195,196,197,198,199,200,201,202,203,204,205,206,213,214,215,216,217,218,219,220,221,222,223,224,225,226,227,228,229,230,231,232,234,235,236,237,238,239,240,241,242,243,244,245,246,247,250,251,252,253,254,256] }
theorem Qs : QdO Tryz.prog tab:=Tab.ok (by kernel_rfl) (Qda.2 ⟨QEG,Qda.2 ⟨QF2,Qda.2 ⟨QFx,Qda.2 ⟨QDQ,Qda.2 ⟨QFy,Qda.2 ⟨QFz,Qda.2 ⟨QFA,Qda.2 ⟨QFB,Qda.2 ⟨QFC,Qda.2 ⟨QFD,Qda.2 ⟨QFE,Qda.2 ⟨QFF,Qda.2 ⟨QFG,Qda.2 ⟨QFH,Qda.2 ⟨QFI,Qda.2 ⟨QFJ,Qda.2 ⟨QEH,Qda.2 ⟨QEI,Qda.2 ⟨QEJ,Qda.2 ⟨QoB,Qda.2 ⟨QEK,Qda.2 ⟨QEL,Qda.2 ⟨QEM,Qda.2 ⟨QEN,Qda.2 ⟨QEO,Qda.2 ⟨QEP,fun _ h=>(by cases h)⟩⟩⟩⟩⟩⟩⟩⟩⟩⟩⟩⟩⟩⟩⟩⟩⟩⟩⟩⟩⟩⟩⟩⟩⟩⟩)
theorem Qa {C:Ctx}{Q:Exit→St→Prop}{n:Nat}{pt pt1:Pt}{ks ks1:List Fr}{σ σ1:St}{φ:Prop}(hC:Qfi Tryz.prog C n)(ds:List Dir)(e:Vm.go Tryz.prog C tab n ds pt ks σ True=some ⟨pt1,ks1,σ1,φ⟩)(hφ:φ)(h:AK Tryz.prog C Q pt1 ks1 σ1):AK Tryz.prog C Q pt ks σ:=AK.go Qs hC ds e hφ h
abbrev QBg := List (Int×Int)
abbrev QMk := List QBg
abbrev QLL := List (List Int)
abbrev QSB := List (ByteArray×Bool)
theorem tt_ : True:=trivial
theorem an_ {a b:Prop}(x:a)(y:b):a∧b:=⟨x,y⟩
theorem ex_ {α:Sort _}{p:α→Prop}(w:α)(h:p w):∃x,p x:=⟨w,h⟩
end Go.Proofs
namespace Go.Vm
open Go Go.RowKit
noncomputable abbrev Dir.K (a b:List Nat):Dir:=.keep a b
noncomputable abbrev Dir.S (a:Nat)(b:V):Dir:=.say a b
noncomputable abbrev Dir.O (a:Nat)(b:Ob):Dir:=.sayO a b
noncomputable abbrev Dir.T:Dir:=.br true
noncomputable abbrev Dir.F:Dir:=.br false
noncomputable abbrev Dw.N:Dw:=.a .no none false
noncomputable abbrev V.I (n:Int):V:=.i .i64 n
end Go.Vm
namespace Go.Proofs
open Go Go.RowKit Go.Vm Go.Proofs.Tryz
theorem bg_ {α:Type}{c:Bool}{x y:Option α}{r:α}{G:Prop}(h:(bif c then x else y)=some r)(f:c=true→x=some r→G)(g:c=false→y=some r→G):G:=by
 cases c
 ·exact g rfl h
 exact f rfl h
theorem cb_ {a b:Bool}(h:a=b):V.b a=V.b b:=congrArg V.b h
theorem tc_ {a b:Bool}(h:a=b):True∧V.b a=V.b b:=⟨trivial,congrArg V.b h⟩
def QEQ : Exit→Bool
 | .normal=>true
 | .ret=>true
 | _=>false
theorem d1_ {C:Ctx}{t:Nat}{r:V}{outs:List (Nat×Ob)}{σ:St}{e:Exit}(he:QEQ e=true)(h:Go.Vm.look σ.fr t=some r)(hs:QhV σ.hp outs):AK Tryz.prog C (Qzn Tryz.prog [.tmp t] (Gives r outs)) (.x e) [] σ:=by
 cases e<;>first | exact AK.done ⟨[r],⟨h,trivial⟩,gives hs⟩|cases he
theorem d2_ {C:Ctx}{t u:Nat}{r s:V}{outs:List (Nat×Ob)}{σ:St}{e:Exit}(he:QEQ e=true)(h:Go.Vm.look σ.fr t=some r)(k:Go.Vm.look σ.fr u=some s)(hs:QhV σ.hp outs):AK Tryz.prog C (Qzn Tryz.prog [.tmp t,.tmp u] (Gives (.tup [r,s]) outs)) (.x e) [] σ:=by
 cases e<;>first | exact AK.done ⟨[r,s],⟨h,k,trivial⟩,gives hs⟩|cases he
theorem tg_ {C:Ctx}{Q:Exit→St→Prop}{n:Nat}{pt pt1:Pt}{ks ks1:List Fr}{σ σ1:St}(hC:Qfi Tryz.prog C n)(ds:List Dir)(e:Vm.go Tryz.prog C tab n ds pt ks σ True=some ⟨pt1,ks1,σ1,True⟩)(h:AK Tryz.prog C Q pt1 ks1 σ1):AK Tryz.prog C Q pt ks σ:=AK.go Qs hC ds e trivial h
theorem QaE {c:Bool}{β:Type}{f:Unit→Option β}{r:β}(h:(chk c).bind f=some r):c=true∧f ()=some r:=by
 obtain⟨_,k,h⟩:=Qc h
 exact⟨Qzq k,h⟩
abbrev QF3 (a0 a1 a2 a3:V):List V:=[.J,.J,.J,.J,a0,a1,a2,.J,.J,.J,.J,.J,.J,a3,.J,.J,.J,.J,.J,.J,.J,.J,.J,.J,.J,.J,.J,.J,.J,.J,.J,.J,.J,.J,.J]
abbrev Qid (a0 a1 a2:V):List V:=[.J,.J,.J,.J,a0,a1,a2,.J,.J,.J,.J,.J,.J,.J,.J,.J,.J,.J,.J,.J,.J,.J,.J,.J,.J,.J,.J,.J,.J,.J,.J,.J,.J,.J,.J]
abbrev QF4 (a0 a1:V):List V:=[.J,.J,a0,.J,.J,.J,.J,a1,.J,.J,.J,.J,.J]
abbrev QrM (a0:V):List V:=[.J,.J,a0,.J,.J,.J,.J,.J,.J,.J,.J,.J,.J]
abbrev QF5 (a0 a1 a2 a3 a4 a5 a6 a7 a8:V):List V:=[.J,.J,.J,.J,a0,a1,a2,a3,a4,.J,a5,a6,a7,.J,.J,.J,.J,.J,.J,.J,.J,.J,.J,.J,.J,.J,.J,.J,.J,.J,.J,.J,.J,.J,.J,.J,.J,.J,.J,.J,.J,.J,.J,.J,.J,.J,.J,.J,.J,.J,.J,.J,.J,.J,a8,.J,.J,.J,.J,.J,.J,.J,.J,.J,.J,.J,.J,.J,.J,.J,.J,.J,.J,.J,.J,.J,.J,.J,.J,.J,.J,.J,.J,.J,.J,.J,.J,.J,.J,.J,.J,.J,.J,.J,.J,.J,.J,.J,.J,.J,.J,.J,.J,.J,.J,.J,.J,.J,.J]
abbrev Qeo (a0 a1 a2 a3 a4 a5 a6 a7:V):List V:=[.J,.J,.J,.J,a0,a1,a2,a3,a4,.J,a5,a6,a7,.J,.J,.J,.J,.J,.J,.J,.J,.J,.J,.J,.J,.J,.J,.J,.J,.J,.J,.J,.J,.J,.J,.J,.J,.J,.J,.J,.J,.J,.J,.J,.J,.J,.J,.J,.J,.J,.J,.J,.J,.J,.J,.J,.J,.J,.J,.J,.J,.J,.J,.J,.J,.J,.J,.J,.J,.J,.J,.J,.J,.J,.J,.J,.J,.J,.J,.J,.J,.J,.J,.J,.J,.J,.J,.J,.J,.J,.J,.J,.J,.J,.J,.J,.J,.J,.J,.J,.J,.J,.J,.J,.J,.J,.J,.J,.J]
def Qoq  : Option Qk:=
 some (Qk.mk ([(QO.mk (⟨#[110]⟩:ByteArray) 2 0 0 ([(⟨#[107]⟩:ByteArray)]:List ByteArray) 0 0)]:List QO) ([(QW.mk (⟨#[97]⟩:ByteArray) 0 ([]:QBg)),(QW.mk (⟨#[98]⟩:ByteArray) 0 ([]:QBg)),(QW.mk (⟨#[99]⟩:ByteArray) 0 ([]:QBg))]:List QW) ([(QA.mk (⟨#[116]⟩:ByteArray) ([]:(List QaA)) (Ql.mk 1 1 ([]:(List Ql))) 1 1 ([(QX.mk 0 (Ql.mk 1 0 ([]:(List Ql))))]:List QX) ([(QX.mk 1 (Ql.mk 1 0 ([]:(List Ql))))]:List QX) ([]:(List Int)) 0 (0,0,0)),(QA.mk (⟨#[117]⟩:ByteArray) ([]:(List QaA)) (Ql.mk 1 1 ([]:(List Ql))) 1 1 ([(QX.mk 1 (Ql.mk 1 0 ([]:(List Ql))))]:List QX) ([(QX.mk 0 (Ql.mk 1 0 ([]:(List Ql))))]:List QX) ([2]:List Int) 0 (0,0,0))]:List QA) 0 1)
theorem Qx7  {r:Qk}(h:Qoq  = some r):Qd prog 31 [] [] (Gives (.agg (Qe r)) []):=by
 refine Qd.walk 31 func31 rfl rfl rfl fun C hC=>?_
 refine Qa hC [.n 7,.v .no [none,none,some 3] (.agg (Qp (Ql.mk 1 0 ([]:(List Ql))))),.n 2,.O 1 (.var (Qp (Ql.mk 1 0 ([]:(List Ql))))),.n 4,.v .no [none,none,some 3] (.agg (Qp (Ql.mk 1 1 ([]:(List Ql))))),.n 2,.O 2 (.var (Qp (Ql.mk 1 1 ([]:(List Ql))))),.n 4,.v (.bd []) [] (.sl 1 (([(⟨#[107]⟩:ByteArray)]:List ByteArray).map Qet)),.v .no [] (.agg (QF (QO.mk (⟨#[110]⟩:ByteArray) 2 0 0 ([(⟨#[107]⟩:ByteArray)]:List ByteArray) 0 0))),.v (.bd []) [] (.sl 7 (([(QO.mk (⟨#[110]⟩:ByteArray) 2 0 0 ([(⟨#[107]⟩:ByteArray)]:List ByteArray) 0 0)]:List QO).map QF)),.v .no [none,none,some 2] (.agg (QC (QW.mk (⟨#[97]⟩:ByteArray) 0 ([]:QBg)))),.v .no [none,none,some 2] (.agg (QC (QW.mk (⟨#[98]⟩:ByteArray) 0 ([]:QBg)))),.v .no [none,none,some 2] (.agg (QC (QW.mk (⟨#[99]⟩:ByteArray) 0 ([]:QBg)))),.v (.bd []) [] (.sl 3 (([(QW.mk (⟨#[97]⟩:ByteArray) 0 ([]:QBg)),(QW.mk (⟨#[98]⟩:ByteArray) 0 ([]:QBg)),(QW.mk (⟨#[99]⟩:ByteArray) 0 ([]:QBg))]:List QW).map QC)),.v .no [] (.agg (Qp (Ql.mk 1 1 ([]:(List Ql))))),.v .no [] (.agg (Qp (Ql.mk 1 0 ([]:(List Ql))))),.v .no [] (.agg (Q2 (QX.mk 0 (Ql.mk 1 0 ([]:(List Ql)))))),.v (.bd []) [] (.sl 4 (([(QX.mk 0 (Ql.mk 1 0 ([]:(List Ql))))]:List QX).map Q2)),.v .no [] (.agg (Qp (Ql.mk 1 0 ([]:(List Ql))))),.v .no [] (.agg (Q2 (QX.mk 1 (Ql.mk 1 0 ([]:(List Ql)))))),.v (.bd []) [] (.sl 4 (([(QX.mk 1 (Ql.mk 1 0 ([]:(List Ql))))]:List QX).map Q2)),.v .no [none,some 2,none,none,none,none,none,none,none,some 1,none,none,none,none] (.agg (Qh (QA.mk (⟨#[116]⟩:ByteArray) ([]:(List QaA)) (Ql.mk 1 1 ([]:(List Ql))) 1 1 ([(QX.mk 0 (Ql.mk 1 0 ([]:(List Ql))))]:List QX) ([(QX.mk 1 (Ql.mk 1 0 ([]:(List Ql))))]:List QX) ([]:(List Int)) 0 (0,0,0)))),.v .no [] (.agg (Qp (Ql.mk 1 1 ([]:(List Ql))))),.v .no [] (.agg (Qp (Ql.mk 1 0 ([]:(List Ql))))),.v .no [] (.agg (Q2 (QX.mk 1 (Ql.mk 1 0 ([]:(List Ql)))))),.v (.bd []) [] (.sl 4 (([(QX.mk 1 (Ql.mk 1 0 ([]:(List Ql))))]:List QX).map Q2)),.v .no [] (.agg (Qp (Ql.mk 1 0 ([]:(List Ql))))),.v .no [] (.agg (Q2 (QX.mk 0 (Ql.mk 1 0 ([]:(List Ql)))))),.v (.bd []) [] (.sl 4 (([(QX.mk 0 (Ql.mk 1 0 ([]:(List Ql))))]:List QX).map Q2)),.v (.bd []) [] (.sl 1 (([2]:List Int).map Qb)),.v .no [none,some 2,none,none,none,none,none,none,none,none,none,none,none,none] (.agg (Qh (QA.mk (⟨#[117]⟩:ByteArray) ([]:(List QaA)) (Ql.mk 1 1 ([]:(List Ql))) 1 1 ([(QX.mk 1 (Ql.mk 1 0 ([]:(List Ql))))]:List QX) ([(QX.mk 0 (Ql.mk 1 0 ([]:(List Ql))))]:List QX) ([2]:List Int) 0 (0,0,0)))),.v (.bd []) [] (.sl 14 (([(QA.mk (⟨#[116]⟩:ByteArray) ([]:(List QaA)) (Ql.mk 1 1 ([]:(List Ql))) 1 1 ([(QX.mk 0 (Ql.mk 1 0 ([]:(List Ql))))]:List QX) ([(QX.mk 1 (Ql.mk 1 0 ([]:(List Ql))))]:List QX) ([]:(List Int)) 0 (0,0,0)),(QA.mk (⟨#[117]⟩:ByteArray) ([]:(List QaA)) (Ql.mk 1 1 ([]:(List Ql))) 1 1 ([(QX.mk 1 (Ql.mk 1 0 ([]:(List Ql))))]:List QX) ([(QX.mk 0 (Ql.mk 1 0 ([]:(List Ql))))]:List QX) ([2]:List Int) 0 (0,0,0))]:List QA).map Qh)),.v .no [] (.agg (Qe (Qk.mk ([(QO.mk (⟨#[110]⟩:ByteArray) 2 0 0 ([(⟨#[107]⟩:ByteArray)]:List ByteArray) 0 0)]:List QO) ([(QW.mk (⟨#[97]⟩:ByteArray) 0 ([]:QBg)),(QW.mk (⟨#[98]⟩:ByteArray) 0 ([]:QBg)),(QW.mk (⟨#[99]⟩:ByteArray) 0 ([]:QBg))]:List QW) ([(QA.mk (⟨#[116]⟩:ByteArray) ([]:(List QaA)) (Ql.mk 1 1 ([]:(List Ql))) 1 1 ([(QX.mk 0 (Ql.mk 1 0 ([]:(List Ql))))]:List QX) ([(QX.mk 1 (Ql.mk 1 0 ([]:(List Ql))))]:List QX) ([]:(List Int)) 0 (0,0,0)),(QA.mk (⟨#[117]⟩:ByteArray) ([]:(List QaA)) (Ql.mk 1 1 ([]:(List Ql))) 1 1 ([(QX.mk 1 (Ql.mk 1 0 ([]:(List Ql))))]:List QX) ([(QX.mk 0 (Ql.mk 1 0 ([]:(List Ql))))]:List QX) ([2]:List Int) 0 (0,0,0))]:List QA) 0 1))),.n 1,.O 0 (.var (Qe (Qk.mk ([(QO.mk (⟨#[110]⟩:ByteArray) 2 0 0 ([(⟨#[107]⟩:ByteArray)]:List ByteArray) 0 0)]:List QO) ([(QW.mk (⟨#[97]⟩:ByteArray) 0 ([]:QBg)),(QW.mk (⟨#[98]⟩:ByteArray) 0 ([]:QBg)),(QW.mk (⟨#[99]⟩:ByteArray) 0 ([]:QBg))]:List QW) ([(QA.mk (⟨#[116]⟩:ByteArray) ([]:(List QaA)) (Ql.mk 1 1 ([]:(List Ql))) 1 1 ([(QX.mk 0 (Ql.mk 1 0 ([]:(List Ql))))]:List QX) ([(QX.mk 1 (Ql.mk 1 0 ([]:(List Ql))))]:List QX) ([]:(List Int)) 0 (0,0,0)),(QA.mk (⟨#[117]⟩:ByteArray) ([]:(List QaA)) (Ql.mk 1 1 ([]:(List Ql))) 1 1 ([(QX.mk 1 (Ql.mk 1 0 ([]:(List Ql))))]:List QX) ([(QX.mk 0 (Ql.mk 1 0 ([]:(List Ql))))]:List QX) ([2]:List Int) 0 (0,0,0))]:List QA) 0 1))),.n 3,.K [0] [0]] rfl ⟨⟨⟨⟨⟨⟨⟨⟨⟨⟨⟨⟨⟨⟨⟨⟨⟨⟨⟨⟨⟨⟨⟨⟨⟨⟨⟨⟨⟨⟨⟨tt_,rfl⟩,rfl⟩,rfl⟩,rfl⟩,rfl⟩,rfl⟩,rfl⟩,rfl⟩,rfl⟩,rfl⟩,rfl⟩,rfl⟩,rfl⟩,rfl⟩,rfl⟩,rfl⟩,rfl⟩,rfl⟩,rfl⟩,rfl⟩,rfl⟩,rfl⟩,rfl⟩,rfl⟩,rfl⟩,rfl⟩,rfl⟩,rfl⟩,rfl⟩,rfl⟩,rfl⟩ ?_
 cases h
 exact AK.done (ex_ [_] (an_ (an_ (ex_ _ (ex_ _ (an_ rfl (an_ rfl (Or.inl (an_ (Qs.ag rfl) (an_ (Qs.sz rfl) rfl))))))) tt_) (gives tt_)))
def Qea (a:QLL):Option QLL:=
 some a
def Qo0 (b:Int)(a:Int)(c:(List Int)):Option ((Int×(List Int))⊕(List Int)):=
 bif (decide (a<b))then
 (chk (decide (c.length+([a]:List Int).length≤4294967296))).bind fun _=>
 some (.inl ((w64 (a+1)),(c++([a]:List Int))))
 else
 some (.inr c)
def Qo1 (a:(List Int)):Option QLL:=
 some ([a]:List (List Int))
def Qo2 (b:Int)(a:Int)(c:QLL):Option ((Int×QLL)⊕QLL):=
 bif (decide (a<b))then
 (chk (decide (c.length+([([a]:List Int)]:List (List Int)).length≤4294967296))).bind fun _=>
 some (.inl ((w64 (a+1)),(c++([([a]:List Int)]:List (List Int)))))
 else
 some (.inr c)
def QlP (a:QLL):Option QLL:=
 Qea a
def QlQ (a:Int)(b:(List Int)):Option ((Int×(List Int))⊕(List Int)):=
 some (.inl ((w64 (a+1)),b))
def Qo3 (c:Int)(set_33:Int)(a:Int)(b:(List Int)):Option ((Int×(List Int))⊕(List Int)):=
 bif (decide (a<c))then
 (chk (decide (0≤a))).bind fun _=>
 bif ((QdW .i64 (Qem .i64 set_33 a) 1)==1)then
 (chk (decide (b.length+([a]:List Int).length≤4294967296))).bind fun _=>
 QlQ a (b++([a]:List Int))
 else
 QlQ a b
 else
 some (.inr b)
def Qo4 (a:QLL)(set_33:Int)(b:(List Int)):Option ((Int×QLL)⊕QLL):=
 (chk (decide (a.length+([b]:List (List Int)).length≤4294967296))).bind fun _=>
 some (.inl ((w64 (set_33+1)),(a++([b]:List (List Int)))))
def Qo5 (a:Int)(set_33:Int)(b:QLL):Option ((Int×QLL)⊕QLL):=
 (chk (decide (0≤a))).bind fun _=>
 bif (decide (set_33<(QBs .i64 1 a)))then
 (QE (fun st=>Qo3 a set_33 st.1 st.2) (0,([]:List Int))).bind (fun q=>Qo4 b set_33 q)
 else
 some (.inr b)
def QkA (a:QLL):Option QLL:=
 Qea a
def QaF (b:Int)(a:Int):Option QLL:=
 bif ((decide (a<0))||((decide (16<a))||((b==3)&&(decide (4<a)))))then
 some ([]:List (List Int))
 else
 bif (b==1)then
 (QE (fun st=>Qo0 a st.1 st.2) (0,([]:List Int))).bind (fun q=>Qo1 q)
 else
 bif (b==2)then
 (QE (fun st=>Qo2 a st.1 st.2) (0,([]:List (List Int)))).bind (fun q=>QlP q)
 else
 bif (b==3)then
 (QE (fun st=>Qo5 a st.1 st.2) (1,([]:List (List Int)))).bind (fun q=>QkA q)
 else
 Qea ([]:List (List Int))
theorem QfI (c a){r}(h:QaF c a=some r):Qd prog 38 [.I c,.I a] [] (Gives (.own 600 r.length) [(600,.arr 1 (r.map Qj))]):=by
 refine Qd.walk 79 func38 rfl rfl rfl fun C hC=>?_
 unfold QaF at h
 refine tg_ hC [.n 7] rfl ?_
 refine AK.meetX (fun σ=>σ=⟨[(0,.I c),(1,.I a),(25,.b ((decide (a<0))||((decide (16<a))||((c==3)&&(decide (4<a))))))],[]⟩) ?_ ?_
 ·refine tg_ hC [.n 4] rfl ?_
  rcases Q0 (decide (a<0))with f | f
  ·refine Qa hC [.S 14 (.b true),.n 12,.S 25 (.b ((decide (a<0))||((decide (16<a))||((c==3)&&(decide (4<a)))))),.K [0,1,25] []] rfl ⟨(tc_ f),(congrArg V.b (orT f rfl))⟩ ?_
   exact AK.met rfl
  refine Qa hC [.S 14 (.b false),.n 4] rfl (tc_ f) ?_
  rcases Q0 (decide (16<a))with i | i
  ·refine Qa hC [.S 18 (.b true),.n 8,.S 25 (.b ((decide (a<0))||((decide (16<a))||((c==3)&&(decide (4<a)))))),.K [0,1,25] []] rfl ⟨(tc_ i),(congrArg V.b (orF f (orT i rfl)))⟩ ?_
   exact AK.met rfl
  refine Qa hC [.S 18 (.b false),.n 3] rfl (tc_ i) ?_
  rcases Q0 (c==3)with j | j
  ·refine Qa hC [.S 21 (.b true),.n 5,.S 25 (.b ((decide (a<0))||((decide (16<a))||((c==3)&&(decide (4<a)))))),.K [0,1,25] []] rfl ⟨(tc_ j),(congrArg V.b (orF f (orF i (Qcy j rfl))))⟩ ?_
   exact AK.met rfl
  refine Qa hC [.S 21 (.b false),.n 5,.S 25 (.b ((decide (a<0))||((decide (16<a))||((c==3)&&(decide (4<a)))))),.K [0,1,25] []] rfl ⟨(tc_ j),(congrArg V.b (orF f (orF i (QeJ j rfl))))⟩ ?_
  exact AK.met rfl
 rintro σ rfl
 refine tg_ hC [.n 1] rfl ?_
 refine bg_ h (fun E h=>Qa hC [.T,.n 7,.adopt 4 600 1,.O 600 (.arr 1 (([]:List (List Int)).map Qj)),.S 4 (.own 600 ([]:List (List Int)).length),.K [4] [600]] rfl ⟨⟨⟨tt_,E⟩,rfl⟩,rfl⟩ ?_) fun E h=>Qa hC [.F,.n 7] rfl ⟨tt_,E⟩ ?_
 ·cases h
  exact d1_ rfl rfl ⟨rfl,tt_⟩
 refine AK.meet (fun σ=>∃y:QLL,σ=⟨[(5,.own 604 y.length)],[(604,.arr 1 (y.map Qj))]⟩∧Qea y=some r) ?_ ?_
 ·refine tg_ hC [.n 12] rfl ?_
  refine bg_ h (fun k h=>Qa hC [.T,.n 13,.adopt 6 33 1,.O 33 (.arr 1 (([]:List Int).map Qb)),.S 6 (.own 33 ([]:List Int).length),.K [6,29,30] [33]] rfl ⟨⟨⟨tt_,k⟩,rfl⟩,(congrArg (fun n=>V.own 33 n) (by simp))⟩ ?_) fun k h=>Qa hC [.F,.n 6] rfl ⟨tt_,k⟩ ?_
  ·obtain⟨z,H,h⟩:=Qc h
   refine AK.loop (body:=(fun st=>Qo0 a st.1 st.2)) (fun st σ=>σ=⟨[(6,.own 33 st.2.length),(29,.I a),(30,.I st.1)],[(33,.arr 1 (st.2.map Qb))]⟩) (fun q e σ=>e=.exit 1∧σ=⟨[(6,.own 33 q.length)],[(33,.arr 1 (q.map Qb))]⟩) H rfl ?_ ?_
   ·rintro ⟨G,J⟩ o σ rfl h
    refine tg_ hC [.n 6] rfl ?_
    rcases Qt h with⟨l,h⟩|⟨l,h⟩
    ·obtain⟨L,h⟩:=QaE h
     refine Qa hC [.T,.n 13,.v (.bd []) [] (.sl 1 (([G]:List Int).map Qb)),.app ((J++([G]:List Int)).map Qb) (J++([G]:List Int)).length,.n 8,.K [6,29,30] [33]] rfl ⟨⟨⟨tt_,l⟩,rfl⟩,⟨Qg,Qgj L Qg,Qc1,QfN Qg⟩⟩ ?_
     cases h
     exact QZ rfl rfl
    refine Qa hC [.F,.n 2,.K [6] [33]] rfl ⟨tt_,l⟩ ?_
    cases h
    exact Q1 rfl (an_ rfl rfl)
   replace h:Qo1 z=some r:=h
   rintro e σ ⟨rfl,rfl⟩
   refine Qa hC [.n 5,.frz 33 (z.map Qb) [6,38] [],.n 1,.O 39 (.arr 1 (([z]:List (List Int)).map Qj)),.S 39 (.own 39 ([z]:List (List Int)).length),.n 6,.K [4] [39],.ren 39 600] rfl ⟨⟨⟨tt_,⟨⟨tt_,(Qci Qg)⟩,(Qci Qg)⟩⟩,rfl⟩,rfl⟩ ?_
   cases h
   exact d1_ rfl rfl ⟨rfl,tt_⟩
  refine bg_ h (fun m h=>Qa hC [.T,.n 7,.adopt 5 46 1,.O 46 (.arr 1 (([]:List (List Int)).map Qj)),.S 5 (.own 46 ([]:List (List Int)).length),.K [5,42,43] [46]] rfl ⟨⟨⟨tt_,m⟩,rfl⟩,(congrArg (fun n=>V.own 46 n) (by simp))⟩ ?_) fun m h=>Qa hC [.F,.n 6] rfl ⟨tt_,m⟩ ?_
  ·obtain⟨a2,M,h⟩:=Qc h
   refine AK.loop (body:=(fun st=>Qo2 a st.1 st.2)) (fun st σ=>σ=⟨[(5,.own 46 st.2.length),(42,.I a),(43,.I st.1)],[(46,.arr 1 (st.2.map Qj))]⟩) (fun q e σ=>e=.exit 3∧σ=⟨[(5,.own 46 q.length)],[(46,.arr 1 (q.map Qj))]⟩) M rfl ?_ ?_
   ·rintro ⟨A,N⟩ o σ rfl h
    refine tg_ hC [.n 6] rfl ?_
    rcases Qt h with⟨p,h⟩|⟨p,h⟩
    ·obtain⟨P,h⟩:=QaE h
     refine Qa hC [.T,.n 13,.v (.bd []) [] (.sl 1 (([A]:List Int).map Qb)),.v (.bd []) [] (.sl 1 (([([A]:List Int)]:List (List Int)).map Qj)),.app ((N++([([A]:List Int)]:List (List Int))).map Qj) (N++([([A]:List Int)]:List (List Int))).length,.n 8,.K [5,42,43] [46]] rfl ⟨⟨⟨⟨tt_,p⟩,rfl⟩,rfl⟩,⟨Qg,Qgj P Qg,Qc1,QfN Qg⟩⟩ ?_
     cases h
     exact QZ rfl rfl
    refine Qa hC [.F,.n 2,.K [5] [46]] rfl ⟨tt_,p⟩ ?_
    cases h
    exact Q1 rfl (an_ rfl rfl)
   replace h:QlP a2=some r:=h
   unfold QlP at h
   rintro e σ ⟨rfl,rfl⟩
   refine tg_ hC [.n 2,.ren 46 604,.K [5] [604]] rfl ?_
   exact AK.met (ex_ _ (an_ rfl h))
  refine bg_ h (fun s h=>Qa hC [.T,.n 6,.adopt 5 74 1,.O 74 (.arr 1 (([]:List (List Int)).map Qj)),.S 5 (.own 74 ([]:List (List Int)).length),.K [1,5,9] [74]] rfl ⟨⟨⟨tt_,s⟩,rfl⟩,(congrArg (fun n=>V.own 74 n) (by simp))⟩ ?_) fun s h=>Qa hC [.F,.n 2,.adopt 5 604 1,.O 604 (.arr 1 (([]:List (List Int)).map Qj)),.S 5 (.own 604 ([]:List (List Int)).length),.K [5] [604]] rfl ⟨⟨⟨tt_,s⟩,rfl⟩,(congrArg (fun n=>V.own 604 n) (by simp))⟩ ?_
  ·obtain⟨a3,U,h⟩:=Qc h
   refine AK.loop (body:=(fun st=>Qo5 a st.1 st.2)) (fun st σ=>σ=⟨[(1,.I a),(5,.own 74 st.2.length),(9,.I st.1)],[(74,.arr 1 (st.2.map Qj))]⟩) (fun q e σ=>e=.exit 5∧σ=⟨[(5,.own 74 q.length)],[(74,.arr 1 (q.map Qj))]⟩) U rfl ?_ ?_
   ·rintro ⟨set_33,d⟩ o σ rfl h
    obtain⟨W,h⟩:=QaE h
    refine Qa hC [.n 5,.o (.any (.I (QBs .i64 1 a)) none),.n 3] rfl ⟨tt_,(fun σ D h2 _=>Stp.shl rfl rfl (QH hC.n rfl) (D _ _ rfl) (D _ _ rfl) (QV W))⟩ ?_
    refine bg_ h (fun t h=>Qa hC [.T,.n 17,.adopt 10 69 1,.O 69 (.arr 1 (([]:List Int).map Qb)),.S 10 (.own 69 ([]:List Int).length),.K [1,5,9,10,60,61] [69,74]] rfl ⟨⟨⟨tt_,t⟩,rfl⟩,(congrArg (fun n=>V.own 69 n) (by simp))⟩ ?_) fun t h=>Qa hC [.F,.n 2,.K [5] [74]] rfl ⟨tt_,t⟩ ?_
    ·obtain⟨u,X,h⟩:=Qc h
     refine AK.loop (body:=(fun st=>Qo3 a set_33 st.1 st.2)) (fun st σ=>σ=⟨[(1,.I a),(5,.own 74 d.length),(9,.I set_33),(10,.own 69 st.2.length),(60,.I a),(61,.I st.1)],[(69,.arr 1 (st.2.map Qb)),(74,.arr 1 (d.map Qj))]⟩) (fun q e σ=>e=.exit 7∧σ=⟨[(1,.I a),(5,.own 74 d.length),(9,.I set_33),(10,.own 69 q.length)],[(69,.arr 1 (q.map Qb)),(74,.arr 1 (d.map Qj))]⟩) X rfl ?_ ?_
     ·rintro ⟨g,Y⟩ o σ rfl h
      refine tg_ hC [.n 6] rfl ?_
      refine bg_ h (fun w h=>Qa hC [.T,.n 2] rfl ⟨tt_,w⟩ ?_) fun w h=>Qa hC [.F,.n 2,.K [1,5,9,10] [69,74]] rfl ⟨tt_,w⟩ ?_
      ·refine AK.meet (fun σ=>∃B:(List Int),σ=⟨[(1,.I a),(5,.own 74 d.length),(9,.I set_33),(10,.own 69 B.length),(60,.I a),(61,.I g)],[(69,.arr 1 (B.map Qb)),(74,.arr 1 (d.map Qj))]⟩∧QlQ g B=some o) ?_ ?_
       ·obtain⟨Z,h⟩:=QaE h
        refine Qa hC [.n 11,.o (.any (.I (Qem .i64 set_33 g)) none),.o (.any (.I (QdW .i64 (Qem .i64 set_33 g) 1)) none),.n 3] rfl ⟨⟨tt_,(fun σ D h2 _=>Stp.shr rfl rfl (QH hC.n rfl) (D _ _ rfl) (D _ _ rfl) (QV Z))⟩,(fun σ D h2 _=>Stp.andB rfl rfl (QH hC.n rfl) (D _ _ rfl) (D _ _ rfl))⟩ ?_
        rcases Qt h with⟨x,h⟩|⟨x,h⟩
        ·obtain⟨a0,h⟩:=QaE h
         refine Qa hC [.T,.n 3,.v (.bd []) [] (.sl 1 (([g]:List Int).map Qb)),.app ((Y++([g]:List Int)).map Qb) (Y++([g]:List Int)).length,.n 3,.K [1,5,9,10,60,61] [69,74]] rfl ⟨⟨⟨tt_,x⟩,rfl⟩,⟨Qg,Qgj a0 Qg,Qc1,QfN Qg⟩⟩ ?_
         exact AK.met (ex_ _ (an_ rfl h))
        refine Qa hC [.F,.n 2,.K [1,5,9,10,60,61] [69,74]] rfl ⟨tt_,x⟩ ?_
        exact AK.met (ex_ _ (an_ rfl h))
       rintro σ ⟨B,rfl,h⟩
       refine tg_ hC [.n 4,.K [1,5,9,10,60,61] [69,74]] rfl ?_
       cases h
       exact QZ rfl rfl
      cases h
      exact Q1 rfl (an_ rfl rfl)
     replace h:Qo4 d set_33 u=some o:=h
     rintro e σ ⟨rfl,rfl⟩
     obtain⟨a1,h⟩:=QaE h
     refine Qa hC [.n 5,.frz 69 (u.map Qb) [10,75] [],.v (.bd []) [] (.sl 1 (([u]:List (List Int)).map Qj)),.app ((d++([u]:List (List Int))).map Qj) (d++([u]:List (List Int))).length,.n 9,.K [1,5,9] [74]] rfl ⟨⟨⟨tt_,⟨⟨tt_,(Qci Qg)⟩,(Qci Qg)⟩⟩,rfl⟩,⟨Qg,Qgj a1 Qg,Qc1,QfN Qg⟩⟩ ?_
     cases h
     exact QZ rfl rfl
    cases h
    exact Q1 rfl (an_ rfl rfl)
   replace h:QkA a3=some r:=h
   unfold QkA at h
   rintro e σ ⟨rfl,rfl⟩
   refine tg_ hC [.n 2,.ren 74 604,.K [5] [604]] rfl ?_
   exact AK.met (ex_ _ (an_ rfl h))
  exact AK.met (ex_ _ (an_ rfl h))
 rintro σ ⟨y,rfl,h⟩
 refine tg_ hC [.n 7,.K [4] [604],.ren 604 600] rfl ?_
 cases h
 exact d1_ rfl rfl ⟨rfl,tt_⟩
def QeL (b:(List Int))(a:Int)(c:Int):Option (List Int):=
 bif ((decide (0≤a))&&(decide (a<(b.length:Int))))then
 (idx b a).bind fun d=>
 (idx b a).bind fun e=>
 some (b.set a.toNat (w64 (d+c)))
 else
 some b
theorem Qo6 (d a i){r}(h:QeL d a i=some r):Qd prog 39 [.own 615 d.length,.I a,.I i] [(615,.arr 1 (d.map Qb))] (Gives (.tup []) [(615,.arr 1 (r.map Qb))]):=by
 refine Qd.walk 21 func39 rfl rfl rfl fun C hC=>?_
 refine tg_ hC [.n 1] rfl ?_
 refine AK.meetX (fun σ=>σ=⟨[(0,.own 615 d.length),(1,.I a),(2,.I i),(13,.b ((decide (0≤a))&&(decide (a<(d.length:Int)))))],[(615,.arr 1 (d.map Qb))]⟩) ?_ ?_
 ·refine tg_ hC [.n 4] rfl ?_
  rcases Q0 (decide (0≤a))with c | c
  ·refine Qa hC [.S 8 (.b true),.n 6,.S 13 (.b ((decide (0≤a))&&(decide (a<(d.length:Int))))),.K [0,1,2,13] [615]] rfl ⟨(tc_ c),(congrArg V.b (Qcy c rfl))⟩ ?_
   exact AK.met rfl
  refine Qa hC [.S 8 (.b false),.n 6,.S 13 (.b ((decide (0≤a))&&(decide (a<(d.length:Int))))),.K [0,1,2,13] [615]] rfl ⟨(tc_ c),(congrArg V.b (QeJ c rfl))⟩ ?_
  exact AK.met rfl
 rintro σ rfl
 refine tg_ hC [.n 1] rfl ?_
 rcases Qt h with⟨f,h⟩|⟨f,h⟩
 ·obtain⟨k,g,h⟩:=Qc h
  obtain⟨j,e,h⟩:=Qc h
  refine Qa hC [.T,.n 4,.o (.row (Qb k)),.n 3,.st (Qb j) ((d.set a.toNat (w64 (k+i))).map Qb),.n 1,.K [] [615]] rfl ⟨⟨⟨⟨⟨tt_,f⟩,(Qbx g rfl)⟩,(QaJ (Qca g).2)⟩,(Qbx e rfl)⟩,⟨(QaJ (Qca e).2),Qe7 rfl⟩⟩ ?_
  cases h
  refine AK.done ?_
  exact ex_ [] (an_ tt_ (gives ⟨rfl,tt_⟩))
 refine Qa hC [.F,.n 1,.K [] [615]] rfl ⟨tt_,f⟩ ?_
 cases h
 refine AK.done ?_
 exact ex_ [] (an_ tt_ (gives ⟨rfl,tt_⟩))
def Qb4 (c:(List Int))(e:QA)(a:Int)(b:(List Int)):Option ((Int×(List Int))⊕(List Int)):=
 bif (decide (a<(c.length:Int)))then
 (idx c a).bind fun f=>
 (idx e.Ins f).bind fun g=>
 (QeL b g.Place (-1)).bind fun d=>
 (chk (decide (d.length=b.length))).bind fun _=>
 some (.inl ((w64 (a+1)),d))
 else
 some (.inr b)
def Qb5 (c:(List Int))(e:QA)(a:Int)(b:(List Int)):Option ((Int×(List Int))⊕(List Int)):=
 bif (decide (a<(c.length:Int)))then
 (idx c a).bind fun f=>
 (idx e.Outs f).bind fun g=>
 (QeL b g.Place 1).bind fun d=>
 (chk (decide (d.length=b.length))).bind fun _=>
 some (.inl ((w64 (a+1)),d))
 else
 some (.inr b)
def QdD (a:QLL)(c:Int)(b:(List Int)):Option ((Int×QLL)⊕QLL):=
 (chk (decide (a.length+([b]:List (List Int)).length≤4294967296))).bind fun _=>
 some (.inl ((w64 (c+1)),(a++([b]:List (List Int)))))
def QdE (a:(List Int))(b:QA)(c:QLL)(d:Int)(e:(List Int)):Option ((Int×QLL)⊕QLL):=
 (QE (fun st=>Qb5 a b st.1 st.2) (0,e)).bind (fun q=>QdD c d q)
def Qb6 (b:QLL)(c:Qk)(f:(List Int))(d:QA)(a:Int)(e:QLL):Option ((Int×QLL)⊕QLL):=
 bif (decide (a<(b.length:Int)))then
 (idx b a).bind fun g=>
 (chk (decide (0≤(c.Places.length:Int))&&decide ((c.Places.length:Int)≤(c.Places.length:Int))&&decide ((c.Places.length:Int)≤4294967296))).bind fun _=>
 (QE (fun st=>Qb4 f d st.1 st.2) (0,(List.replicate (c.Places.length:Int).toNat (0:Int)))).bind (fun q=>QdE g d e a q)
 else
 some (.inr e)
def QdF (a:Int)(b:QLL):Option ((Int×QLL)⊕QLL):=
 some (.inl ((w64 (a+1)),b))
def Qb7 (c:QLL)(a:QA)(g:Qk)(b:Int)(d:QLL):Option ((Int×QLL)⊕QLL):=
 bif (decide (b<(c.length:Int)))then
 (idx c b).bind fun e=>
 (QaF a.Split (a.Outs.length:Int)).bind fun f=>
 (QE (fun st=>Qb6 f g e a st.1 st.2) (0,d)).bind (fun q=>QdF b q)
 else
 some (.inr d)
def QdG (b:Int)(a:QLL):Option ((Int×QLL)⊕QLL):=
 some (.inl ((w64 (b+1)),a))
def QdH (b:Qk)(c:Int)(e:QLL):Option ((Int×QLL)⊕QLL):=
 bif (decide (c<(b.Tasks.length:Int)))then
 (idx b.Tasks c).bind fun a=>
 (QaF a.Join (a.Ins.length:Int)).bind fun d=>
 (QE (fun st=>Qb7 d a b st.1 st.2) (0,e)).bind (fun q=>QdG c q)
 else
 some (.inr e)
def QnR (a:QLL):Option QLL:=
 some a
def Qbc (a:Qk):Option QLL:=
 (QE (fun st=>QdH a st.1 st.2) (0,([]:List (List Int)))).bind (fun q=>QnR q)
theorem QkB (c){r}(h:Qbc c=some r):Qd prog 15 [.agg (Qe c)] [] (Gives (.own 600 r.length) [(600,.arr 1 (r.map Qj))]):=by
 refine Qd.walk 86 func15 rfl rfl rfl fun C hC=>?_
 refine Qa hC [.n 16,.o (.ln c.Tasks.length),.n 4,.adopt 3 78 1,.O 78 (.arr 1 (([]:List (List Int)).map Qj)),.S 3 (.own 78 ([]:List (List Int)).length),.K [1,3,16,17,18] [1,78]] rfl ⟨⟨⟨tt_,Qg⟩,rfl⟩,(congrArg (fun n=>V.own 78 n) (by simp))⟩ ?_
 obtain⟨l8,G,h⟩:=Qc h
 refine AK.loop (body:=(fun st=>QdH c st.1 st.2)) (fun st σ=>σ=⟨[(1,.loc 1 0 0),(3,.own 78 st.2.length),(16,.sl 14 (c.Tasks.map Qh)),(17,.I (c.Tasks.length:Int)),(18,.I st.1)],[(1,.var (Qe c)),(78,.arr 1 (st.2.map Qj))]⟩) (fun q e σ=>e=.exit 0∧σ=⟨[(3,.own 78 q.length)],[(78,.arr 1 (q.map Qj))]⟩) G rfl ?_ ?_
 ·rintro ⟨w,l5⟩ o σ rfl h
  refine tg_ hC [.n 6] rfl ?_
  rcases Qt h with⟨B,h⟩|⟨B,h⟩
  ·obtain⟨f,H,h⟩:=Qc h
   obtain⟨a,J,h⟩:=Qc h
   refine Qa hC [.T,.n 6,.o (.row (Qh f)),.v .no [] (.agg (Qh f)),.n 2,.O 5 (.var (Qh f)),.n 8,.o (.ln f.Ins.length),.o (.co false [.d,.d] 1 (a.map Qj) a.length),.n 5,.K [1,3,5,16,17,18,27,28,29] [1,5,27,78]] rfl ⟨⟨⟨⟨⟨⟨tt_,B⟩,(QJ H)⟩,rfl⟩,rfl⟩,Qg⟩,⟨(QfI _ _ J),Qg,.inl rfl⟩⟩ ?_
   obtain⟨a4,L,h⟩:=Qc h
   refine AK.loop (body:=(fun st=>Qb7 a f c st.1 st.2)) (fun st σ=>σ=⟨[(1,.loc 1 0 0),(3,.own 78 st.2.length),(5,.loc 5 0 0),(16,.sl 14 (c.Tasks.map Qh)),(17,.I (c.Tasks.length:Int)),(18,.I w),(27,.own 27 a.length),(28,.I (a.length:Int)),(29,.I st.1)],[(1,.var (Qe c)),(5,.var (Qh f)),(27,.arr 1 (a.map Qj)),(78,.arr 1 (st.2.map Qj))]⟩) (fun q e σ=>e=.exit 2∧σ=⟨[(1,.loc 1 0 0),(3,.own 78 q.length),(16,.sl 14 (c.Tasks.map Qh)),(17,.I (c.Tasks.length:Int)),(18,.I w)],[(1,.var (Qe c)),(78,.arr 1 (q.map Qj))]⟩) L rfl ?_ ?_
   ·rintro ⟨k,b1⟩ o σ rfl h
    refine tg_ hC [.n 6] rfl ?_
    rcases Qt h with⟨m,h⟩|⟨m,h⟩
    ·obtain⟨i,x,h⟩:=Qc h
     obtain⟨b,M,h⟩:=Qc h
     refine Qa hC [.T,.n 7,.o (.row (Qj i)),.n 9,.o (.ln f.Outs.length),.o (.co false [.d,.d] 1 (b.map Qj) b.length),.n 5,.K [1,3,5,7,16,17,18,27,28,29,38,39,40] [1,5,27,38,78]] rfl ⟨⟨⟨⟨⟨tt_,m⟩,(Qbx x rfl)⟩,(QaJ (Qca x).2)⟩,Qg⟩,⟨(QfI _ _ M),Qg,.inl rfl⟩⟩ ?_
     obtain⟨a5,N,h⟩:=Qc h
     refine AK.loop (body:=(fun st=>Qb6 b c i f st.1 st.2)) (fun st σ=>σ=⟨[(1,.loc 1 0 0),(3,.own 78 st.2.length),(5,.loc 5 0 0),(7,.sl 1 (i.map Qb)),(16,.sl 14 (c.Tasks.map Qh)),(17,.I (c.Tasks.length:Int)),(18,.I w),(27,.own 27 a.length),(28,.I (a.length:Int)),(29,.I k),(38,.own 38 b.length),(39,.I (b.length:Int)),(40,.I st.1)],[(1,.var (Qe c)),(5,.var (Qh f)),(27,.arr 1 (a.map Qj)),(38,.arr 1 (b.map Qj)),(78,.arr 1 (st.2.map Qj))]⟩) (fun q e σ=>e=.exit 4∧σ=⟨[(1,.loc 1 0 0),(3,.own 78 q.length),(5,.loc 5 0 0),(16,.sl 14 (c.Tasks.map Qh)),(17,.I (c.Tasks.length:Int)),(18,.I w),(27,.own 27 a.length),(28,.I (a.length:Int)),(29,.I k)],[(1,.var (Qe c)),(5,.var (Qh f)),(27,.arr 1 (a.map Qj)),(78,.arr 1 (q.map Qj))]⟩) N rfl ?_ ?_
     ·rintro ⟨l,g⟩ o σ rfl h
      refine tg_ hC [.n 6] rfl ?_
      rcases Qt h with⟨p,h⟩|⟨p,h⟩
      ·obtain⟨j,y,h⟩:=Qc h
       obtain⟨P,h⟩:=QaE h
       refine Qa hC [.T,.n 7,.o (.row (Qj j)),.n 7,.o (.ln c.Places.length),.o (.rows ((List.replicate (c.Places.length:Int).toNat (0:Int)).map Qb)),.S 47 (.own 47 (List.replicate (c.Places.length:Int).toNat (0:Int)).length),.n 7,.o (.ln i.length),.n 4,.K [1,3,5,7,9,10,16,17,18,27,28,29,38,39,40,48,49,50] [1,5,27,38,47,78]] rfl ⟨⟨⟨⟨⟨⟨⟨tt_,p⟩,(Qbx y rfl)⟩,(QaJ (Qca y).2)⟩,Qg⟩,⟨P,Qoy rfl⟩⟩,(by simp)⟩,Qg⟩ ?_
       obtain⟨a6,U,h⟩:=Qc h
       refine AK.loop (body:=(fun st=>Qb4 i f st.1 st.2)) (fun st σ=>σ=⟨[(1,.loc 1 0 0),(3,.own 78 g.length),(5,.loc 5 0 0),(7,.sl 1 (i.map Qb)),(9,.sl 1 (j.map Qb)),(10,.own 47 st.2.length),(16,.sl 14 (c.Tasks.map Qh)),(17,.I (c.Tasks.length:Int)),(18,.I w),(27,.own 27 a.length),(28,.I (a.length:Int)),(29,.I k),(38,.own 38 b.length),(39,.I (b.length:Int)),(40,.I l),(48,.sl 1 (i.map Qb)),(49,.I (i.length:Int)),(50,.I st.1)],[(1,.var (Qe c)),(5,.var (Qh f)),(27,.arr 1 (a.map Qj)),(38,.arr 1 (b.map Qj)),(47,.arr 1 (st.2.map Qb)),(78,.arr 1 (g.map Qj))]⟩) (fun q e σ=>e=.exit 6∧σ=⟨[(1,.loc 1 0 0),(3,.own 78 g.length),(5,.loc 5 0 0),(7,.sl 1 (i.map Qb)),(9,.sl 1 (j.map Qb)),(10,.own 47 q.length),(16,.sl 14 (c.Tasks.map Qh)),(17,.I (c.Tasks.length:Int)),(18,.I w),(27,.own 27 a.length),(28,.I (a.length:Int)),(29,.I k),(38,.own 38 b.length),(39,.I (b.length:Int)),(40,.I l)],[(1,.var (Qe c)),(5,.var (Qh f)),(27,.arr 1 (a.map Qj)),(38,.arr 1 (b.map Qj)),(47,.arr 1 (q.map Qb)),(78,.arr 1 (g.map Qj))]⟩) U rfl ?_ ?_
       ·rintro ⟨b2,b3⟩ o σ rfl h
        refine tg_ hC [.n 6] rfl ?_
        rcases Qt h with⟨s,h⟩|⟨s,h⟩
        ·obtain⟨a7,W,h⟩:=Qc h
         obtain⟨a8,X,h⟩:=Qc h
         obtain⟨D,Y,h⟩:=Qc h
         obtain⟨z,h⟩:=QaE h
         refine Qa hC [.T,.n 6,.o (.row (Qb a7)),.n 9,.o (.row (Q2 a8)),.n 2,.cm (.fn) [(615,47)] [(47,615)] [] [.d,.d,.d] [(615,.arr 1 (D.map Qb))] (.tup []),.S 10 (.own 47 D.length),.S 54 (.own 47 D.length),.n 7,.K [1,3,5,7,9,10,16,17,18,27,28,29,38,39,40,48,49,50] [1,5,27,38,47,78]] rfl ⟨⟨⟨⟨⟨⟨tt_,s⟩,(QJ W)⟩,(QJ X)⟩,(Qo6 _ _ _ Y)⟩,(by simp [QV z])⟩,(by simp [QV z])⟩ ?_
         cases h
         exact QZ rfl rfl
        refine Qa hC [.F,.n 2,.K [1,3,5,7,9,10,16,17,18,27,28,29,38,39,40] [1,5,27,38,47,78]] rfl ⟨tt_,s⟩ ?_
        cases h
        exact Q1 rfl (an_ rfl rfl)
       replace h:QdE j f g l a6=some o:=h
       rintro e σ ⟨rfl,rfl⟩
       refine Qa hC [.n 6,.o (.ln j.length),.n 4,.K [1,3,5,7,10,16,17,18,27,28,29,38,39,40,63,64,65] [1,5,27,38,47,78]] rfl ⟨tt_,Qg⟩ ?_
       obtain⟨t,Z,h⟩:=Qc h
       refine AK.loop (body:=(fun st=>Qb5 j f st.1 st.2)) (fun st σ=>σ=⟨[(1,.loc 1 0 0),(3,.own 78 g.length),(5,.loc 5 0 0),(7,.sl 1 (i.map Qb)),(10,.own 47 st.2.length),(16,.sl 14 (c.Tasks.map Qh)),(17,.I (c.Tasks.length:Int)),(18,.I w),(27,.own 27 a.length),(28,.I (a.length:Int)),(29,.I k),(38,.own 38 b.length),(39,.I (b.length:Int)),(40,.I l),(63,.sl 1 (j.map Qb)),(64,.I (j.length:Int)),(65,.I st.1)],[(1,.var (Qe c)),(5,.var (Qh f)),(27,.arr 1 (a.map Qj)),(38,.arr 1 (b.map Qj)),(47,.arr 1 (st.2.map Qb)),(78,.arr 1 (g.map Qj))]⟩) (fun q e σ=>e=.exit 8∧σ=⟨[(1,.loc 1 0 0),(3,.own 78 g.length),(5,.loc 5 0 0),(7,.sl 1 (i.map Qb)),(10,.own 47 q.length),(16,.sl 14 (c.Tasks.map Qh)),(17,.I (c.Tasks.length:Int)),(18,.I w),(27,.own 27 a.length),(28,.I (a.length:Int)),(29,.I k),(38,.own 38 b.length),(39,.I (b.length:Int)),(40,.I l)],[(1,.var (Qe c)),(5,.var (Qh f)),(27,.arr 1 (a.map Qj)),(38,.arr 1 (b.map Qj)),(47,.arr 1 (q.map Qb)),(78,.arr 1 (g.map Qj))]⟩) Z rfl ?_ ?_
       ·rintro ⟨b4,b5⟩ o σ rfl h
        refine tg_ hC [.n 6] rfl ?_
        rcases Qt h with⟨u,h⟩|⟨u,h⟩
        ·obtain⟨a9,a0,h⟩:=Qc h
         obtain⟨b0,a1,h⟩:=Qc h
         obtain⟨E,a2,h⟩:=Qc h
         obtain⟨A,h⟩:=QaE h
         refine Qa hC [.T,.n 6,.o (.row (Qb a9)),.n 9,.o (.row (Q2 b0)),.n 2,.cm (.fn) [(615,47)] [(47,615)] [] [.d,.d,.d] [(615,.arr 1 (E.map Qb))] (.tup []),.S 10 (.own 47 E.length),.S 69 (.own 47 E.length),.n 7,.K [1,3,5,7,10,16,17,18,27,28,29,38,39,40,63,64,65] [1,5,27,38,47,78]] rfl ⟨⟨⟨⟨⟨⟨tt_,u⟩,(QJ a0)⟩,(QJ a1)⟩,(Qo6 _ _ _ a2)⟩,(by simp [QV A])⟩,(by simp [QV A])⟩ ?_
         cases h
         exact QZ rfl rfl
        refine Qa hC [.F,.n 2,.K [1,3,5,7,10,16,17,18,27,28,29,38,39,40] [1,5,27,38,47,78]] rfl ⟨tt_,u⟩ ?_
        cases h
        exact Q1 rfl (an_ rfl rfl)
       replace h:QdD g l t=some o:=h
       rintro e σ ⟨rfl,rfl⟩
       obtain⟨a3,h⟩:=QaE h
       refine Qa hC [.n 5,.frz 47 (t.map Qb) [10,79] [],.v (.bd []) [] (.sl 1 (([t]:List (List Int)).map Qj)),.app ((g++([t]:List (List Int))).map Qj) (g++([t]:List (List Int))).length,.n 8,.K [1,3,5,7,16,17,18,27,28,29,38,39,40] [1,5,27,38,78]] rfl ⟨⟨⟨tt_,⟨⟨tt_,(Qci Qg)⟩,(Qci Qg)⟩⟩,rfl⟩,⟨Qg,Qgj a3 Qg,Qc1,QfN Qg⟩⟩ ?_
       cases h
       exact QZ rfl rfl
      refine Qa hC [.F,.n 2,.K [1,3,5,16,17,18,27,28,29] [1,5,27,78]] rfl ⟨tt_,p⟩ ?_
      cases h
      exact Q1 rfl (an_ rfl rfl)
     replace h:QdF k a5=some o:=h
     rintro e σ ⟨rfl,rfl⟩
     refine tg_ hC [.n 7,.K [1,3,5,16,17,18,27,28,29] [1,5,27,78]] rfl ?_
     cases h
     exact QZ rfl rfl
    refine Qa hC [.F,.n 2,.K [1,3,16,17,18] [1,78]] rfl ⟨tt_,m⟩ ?_
    cases h
    exact Q1 rfl (an_ rfl rfl)
   replace h:QdG w a4=some o:=h
   rintro e σ ⟨rfl,rfl⟩
   refine tg_ hC [.n 7,.K [1,3,16,17,18] [1,78]] rfl ?_
   cases h
   exact QZ rfl rfl
  refine Qa hC [.F,.n 2,.K [3] [78]] rfl ⟨tt_,B⟩ ?_
  cases h
  exact Q1 rfl (an_ rfl rfl)
 replace h:QnR l8=some r:=h
 rintro e σ ⟨rfl,rfl⟩
 refine tg_ hC [.n 9,.K [2] [78],.ren 78 600] rfl ?_
 cases h
 exact d1_ rfl rfl ⟨rfl,tt_⟩
def QkC (a:Int):Option Bool:=
 some (decide (4<(max2 a (w64 (0-a)))))
theorem Qr9 (a){r}(h:QkC a=some r):Qd prog 84 [.I a] [] (Gives (.b r) []):=by
 refine Qd.walk 8 func84 rfl rfl rfl fun C hC=>?_
 refine tg_ hC [.n 16] rfl ?_
 cases h
 exact d1_ rfl rfl tt_
def QaG (b:(List Int))(a:Int):Option (Int⊕(Int⊕Unit)):=
 bif (decide (a<(b.length:Int)))then
 (idx b a).bind fun c=>
 (QkC c).bind fun d=>
 bif d then
 some (.inr (.inl a))
 else
 some (.inl (w64 (a+1)))
 else
 some (.inr (.inr ()))
def Qgl (a:Int):Option Int:=
 some a
def Qgm : Option Int:=
 some (-1)
def Qep (a:(List Int)):Option Int:=
 (QE (fun st=>QaG a st) 0).bind (Sum.elim (fun q=>Qgl q) (fun q=>Qgm))
theorem QmJ (g){r}(h:Qep g=some r):Qd prog 80 [.sl 1 (g.map Qb),.clo (.func 84) [] []] [] (Gives (.I r) []):=by
 refine Qd.walk 19 func80 rfl rfl rfl fun C hC=>?_
 refine Qa hC [.n 9,.o (.ln g.length),.n 4,.K [0,1,7,8] []] rfl ⟨tt_,Qg⟩ ?_
 obtain⟨j,i,h⟩:=Qc h
 refine AK.loop (body:=(fun st=>QaG g st)) (fun st σ=>σ=⟨[(0,.sl 1 (g.map Qb)),(1,.clo (.func 84) [] []),(7,.I (g.length:Int)),(8,.I st)],[]⟩) (Sum.elim (fun q e σ=>e=.ret∧σ=⟨[(4,.I q)],[]⟩) (fun q e σ=>e=.exit 0∧σ=⟨[],[]⟩)) i rfl ?_ ?_
 ·rintro t o σ rfl h
  refine tg_ hC [.n 6] rfl ?_
  rcases Qt h with⟨f,h⟩|⟨f,h⟩
  ·obtain⟨m,k,h⟩:=Qc h
   obtain⟨p,l,h⟩:=Qc h
   refine Qa hC [.T,.n 15,.o (.row (Qb m)),.n 1,.o (.c false [.d] (.b p)),.n 2] rfl ⟨⟨⟨tt_,f⟩,(QJ k)⟩,(Qr9 _ l)⟩ ?_
   refine bg_ h (fun a h=>Qa hC [.T,.n 9,.K [4] []] rfl ⟨tt_,a⟩ ?_) fun a h=>Qa hC [.F,.n 7,.K [0,1,7,8] []] rfl ⟨tt_,a⟩ ?_
   ·cases h
    exact Qal rfl (an_ rfl rfl)
   cases h
   exact QZ rfl rfl
  refine Qa hC [.F,.n 2,.K [] []] rfl ⟨tt_,f⟩ ?_
  cases h
  exact Q1 rfl (an_ rfl rfl)
 rcases j with(s | _)
 ·replace h:Qgl s=some r:=h
  rintro e σ ⟨rfl,rfl⟩
  refine tg_ hC [.n 2] rfl ?_
  cases h
  exact d1_ rfl rfl tt_
 replace h:Qgm=some r:=h
 rintro e σ ⟨rfl,rfl⟩
 refine tg_ hC [.n 8] rfl ?_
 cases h
 exact d1_ rfl rfl tt_
def Qdu (a:(List Int)):Option Bool:=
 (Qep a).bind fun b=>
 some (decide (0≤b))
theorem Qk9 (c){r}(h:Qdu c=some r):Qd prog 47 [.sl 1 (c.map Qb),.clo (.func 84) [] []] [] (Gives (.b r) []):=by
 refine Qd.walk 9 func47 rfl rfl rfl fun C hC=>?_
 obtain⟨e,a,h⟩:=Qc h
 refine Qa hC [.n 9,.cm (.fn) [] [] [] [.d,.d] [] (.I e),.n 5] rfl ⟨tt_,(QmJ _ a)⟩ ?_
 cases h
 exact d1_ rfl rfl tt_
def QiH (a:(List Int)):Option Bool:=
 (Qdu a).bind fun b=>
 some b
theorem QtP (c){r}(h:QiH c=some r):Qd prog 51 [.sl 1 (c.map Qb)] [] (Gives (.b r) []):=by
 refine Qd.walk 5 func51 rfl rfl rfl fun C hC=>?_
 obtain⟨e,a,h⟩:=Qc h
 refine Qa hC [.n 8,.cm (.fn) [] [] [] [.d,.d] [] (.b e),.n 4] rfl ⟨tt_,(Qk9 _ a)⟩ ?_
 cases h
 exact d1_ rfl rfl tt_
def Qa5 (b:QLL)(a:Int):Option (Int⊕(Int⊕Unit)):=
 bif (decide (a<(b.length:Int)))then
 (idx b a).bind fun c=>
 (QiH c).bind fun d=>
 bif d then
 some (.inr (.inl a))
 else
 some (.inl (w64 (a+1)))
 else
 some (.inr (.inr ()))
def QhM (a:Int):Option Int:=
 some a
def QhN : Option Int:=
 some (-1)
def QfA (a:QLL):Option Int:=
 (QE (fun st=>Qa5 a st) 0).bind (Sum.elim (fun q=>QhM q) (fun q=>QhN))
theorem QnO (g){r}(h:QfA g=some r):Qd prog 83 [.sl 1 (g.map Qj),.clo (.func 51) [] []] [] (Gives (.I r) []):=by
 refine Qd.walk 19 func83 rfl rfl rfl fun C hC=>?_
 refine Qa hC [.n 9,.o (.ln g.length),.n 4,.K [0,1,7,8] []] rfl ⟨tt_,Qg⟩ ?_
 obtain⟨j,i,h⟩:=Qc h
 refine AK.loop (body:=(fun st=>Qa5 g st)) (fun st σ=>σ=⟨[(0,.sl 1 (g.map Qj)),(1,.clo (.func 51) [] []),(7,.I (g.length:Int)),(8,.I st)],[]⟩) (Sum.elim (fun q e σ=>e=.ret∧σ=⟨[(4,.I q)],[]⟩) (fun q e σ=>e=.exit 0∧σ=⟨[],[]⟩)) i rfl ?_ ?_
 ·rintro t o σ rfl h
  refine tg_ hC [.n 6] rfl ?_
  rcases Qt h with⟨f,h⟩|⟨f,h⟩
  ·obtain⟨m,k,h⟩:=Qc h
   obtain⟨p,l,h⟩:=Qc h
   refine Qa hC [.T,.n 15,.o (.row (Qj m)),.n 1,.o (.c false [.d] (.b p)),.n 2] rfl ⟨⟨⟨tt_,f⟩,(QJ k)⟩,(QtP _ l)⟩ ?_
   refine bg_ h (fun a h=>Qa hC [.T,.n 9,.K [4] []] rfl ⟨tt_,a⟩ ?_) fun a h=>Qa hC [.F,.n 7,.K [0,1,7,8] []] rfl ⟨tt_,a⟩ ?_
   ·cases h
    exact Qal rfl (an_ rfl rfl)
   cases h
   exact QZ rfl rfl
  refine Qa hC [.F,.n 2,.K [] []] rfl ⟨tt_,f⟩ ?_
  cases h
  exact Q1 rfl (an_ rfl rfl)
 rcases j with(s | _)
 ·replace h:QhM s=some r:=h
  rintro e σ ⟨rfl,rfl⟩
  refine tg_ hC [.n 2] rfl ?_
  cases h
  exact d1_ rfl rfl tt_
 replace h:QhN=some r:=h
 rintro e σ ⟨rfl,rfl⟩
 refine tg_ hC [.n 8] rfl ?_
 cases h
 exact d1_ rfl rfl tt_
def QcM (a:QLL):Option Bool:=
 (QfA a).bind fun b=>
 some (decide (0≤b))
theorem QmK (c){r}(h:QcM c=some r):Qd prog 48 [.sl 1 (c.map Qj),.clo (.func 51) [] []] [] (Gives (.b r) []):=by
 refine Qd.walk 9 func48 rfl rfl rfl fun C hC=>?_
 obtain⟨e,a,h⟩:=Qc h
 refine Qa hC [.n 9,.cm (.fn) [] [] [] [.d,.d] [] (.I e),.n 5] rfl ⟨tt_,(QnO _ a)⟩ ?_
 cases h
 exact d1_ rfl rfl tt_
def Qad (a:(List Int)):Option (List Int):=
 (chk (decide ((([]:List Int).length+a.length)*8≤140737488355328))).bind fun _=>
 some (([]:List Int)++a)
theorem Qa6 (a){r}(h:Qad a=some r):Qd prog 86 [.sl 1 (a.map Qb)] [] (Gives (.own 600 r.length) [(600,.arr 1 (r.map Qb))]):=by
 refine Qd.walk 8 func86 rfl rfl rfl fun C hC=>?_
 unfold Qad at h
 refine tg_ hC [.n 9] rfl ?_
 refine AK.eqNil rfl rfl rfl (QH hC.n rfl) rfl rfl QBA ?_ ?_
 ·intro b
  replace h:some ([]:List Int)=some r:=by simpa [chk,List.map_eq_nil_iff.1 b] using h
  refine Qa hC [.n 10,.adopt 2 600 1,.O 600 (.arr 1 (([]:List Int).map Qb)),.S 2 (.own 600 ([]:List Int).length)] rfl ⟨⟨tt_,rfl⟩,rfl⟩ ?_
  cases h
  exact d1_ rfl rfl ⟨rfl,tt_⟩
 obtain⟨c,h⟩:=QaE h
 refine Qa hC [.n 8,.O 5 (.arr 1 (([]:List Int).map Qb)),.S 5 (.own 5 ([]:List Int).length),.n 1,.x (fun σ=>σ.app 5 1 7 (([]:List Int)++a).length ((([]:List Int)++a).map Qb)),.n 4,.K [2] [5],.ren 5 600] rfl ⟨⟨⟨tt_,rfl⟩,rfl⟩,(Stp.appSB (by_:=8) (zs:=[.I 0]) (e:=3) (e':=3) (z':=1) (by':=8) rfl rfl (QH hC.n rfl) rfl rfl rfl Qg (by kernel_rfl) (by kernel_rfl) (by kernel_rfl) rfl (by decide) (by decide) (Qvr c Qg) rfl Qc1 (QfN Qg))⟩ ?_
 cases h
 exact d1_ rfl rfl ⟨rfl,tt_⟩
def Qie (b:Int)(a:Int):Option ((Int×Int)⊕Int):=
 bif (a != 0)then
 (chk (a != 0)).bind fun _=>
 some (.inl (a,(Int.tmod b a)))
 else
 some (.inr b)
def QnZ (a:Int):Option Int:=
 some (max2 a (w64 (0-a)))
def Qjs (a:Int)(b:Int):Option Int:=
 (QE (fun st=>Qie st.1 st.2) (a,b)).bind (fun q=>QnZ q)
theorem Qn0 (f g){r}(h:Qjs f g=some r):Qd prog 89 [.I f,.I g] [] (Gives (.I r) []):=by
 refine Qd.walk 15 func89 rfl rfl rfl fun C hC=>?_
 refine tg_ hC [.n 7,.K [0,1] []] rfl ?_
 obtain⟨i,c,h⟩:=Qc h
 refine AK.loop (body:=(fun st=>Qie st.1 st.2)) (fun st σ=>σ=⟨[(0,.I st.1),(1,.I st.2)],[]⟩) (fun q e σ=>e=.exit 0∧σ=⟨[(0,.I q)],[]⟩) c rfl ?_ ?_
 ·rintro ⟨j,k⟩ o σ rfl h
  refine tg_ hC [.n 7] rfl ?_
  rcases Qt h with⟨b,h⟩|⟨b,h⟩
  ·obtain⟨d,h⟩:=QaE h
   refine Qa hC [.T,.n 3,.K [0,1] []] rfl ⟨tt_,b⟩ ?_
   refine AK.draw2 Qs hC mixed [.N,.a .no none true true,.a .no none true,.a .no none true,.m .s,.m .s] [1] [] [0,1] [] rfl rfl rfl ⟨tt_,(neZ d)⟩ rfl (by kernel_rfl) rfl rfl rfl ?_
   refine tg_ hC [.n 1,.K [0,1] []] rfl ?_
   cases h
   exact QZ rfl rfl
  refine Qa hC [.F,.n 2,.K [0] []] rfl ⟨tt_,b⟩ ?_
  cases h
  exact Q1 rfl (an_ rfl rfl)
 replace h:QnZ i=some r:=h
 rintro e σ ⟨rfl,rfl⟩
 refine tg_ hC [.n 12] rfl ?_
 cases h
 exact d1_ rfl rfl tt_
def QlR (b:Int)(a:Int):Option Int:=
 (chk (a != 0)).bind fun _=>
 some (w64 (Int.tdiv b a))
theorem Qs7 (c a){r}(h:QlR c a=some r):Qd prog 161 [.I c,.loc 615 0 0] [(615,.var (Qb a))] (Gives (.I r) [(615,.var (Qb a))]):=by
 refine Qd.walk 7 func161 rfl rfl rfl fun C hC=>?_
 obtain⟨b,h⟩:=QaE h
 refine Qa hC [.n 14] rfl ⟨tt_,(neZ b)⟩ ?_
 cases h
 exact d1_ rfl rfl ⟨rfl,tt_⟩
def Qa7 (e:(List Int))(f:Int)(a:Int)(b:(List Int)):Option ((Int×(List Int))⊕(List Int)):=
 bif (decide (a<(e.length:Int)))then
 (idx e a).bind fun c=>
 (QlR c f).bind fun d=>
 (idx b a).bind fun g=>
 some (.inl ((w64 (a+1)),(b.set a.toNat d)))
 else
 some (.inr b)
def QjM (a:(List Int)):Option (List Int):=
 some a
def QhC (a:(List Int))(b:Int):Option (List Int):=
 (chk (decide (0≤(a.length:Int))&&decide ((a.length:Int)≤(a.length:Int))&&decide ((a.length:Int)≤4294967296))).bind fun _=>
 (QE (fun st=>Qa7 a b st.1 st.2) (0,(List.replicate (a.length:Int).toNat (0:Int)))).bind (fun q=>QjM q)
theorem Qpw (b f){r}(h:QhC b f=some r):Qd prog 160 [.sl 1 (b.map Qb),.clo (.func 161) [] [.loc 615 0 0]] [(615,.var (Qb f))] (Gives (.own 600 r.length) [(600,.arr 1 (r.map Qb)),(615,.var (Qb f))]):=by
 refine Qd.walk 26 func160 rfl rfl rfl fun C hC=>?_
 obtain⟨l,h⟩:=QaE h
 refine Qa hC [.n 8,.o (.ln b.length),.o (.rows ((List.replicate (b.length:Int).toNat (0:Int)).map Qb)),.S 10 (.own 10 (List.replicate (b.length:Int).toNat (0:Int)).length),.n 7,.o (.ln b.length),.n 4,.K [1,5,11,12,13] [10,615]] rfl ⟨⟨⟨⟨tt_,Qg⟩,⟨l,Qoy rfl⟩⟩,(by simp)⟩,Qg⟩ ?_
 obtain⟨m,i,h⟩:=Qc h
 refine AK.loop (body:=(fun st=>Qa7 b f st.1 st.2)) (fun st σ=>σ=⟨[(1,.clo (.func 161) [] [.loc 615 0 0]),(5,.own 10 st.2.length),(11,.sl 1 (b.map Qb)),(12,.I (b.length:Int)),(13,.I st.1)],[(10,.arr 1 (st.2.map Qb)),(615,.var (Qb f))]⟩) (fun q e σ=>e=.exit 0∧σ=⟨[(5,.own 10 q.length)],[(10,.arr 1 (q.map Qb)),(615,.var (Qb f))]⟩) i rfl ?_ ?_
 ·rintro ⟨t,u⟩ o σ rfl h
  refine tg_ hC [.n 6] rfl ?_
  rcases Qt h with⟨a,h⟩|⟨a,h⟩
  ·obtain⟨p,j,h⟩:=Qc h
   obtain⟨g,k,h⟩:=Qc h
   obtain⟨s,c,h⟩:=Qc h
   refine Qa hC [.T,.n 7,.o (.row (Qb p)),.n 10,.cm (.clo) [(615,615)] [(615,615)] [] [.d,.d] [(615,.var (Qb f))] (.I g),.n 1,.st (Qb s) ((u.set t.toNat g).map Qb),.n 7,.S 5 (.own 10 (u.set t.toNat g).length),.K [1,5,11,12,13] [10,615]] rfl ⟨⟨⟨⟨⟨⟨tt_,a⟩,(QJ j)⟩,(Qs7 _ _ k)⟩,(Qbx c rfl)⟩,⟨(QaJ (Qca c).2),Qe7 rfl⟩⟩,(congrArg (fun n=>V.own 10 n) (by simp))⟩ ?_
   cases h
   exact QZ rfl rfl
  refine Qa hC [.F,.n 2,.K [5] [10,615]] rfl ⟨tt_,a⟩ ?_
  cases h
  exact Q1 rfl (an_ rfl rfl)
 replace h:QjM m=some r:=h
 rintro e σ ⟨rfl,rfl⟩
 refine tg_ hC [.n 9,.K [4] [10,615],.ren 10 600] rfl ?_
 cases h
 exact d1_ rfl rfl ⟨rfl,rfl,tt_⟩
def QcQ (a:(List Int))(b:Int)(e:Int):Option ((Int×Int)⊕Int):=
 bif (decide (b<(a.length:Int)))then
 (idx a b).bind fun c=>
 (Qjs e c).bind fun d=>
 some (.inl ((w64 (b+1)),d))
 else
 some (.inr e)
def QkD (a:(List Int))(c:Int):Option (List Int):=
 bif (c==0)then
 some a
 else
 (QhC a c).bind fun b=>
 some b
def Qfl (a:(List Int)):Option (List Int):=
 (QE (fun st=>QcQ a st.1 st.2) (0,0)).bind (fun q=>QkD a q)
theorem QkE (a){r}(h:Qfl a=some r):Qd prog 85 [.sl 1 (a.map Qb)] [] (Gives (.sl 1 (r.map Qb)) []):=by
 refine Qd.walk 22 func85 rfl rfl rfl fun C hC=>?_
 refine Qa hC [.n 9,.O 3 (.var (Qb 0)),.n 6,.o (.ln a.length),.n 4,.K [0,3,6,7,8] [3]] rfl ⟨⟨tt_,rfl⟩,Qg⟩ ?_
 obtain⟨s,i,h⟩:=Qc h
 refine AK.loop (body:=(fun st=>QcQ a st.1 st.2)) (fun st σ=>σ=⟨[(0,.sl 1 (a.map Qb)),(3,.loc 3 0 0),(6,.sl 1 (a.map Qb)),(7,.I (a.length:Int)),(8,.I st.1)],[(3,.var (Qb st.2))]⟩) (fun q e σ=>e=.exit 0∧σ=⟨[(0,.sl 1 (a.map Qb)),(3,.loc 3 0 0)],[(3,.var (Qb q))]⟩) i rfl ?_ ?_
 ·rintro ⟨t,u⟩ o σ rfl h
  refine tg_ hC [.n 6] rfl ?_
  rcases Qt h with⟨b,h⟩|⟨b,h⟩
  ·obtain⟨p,j,h⟩:=Qc h
   obtain⟨k,l,h⟩:=Qc h
   refine Qa hC [.T,.n 6,.o (.row (Qb p)),.n 7,.o (.c false [.d,.d] (.I k)),.n 1,.O 3 (.var (Qb k)),.n 7,.K [0,3,6,7,8] [3]] rfl ⟨⟨⟨⟨tt_,b⟩,(QJ j)⟩,(Qn0 _ _ l)⟩,rfl⟩ ?_
   cases h
   exact QZ rfl rfl
  refine Qa hC [.F,.n 2,.K [0,3] [3]] rfl ⟨tt_,b⟩ ?_
  cases h
  exact Q1 rfl (an_ rfl rfl)
 replace h:QkD a s=some r:=h
 rintro e σ ⟨rfl,rfl⟩
 refine tg_ hC [.n 9] rfl ?_
 rcases Qt h with⟨f,h⟩|⟨f,h⟩
 ·refine Qa hC [.T,.n 8] rfl ⟨tt_,f⟩ ?_
  cases h
  exact d1_ rfl rfl tt_
 obtain⟨g,m,h⟩:=Qc h
 refine Qa hC [.F,.n 6,.cm (.fn) [(615,3)] [(21,600),(3,615)] [] [.d,.d] [(600,.arr 1 (g.map Qb)),(615,.var (Qb s))] (.own 600 g.length),.n 4,.frz 21 (g.map Qb) [2] []] rfl ⟨⟨⟨tt_,f⟩,(Qpw _ _ m)⟩,⟨tt_,(Qci Qg)⟩⟩ ?_
 cases h
 exact d1_ rfl rfl tt_
def Qbu (i:Int)(c:(List Int))(by_3:(List Int))(a:Int)(b:Int)(d:(List Int)):Option ((Int×(List Int))⊕(List Int)):=
 bif (decide (b<((List.replicate i.toNat (0:Int)).length:Int)))then
 (idx c b).bind fun e=>
 (idx by_3 a).bind fun f=>
 (idx by_3 b).bind fun g=>
 (idx c a).bind fun h=>
 (idx d b).bind fun j=>
 some (.inl ((w64 (b+1)),(d.set b.toNat (w64 ((w64 (e*f))-(w64 (g*h)))))))
 else
 some (.inr d)
def Qg4 (a:(List Int)):Option (List Int):=
 (Qfl a).bind fun b=>
 some b
def Qas (c:Int)(b:(List Int))(by_3:(List Int))(a:Int):Option (List Int):=
 (idx b a).bind fun d=>
 bif (d==0)then
 some b
 else
 (chk (decide (0≤c)&&decide (c≤c)&&decide (c≤4294967296))).bind fun _=>
 (QE (fun st=>Qbu c b by_3 a st.1 st.2) (0,(List.replicate c.toNat (0:Int)))).bind (fun q=>Qg4 q)
theorem Qeu (t f by_3 b){r}(h:Qas t f by_3 b=some r):Qd prog 87 [.agg [.I t,.J],.sl 1 (f.map Qb),.sl 1 (by_3.map Qb),.I b] [] (Gives (.sl 1 (r.map Qb)) []):=by
 refine Qd.walk 50 func87 rfl rfl rfl fun C hC=>?_
 obtain⟨L,E,h⟩:=Qc h
 refine Qa hC [.n 11,.o (.row (Qb L)),.n 4] rfl ⟨tt_,(QJ E)⟩ ?_
 rcases Qt h with⟨j,h⟩|⟨j,h⟩
 ·refine Qa hC [.T,.n 8] rfl ⟨tt_,j⟩ ?_
  cases h
  exact d1_ rfl rfl tt_
 obtain⟨G,h⟩:=QaE h
 refine Qa hC [.F,.n 6,.o (.rows ((List.replicate t.toNat (0:Int)).map Qb)),.S 19 (.own 19 (List.replicate t.toNat (0:Int)).length),.n 12,.K [1,2,3,9,21,22] [19]] rfl ⟨⟨⟨tt_,j⟩,⟨G,Qoy rfl⟩⟩,(by simp)⟩ ?_
 obtain⟨u,v,h⟩:=Qc h
 refine AK.loop (body:=(fun st=>Qbu t f by_3 b st.1 st.2)) (fun st σ=>σ=⟨[(1,.sl 1 (f.map Qb)),(2,.sl 1 (by_3.map Qb)),(3,.I b),(9,.own 19 st.2.length),(21,.I ((List.replicate t.toNat (0:Int)).length:Int)),(22,.I st.1)],[(19,.arr 1 (st.2.map Qb))]⟩) (fun q e σ=>e=.exit 0∧σ=⟨[(9,.own 19 q.length)],[(19,.arr 1 (q.map Qb))]⟩) v rfl ?_ ?_
 ·rintro ⟨w,x⟩ o σ rfl h
  refine tg_ hC [.n 6] rfl ?_
  rcases Qt h with⟨g,h⟩|⟨g,h⟩
  ·obtain⟨k,y,h⟩:=Qc h
   obtain⟨l,z,h⟩:=Qc h
   obtain⟨p,A,h⟩:=Qc h
   obtain⟨s,B,h⟩:=Qc h
   obtain⟨H,i,h⟩:=Qc h
   refine Qa hC [.T,.n 10,.K [1,2,3,9,10,21,22] [19]] rfl ⟨tt_,g⟩ ?_
   refine AK.draw2 Qs hC mixed [.N,.N,.N,.N,.a (.row (Qb k)) none false,.N,.N,.N,.a (.row (Qb l)) none false,.N,.N,.N,.N,.a (.row (Qb p)) none false,.N,.N,.N,.a (.row (Qb s)) none false,.N,.N,.N,.N,.m (.st (Qb H) ((x.set w.toNat (w64 ((w64 (k*l))-(w64 (p*s))))).map Qb))] [] [] [1,2,3,9,21,22] [19] rfl rfl rfl ⟨⟨⟨⟨⟨⟨tt_,(QJ y)⟩,(QJ z)⟩,(QJ A)⟩,(QJ B)⟩,(Qbx i rfl)⟩,⟨(QaJ (Qca i).2),Qe7 rfl⟩⟩ rfl (by kernel_rfl) rfl rfl rfl ?_
   refine Qa hC [.n 6,.S 9 (.own 19 (x.set w.toNat (w64 ((w64 (k*l))-(w64 (p*s))))).length),.K [1,2,3,9,21,22] [19]] rfl ⟨tt_,(congrArg (fun n=>V.own 19 n) (by simp))⟩ ?_
   cases h
   exact QZ rfl rfl
  refine Qa hC [.F,.n 2,.K [9] [19]] rfl ⟨tt_,g⟩ ?_
  cases h
  exact Q1 rfl (an_ rfl rfl)
 replace h:Qg4 u=some r:=h
 rintro e σ ⟨rfl,rfl⟩
 obtain⟨J,D,h⟩:=Qc h
 refine Qa hC [.n 5,.frz 19 (u.map Qb) [9,48] [],.o (.c false [.d] (.sl 1 (J.map Qb))),.n 4] rfl ⟨⟨tt_,⟨⟨tt_,(Qci Qg)⟩,(Qci Qg)⟩⟩,(QkE _ D)⟩ ?_
 cases h
 exact d1_ rfl rfl tt_
def QiI (a:Int):Option Bool:=
 some (a != 0)
theorem QqF (a){r}(h:QiI a=some r):Qd prog 88 [.I a] [] (Gives (.b r) []):=by
 refine Qd.walk 5 func88 rfl rfl rfl fun C hC=>?_
 refine tg_ hC [.n 13] rfl ?_
 cases h
 exact d1_ rfl rfl tt_
def Qak (b:(List Int))(a:Int):Option (Int⊕(Int⊕Unit)):=
 bif (decide (a<(b.length:Int)))then
 (idx b a).bind fun c=>
 (QiI c).bind fun d=>
 bif d then
 some (.inr (.inl a))
 else
 some (.inl (w64 (a+1)))
 else
 some (.inr (.inr ()))
def Qgn (a:Int):Option Int:=
 some a
def Qgo : Option Int:=
 some (-1)
def QbM (a:(List Int)):Option Int:=
 (QE (fun st=>Qak a st) 0).bind (Sum.elim (fun q=>Qgn q) (fun q=>Qgo))
theorem Qgp (g){r}(h:QbM g=some r):Qd prog 80 [.sl 1 (g.map Qb),.clo (.func 88) [] []] [] (Gives (.I r) []):=by
 refine Qd.walk 19 func80 rfl rfl rfl fun C hC=>?_
 refine Qa hC [.n 9,.o (.ln g.length),.n 4,.K [0,1,7,8] []] rfl ⟨tt_,Qg⟩ ?_
 obtain⟨j,i,h⟩:=Qc h
 refine AK.loop (body:=(fun st=>Qak g st)) (fun st σ=>σ=⟨[(0,.sl 1 (g.map Qb)),(1,.clo (.func 88) [] []),(7,.I (g.length:Int)),(8,.I st)],[]⟩) (Sum.elim (fun q e σ=>e=.ret∧σ=⟨[(4,.I q)],[]⟩) (fun q e σ=>e=.exit 0∧σ=⟨[],[]⟩)) i rfl ?_ ?_
 ·rintro t o σ rfl h
  refine tg_ hC [.n 6] rfl ?_
  rcases Qt h with⟨f,h⟩|⟨f,h⟩
  ·obtain⟨m,k,h⟩:=Qc h
   obtain⟨p,l,h⟩:=Qc h
   refine Qa hC [.T,.n 15,.o (.row (Qb m)),.n 1,.o (.c false [.d] (.b p)),.n 2] rfl ⟨⟨⟨tt_,f⟩,(QJ k)⟩,(QqF _ l)⟩ ?_
   refine bg_ h (fun a h=>Qa hC [.T,.n 9,.K [4] []] rfl ⟨tt_,a⟩ ?_) fun a h=>Qa hC [.F,.n 7,.K [0,1,7,8] []] rfl ⟨tt_,a⟩ ?_
   ·cases h
    exact Qal rfl (an_ rfl rfl)
   cases h
   exact QZ rfl rfl
  refine Qa hC [.F,.n 2,.K [] []] rfl ⟨tt_,f⟩ ?_
  cases h
  exact Q1 rfl (an_ rfl rfl)
 rcases j with(s | _)
 ·replace h:Qgn s=some r:=h
  rintro e σ ⟨rfl,rfl⟩
  refine tg_ hC [.n 2] rfl ?_
  cases h
  exact d1_ rfl rfl tt_
 replace h:Qgo=some r:=h
 rintro e σ ⟨rfl,rfl⟩
 refine tg_ hC [.n 8] rfl ?_
 cases h
 exact d1_ rfl rfl tt_
noncomputable def Qbn (s1:Int)(row10:(List Int))(k12:Int)(v13:(List Int)):Option ((List Int)⊕Empty):=
 (Qas s1 row10 v13 k12).bind fun x14=>
 some (.inl x14)
noncomputable def QaU (s1:Int)(row10:(List Int))(x16:Int)(m20:(List (Int×(List Int))))(k22:Int)(v23:(List Int)):Option ((List (Int×(List Int)))⊕Empty):=
 (Qas s1 v23 row10 x16).bind fun x24=>
 some (.inl (QaR ltI m20 k22 x24))
def Qif (b:Int)(a:(List Int))(c:(List (Int×(List Int)))):Option (List (Int×(List Int))):=
 some (QaR ltI c b a)
noncomputable def Qfm (m2:(List (Int×(List Int))))(s1:Int)(row10:(List Int)):Option (List (Int×(List Int))):=
 (QbM row10).bind fun x16=>
 bif (decide (x16<0))then
 some m2
 else
 (QcE (fun st p=>QaU s1 row10 x16 st p.1 p.2) m2 m2).bind (Sum.elim (fun q=>Qif x16 row10 q) (fun q=>Empty.elim q))
noncomputable def Qe9 (s1:Int)(m2:(List (Int×(List Int))))(row3:(List Int)):Option (List (Int×(List Int))):=
 (Qad row3).bind fun x6=>
 (Qfl x6).bind fun x7=>
 (QcE (fun st p=>Qbn s1 st p.1 p.2) x7 m2).bind (Sum.elim (fun q=>Qfm m2 s1 q) (fun q=>Empty.elim q))
theorem Qsa (u P E){r}(h:Qe9 u P E=some r):Qd prog 52 [.agg [.I u,.map 615],.sl 1 (E.map Qb)] [(615,.map (QB V.I (fun x=>V.sl 1 (x.map Qb)) P))] (Gives (.tup []) [(615,.map (QB V.I (fun x=>V.sl 1 (x.map Qb)) r))]):=by
 refine Qd.walk 49 func52 rfl rfl rfl fun C hC=>?_
 obtain⟨x6,a3,h⟩:=Qc h
 obtain⟨x7,a4,h⟩:=Qc h
 refine Qa hC [.n 8,.o (.co false [.d] 1 (x6.map Qb) x6.length),.frz 10 (x6.map Qb) [10] [],.o (.c false [.d] (.sl 1 (x7.map Qb))),.n 8] rfl ⟨⟨⟨tt_,⟨(Qa6 _ a3),Qg,.inl rfl⟩⟩,⟨tt_,(Qci Qg)⟩⟩,(QkE _ a4)⟩ ?_
 refine AK.openMapK (b:=615) Qen rfl fun B D L8 S a8 U=>?_
 refine Qa hC [.x (fun σ=>(σ.set 14 (.itr B D #[] none)).put 14 (.loc 14 0 0)),.n 3,.K [1,2,14] [2,14,615]] rfl ⟨tt_,(Stp.range (b:=615) rfl rfl (QH hC.n rfl) rfl rfl Qmt rfl)⟩ ?_
 obtain⟨a5,W,h⟩:=Qc h
 refine AK.range (body:=(fun st p=>Qbn u st p.1 p.2)) (fun st seen σ=>∃cur:Option Nat,σ=⟨[(1,.sl 1 (st.map Qb)),(2,.loc 2 0 0),(14,.loc 14 0 0)],[(2,.var [.I u,.map 615]),(14,.itr B D seen cur),(615,.mapX B D (Qbt V.I (fun x=>V.sl 1 (x.map Qb)) L8) (QB V.I (fun x=>V.sl 1 (x.map Qb)) P))]⟩) (fun (q:Empty) _ _=>False) (fun st e σ=>e=.exit 0∧σ=⟨[(1,.sl 1 (st.map Qb)),(2,.loc 2 0 0)],[(2,.var [.I u,.map 615]),(615,.mapX B D (Qbt V.I (fun x=>V.sl 1 (x.map Qb)) L8) (QB V.I (fun x=>V.sl 1 (x.map Qb)) P))]⟩) S U W (ex_ _ rfl) ?_ ?_
 ·rintro g seen σ ⟨cur,rfl⟩ hex
  refine tg_ hC [.n 2] rfl ?_
  refine AK.nextT (b:=14) (m:=615) rfl rfl rfl (QH hC.n rfl) rfl rfl rfl rfl ?_ ?_
  ·intro hleft
   refine tg_ hC [.n 7,.K [1,2] [2,615]] rfl ?_
   exact AK.done (Or.inl (an_ hleft (an_ (fun h=>(by cases h)) (an_ rfl rfl))))
  intro a9 X Y G
  obtain⟨o,h⟩:=hex _ G
  have ho:=h
  replace h:Qbn u g X Y=some o:=h
  obtain⟨a6,Z,h⟩:=Qc h
  refine Qa hC [.n 10,.x (fun σ=>σ.put 17 (.tup [.I X,.sl 1 (Y.map Qb)])),.n 11,.cm (.fn) [] [] [] [.f 1,.d,.d,.d] [] (.sl 1 (a6.map Qb)),.n 3,.K [1,2,14] [2,14,615]] rfl ⟨⟨tt_,(Stp.entryT (b:=14) (m:=615) (e:=V.I) (f:=(fun x=>V.sl 1 (x.map Qb))) rfl rfl (QH hC.n rfl) rfl G rfl rfl)⟩,(Qeu _ _ _ _ Z)⟩ ?_
  cases h
  exact AK.done (Or.inr (ex_ _ (an_ G (Or.inl (ex_ _ (an_ ho (an_ rfl (ex_ _ rfl))))))))
 rcases a5 with(g | q)
 ·replace h:Qfm P u g=some r:=h
  rintro e σ ⟨rfl,rfl⟩
  obtain⟨i,a0,h⟩:=Qc h
  refine Qa hC [.n 5,.cm (.fn) [] [] [] [.d,.d] [] (.I i),.n 10] rfl ⟨tt_,(Qgp _ a0)⟩ ?_
  refine bg_ h (fun w h=>Qa hC [.T,.n 2] rfl ⟨tt_,w⟩ ?_) fun w h=>Qa hC [.F,.n 7] rfl ⟨tt_,w⟩ ?_
  ·refine AK.closeMap (b:=615) rfl ?_
   refine tg_ hC [.K [] [615]] rfl ?_
   cases h
   refine AK.done ?_
   exact ex_ [] (an_ tt_ (gives ⟨rfl,tt_⟩))
  refine AK.closeMap (b:=615) rfl ?_
  refine AK.openMapK (b:=615) Qen rfl fun s t L18 H J M=>?_
  refine Qa hC [.x (fun σ=>(σ.set 31 (.itr s t #[] none)).put 31 (.loc 31 0 0)),.n 3,.K [1,2,6,31] [2,31,615]] rfl ⟨tt_,(Stp.range (b:=615) rfl rfl (QH hC.n rfl) rfl rfl Qmt rfl)⟩ ?_
  obtain⟨a7,a1,h⟩:=Qc h
  refine AK.range (body:=(fun st p=>QaU u g i st p.1 p.2)) (fun st seen σ=>∃(cur:Option Nat) (LU19:List (Nat×(Int×(List Int)))),Qfk L18 LU19 seen∧σ=⟨[(1,.sl 1 (g.map Qb)),(2,.loc 2 0 0),(6,.I i),(31,.loc 31 0 0)],[(2,.var [.I u,.map 615]),(31,.itr s t seen cur),(615,.mapX s t (Qbt V.I (fun x=>V.sl 1 (x.map Qb)) LU19) (QB V.I (fun x=>V.sl 1 (x.map Qb)) st))]⟩) (fun (q:Empty) _ _=>False) (fun st e σ=>e=.exit 2∧σ=⟨[(1,.sl 1 (g.map Qb)),(2,.loc 2 0 0),(6,.I i)],[(2,.var [.I u,.map 615]),(615,.map (QB V.I (fun x=>V.sl 1 (x.map Qb)) st))]⟩) H M a1 (ex_ _ (ex_ _ (an_ Qfk.refl rfl))) ?_ ?_
  ·rintro j seen σ ⟨cur,LU19,hU19,rfl⟩ hex
   refine tg_ hC [.n 2] rfl ?_
   refine AK.nextT (b:=31) (m:=615) rfl rfl rfl (QH hC.n rfl) rfl rfl rfl rfl ?_ ?_
   ·intro hleft
    replace hleft:=hU19.nil hleft
    refine AK.closeMap (b:=615) rfl ?_
    refine tg_ hC [.n 7,.K [1,2,6] [2,615]] rfl ?_
    exact AK.done (Or.inl (an_ hleft (an_ (fun h=>(by cases h)) (an_ rfl rfl))))
   intro b0 y O hq19z
   have z:=hU19.mem2 hq19z
   obtain⟨o,h⟩:=hex _ z
   have ho:=h
   replace h:QaU u g i j y O=some o:=h
   obtain⟨A,a2,h⟩:=Qc h
   refine Qa hC [.n 10,.x (fun σ=>σ.put 34 (.tup [.I y,.sl 1 (O.map Qb)])),.n 6,.K [1,2,6,7,8,31] [2,31,615]] rfl ⟨tt_,(Stp.entryT (b:=31) (m:=615) (e:=V.I) (f:=(fun x=>V.sl 1 (x.map Qb))) rfl rfl (QH hC.n rfl) rfl hq19z rfl rfl)⟩ ?_
   refine AK.draw2 Qs hC mixed [.N,.N,.N,.N,.N,.N,.N,.a (.any (.sl 1 (A.map Qb)) none) none false,.m (.any ⟨[],[(615,.mapX s t (Qbt V.I (fun x=>V.sl 1 (x.map Qb)) (QnY LU19 y A)) (QB V.I (fun x=>V.sl 1 (x.map Qb)) (QaR ltI j y A)))],none⟩)] [] [] [1,2,6,31] [2,31,615] rfl rfl rfl ⟨⟨tt_,(fun σ h1 h2 _=>Stp.callSame (md:=.cm (.fn) [] [] [] [.f 1,.d,.d,.d] [] (.sl 1 (A.map Qb)) []) Qs hC h1 h2 rfl ⟨tt_,(Qeu _ _ _ _ a2)⟩)⟩,(fun σ h1 h2=>Stp.mapUpdateX (e:=V.I) (f:=(fun x=>V.sl 1 (x.map Qb))) (L:=LU19) (l:=j) (k:=y) (v:=A) (v0:=O) ltI rfl rfl (h1 _ _ rfl) (h2 _ _ rfl) (h1 _ _ rfl) (h1 _ _ rfl) Qmt Qen rfl (Qhe.1 hq19z).1)⟩ rfl (by kernel_rfl) rfl rfl rfl ?_
   refine tg_ hC [.n 1,.K [1,2,6,31] [2,31,615]] rfl ?_
   cases h
   exact AK.done (Or.inr (ex_ _ (an_ z (Or.inl (ex_ _ (an_ ho (an_ rfl (ex_ _ (ex_ _ (an_ (Qfk.upd J hU19 z) rfl))))))))))
  rcases a7 with(j | q)
  ·replace h:Qif i g j=some r:=h
   rintro e σ ⟨rfl,rfl⟩
   refine Qa hC [.n 7,.x (fun σ=>σ.set 615 (.map (QB V.I (fun x=>V.sl 1 (x.map Qb)) (QaR ltI j i g)))),.n 1,.K [] [615]] rfl ⟨tt_,(Stp.mapUpdate (e:=V.I) (f:=(fun x=>V.sl 1 (x.map Qb))) (l:=j) (k:=i) (v:=g) ltI rfl rfl rfl rfl rfl rfl Qmt Qen rfl)⟩ ?_
   cases h
   refine AK.done ?_
   exact ex_ [] (an_ tt_ (gives ⟨rfl,tt_⟩))
  exact q.elim
 exact q.elim
def Qeb (a:Int)(b:Qk):Option Bool:=
 some ((decide (a<0))||(decide ((b.Places.length:Int)≤a)))
theorem Qnj (c d){r}(h:Qeb c d=some r):Qd prog 42 [.I c,.loc 615 0 0] [(615,.var (Qe d))] (Gives (.b r) [(615,.var (Qe d))]):=by
 refine Qd.walk 13 func42 rfl rfl rfl fun C hC=>?_
 refine tg_ hC [.n 6] rfl ?_
 refine AK.meetX (fun σ=>σ=⟨[(3,.b ((decide (c<0))||(decide ((d.Places.length:Int)≤c))))],[(615,.var (Qe d))]⟩) ?_ ?_
 ·refine tg_ hC [.n 4] rfl ?_
  rcases Q0 (decide (c<0))with a | a
  ·refine Qa hC [.S 6 (.b true),.n 8,.S 3 (.b ((decide (c<0))||(decide ((d.Places.length:Int)≤c)))),.K [3] [615]] rfl ⟨(tc_ a),(congrArg V.b (orT a rfl))⟩ ?_
   exact AK.met rfl
  refine Qa hC [.S 6 (.b false),.n 3,.o (.ln d.Places.length),.n 4,.S 3 (.b ((decide (c<0))||(decide ((d.Places.length:Int)≤c)))),.K [3] [615]] rfl ⟨⟨(tc_ a),Qg⟩,(congrArg V.b (orF a rfl))⟩ ?_
  exact AK.met rfl
 rintro σ rfl
 refine tg_ hC [.n 2] rfl ?_
 cases h
 exact d1_ rfl rfl ⟨rfl,tt_⟩
def QaH (c:(List Int))(d:Qk)(a:Int):Option (Int⊕(Int⊕Unit)):=
 bif (decide (a<(c.length:Int)))then
 (idx c a).bind fun e=>
 (Qeb e d).bind fun b=>
 bif b then
 some (.inr (.inl a))
 else
 some (.inl (w64 (a+1)))
 else
 some (.inr (.inr ()))
def Qgq (a:Int):Option Int:=
 some a
def Qgr : Option Int:=
 some (-1)
def QcN (a:(List Int))(b:Qk):Option Int:=
 (QE (fun st=>QaH a b st) 0).bind (Sum.elim (fun q=>Qgq q) (fun q=>Qgr))
theorem QmL (c f){r}(h:QcN c f=some r):Qd prog 80 [.own 615 c.length,.clo (.func 42) [] [.loc 616 0 0]] [(615,.arr 1 (c.map Qb)),(616,.var (Qe f))] (Gives (.I r) [(615,.arr 1 (c.map Qb)),(616,.var (Qe f))]):=by
 refine Qd.walk 19 func80 rfl rfl rfl fun C hC=>?_
 refine tg_ hC [.n 14,.K [0,1,7,8] [615,616]] rfl ?_
 obtain⟨l,i,h⟩:=Qc h
 refine AK.loop (body:=(fun st=>QaH c f st)) (fun st σ=>σ=⟨[(0,.own 615 c.length),(1,.clo (.func 42) [] [.loc 616 0 0]),(7,.I (c.length:Int)),(8,.I st)],[(615,.arr 1 (c.map Qb)),(616,.var (Qe f))]⟩) (Sum.elim (fun q e σ=>e=.ret∧σ=⟨[(4,.I q)],[(615,.arr 1 (c.map Qb)),(616,.var (Qe f))]⟩) (fun q e σ=>e=.exit 0∧σ=⟨[],[(615,.arr 1 (c.map Qb)),(616,.var (Qe f))]⟩)) i rfl ?_ ?_
 ·rintro t o σ rfl h
  refine tg_ hC [.n 6] rfl ?_
  rcases Qt h with⟨g,h⟩|⟨g,h⟩
  ·obtain⟨p,j,h⟩:=Qc h
   obtain⟨m,k,h⟩:=Qc h
   refine Qa hC [.T,.n 16,.o (.row (Qb p)),.cm (.clo) [(615,616)] [(616,615)] [] [.d,.d] [(615,.var (Qe f))] (.b m),.n 2] rfl ⟨⟨⟨⟨tt_,g⟩,(Qbx j rfl)⟩,(QaJ (Qca j).2)⟩,(Qnj _ _ k)⟩ ?_
   refine bg_ h (fun a h=>Qa hC [.T,.n 9,.K [4] [615,616]] rfl ⟨tt_,a⟩ ?_) fun a h=>Qa hC [.F,.n 7,.K [0,1,7,8] [615,616]] rfl ⟨tt_,a⟩ ?_
   ·cases h
    exact Qal rfl (an_ rfl rfl)
   cases h
   exact QZ rfl rfl
  refine Qa hC [.F,.n 2,.K [] [615,616]] rfl ⟨tt_,g⟩ ?_
  cases h
  exact Q1 rfl (an_ rfl rfl)
 rcases l with(s | _)
 ·replace h:Qgq s=some r:=h
  rintro e σ ⟨rfl,rfl⟩
  refine tg_ hC [.n 2] rfl ?_
  cases h
  exact d1_ rfl rfl ⟨rfl,rfl,tt_⟩
 replace h:Qgr=some r:=h
 rintro e σ ⟨rfl,rfl⟩
 refine tg_ hC [.n 8] rfl ?_
 cases h
 exact d1_ rfl rfl ⟨rfl,rfl,tt_⟩
def Qdg (a:Int)(b:Int)(c:(List Int)):Option ((Int×Int×(List Int))⊕(Int×(List Int))):=
 some (.inl (b,(w64 (a+1)),c))
def Qau (f:Qk)(c:Int)(b:Int)(a:(List Int)):Option ((Int×Int×(List Int))⊕(Int×(List Int))):=
 bif (decide (b<(a.length:Int)))then
 (idx a b).bind fun d=>
 (Qeb d f).bind fun e=>
 bif (!e)then
 (idx a c).bind fun g=>
 Qdg b (w64 (c+1)) (a.set c.toNat d)
 else
 Qdg b c a
 else
 some (.inr (c,a))
def Qav (a:Int)(b:(List Int)):Option (List Int):=
 (chk (decide (0≤a)&&decide (a.toNat≤b.length))).bind fun _=>
 (chk (decide (0≤a)&&decide (a.toNat≤(b.take a.toNat++List.replicate (b.length-a.toNat) (0:Int)).length))).bind fun _=>
 some ((b.take a.toNat++List.replicate (b.length-a.toNat) (0:Int)).take a.toNat)
def QaV (a:(List Int))(c:Qk):Option (List Int):=
 (QcN a c).bind fun b=>
 bif (b==(-1))then
 some a
 else
 (QE (fun st=>Qau c st.1 st.2.1 st.2.2) (b,(w64 (b+1)),a)).bind (fun q=>Qav q.1 q.2)
theorem Ql2 (D m){r}(h:QaV D m=some r):Qd prog 41 [.own 615 D.length,.clo (.func 42) [] [.loc 616 0 0]] [(615,.arr 1 (D.map Qb)),(616,.var (Qe m))] (Gives (.own 615 r.length) [(615,.arr 1 (r.map Qb)),(616,.var (Qe m))]):=by
 refine Qd.walk 42 func41 rfl rfl rfl fun C hC=>?_
 obtain⟨N,E,h⟩:=Qc h
 refine Qa hC [.n 9,.cm (.fn) [(615,615),(616,616)] [(615,615),(616,616)] [] [.d,.d] [(615,.arr 1 (D.map Qb)),(616,.var (Qe m))] (.I N),.n 10] rfl ⟨tt_,(QmL _ _ E)⟩ ?_
 refine bg_ h (fun u h=>Qa hC [.T,.n 8,.K [4] [615,616]] rfl ⟨tt_,u⟩ ?_) fun u h=>Qa hC [.F,.n 11,.K [0,1,5,6] [615,616]] rfl ⟨tt_,u⟩ ?_
 ·cases h
  exact d1_ rfl rfl ⟨rfl,rfl,tt_⟩
 obtain⟨G,y,h⟩:=Qc h
 refine AK.loop (body:=(fun st=>Qau m st.1 st.2.1 st.2.2)) (fun st σ=>σ=⟨[(0,.own 615 st.2.2.length),(1,.clo (.func 42) [] [.loc 616 0 0]),(5,.I st.1),(6,.I st.2.1)],[(615,.arr 1 (st.2.2.map Qb)),(616,.var (Qe m))]⟩) (fun q e σ=>e=.exit 0∧σ=⟨[(0,.own 615 q.2.length),(5,.I q.1)],[(615,.arr 1 (q.2.map Qb)),(616,.var (Qe m))]⟩) y rfl ?_ ?_
 ·rintro ⟨L,z,A⟩ o σ rfl h
  refine tg_ hC [.n 9] rfl ?_
  refine bg_ h (fun j h=>Qa hC [.T,.n 2] rfl ⟨tt_,j⟩ ?_) fun j h=>Qa hC [.F,.n 2,.K [0,5] [615,616]] rfl ⟨tt_,j⟩ ?_
  ·refine AK.meet (fun σ=>∃v:Int,∃p:(List Int),σ=⟨[(0,.own 615 p.length),(1,.clo (.func 42) [] [.loc 616 0 0]),(5,.I v),(6,.I z)],[(615,.arr 1 (p.map Qb)),(616,.var (Qe m))]⟩∧Qdg z v p=some o) ?_ ?_
   ·obtain⟨w,s,h⟩:=Qc h
    obtain⟨H,B,h⟩:=Qc h
    refine Qa hC [.n 6,.o (.row (Qb w)),.n 7,.cm (.clo) [(615,616)] [(616,615)] [] [.d,.d] [(615,.var (Qe m))] (.b H),.n 3] rfl ⟨⟨⟨tt_,(Qbx s rfl)⟩,(QaJ (Qca s).2)⟩,(Qnj _ _ B)⟩ ?_
    rcases Qt h with⟨k,h⟩|⟨k,h⟩
    ·obtain⟨J,t,h⟩:=Qc h
     refine Qa hC [.T,.n 6,.st (Qb J) ((A.set L.toNat w).map Qb),.n 8,.S 0 (.own 615 (A.set L.toNat w).length),.K [0,1,5,6] [615,616]] rfl ⟨⟨⟨⟨tt_,k⟩,(Qbx t rfl)⟩,⟨(QaJ (Qca t).2),Qe7 rfl⟩⟩,(congrArg (fun n=>V.own 615 n) (by simp))⟩ ?_
     exact AK.met (ex_ _ (ex_ _ (an_ rfl h)))
    refine Qa hC [.F,.n 2,.K [0,1,5,6] [615,616]] rfl ⟨tt_,k⟩ ?_
    exact AK.met (ex_ _ (ex_ _ (an_ rfl h)))
   rintro σ ⟨v,p,rfl,h⟩
   refine tg_ hC [.n 5,.K [0,1,5,6] [615,616]] rfl ?_
   cases h
   exact QZ rfl rfl
  cases h
  exact Q1 rfl (an_ rfl rfl)
 obtain⟨a,c⟩:=G
 replace h:Qav a c=some r:=h
 rintro e σ ⟨rfl,rfl⟩
 refine tg_ hC [.n 6] rfl ?_
 obtain⟨g,h⟩:=QaE h
 refine AK.clearTail (b:=615) (l:=a.toNat) (n:=c.length) rfl rfl rfl rfl rfl rfl (QH hC.n rfl) rfl rfl Qg (Qs.es rfl) QEG rfl rfl rfl (Bnd.val rfl (QV (QpX g)) rfl) (QV (Qhh g)) rfl ?_
 refine AK.denilA (b:=615) [none] rfl (QCd (f:=Qb) (x:=(0:Int)) (fun _=>rfl) rfl) ?_
 obtain⟨i,h⟩:=QaE h
 refine Qa hC [.S 0 (.own 615 (c.take a.toNat++List.replicate (c.length-a.toNat) (0:Int)).length),.S 36 (.own 615 (c.take a.toNat++List.replicate (c.length-a.toNat) (0:Int)).length),.n 6] rfl ⟨⟨tt_,(Qw8 (QV (Qhh g)))⟩,(Qw8 (QV (Qhh g)))⟩ ?_
 have M:a.toNat=((c.take a.toNat++List.replicate (c.length-a.toNat) (0:Int)).take a.toNat).length:=by rw [Qfh,QpI (QV (Qhh i))]
 refine Qa hC [.x (fun σ=>(σ.set 615 (.arr 1 (((c.take a.toNat++List.replicate (c.length-a.toNat) (0:Int)).take a.toNat).map Qb))).put 41 (.own 615 a.toNat)),.S 41 (.own 615 ((c.take a.toNat++List.replicate (c.length-a.toNat) (0:Int)).take a.toNat).length),.n 4] rfl ⟨⟨tt_,(Stp.sliceO rfl rfl (QH hC.n rfl) rfl rfl (Qs.es rfl) Bnd.no (Bnd.val rfl (QV (QpX i)) rfl) (QV (Qhh i)) (by simp))⟩,(QB5 (QV (Qhh i)))⟩ ?_
 cases h
 exact d1_ rfl rfl ⟨rfl,rfl,tt_⟩
def QaW (l:List Int):Option (List Int):=(chk (decide (l.length<4611686018427387904))).bind fun _=>some (QeW l)
theorem Qgs (l){r}(h:QaW l=some r):Qd prog 43 [.own 615 l.length] [(615,.arr 1 (l.map Qb))] (Gives (.tup []) [(615,.arr 1 (r.map Qb))]):=by
 obtain⟨_,a,h⟩:=Qc h
 cases h
 exact QAA QCl l (QV (Qzq a))
def Qd1 (l:List Int):Option (List Int):=(chk (decide (l.length<4611686018427387904))).bind fun _=>some (Qes l)
theorem QoC (l){r}(h:Qd1 l=some r):Qd prog 44 [.own 615 l.length] [(615,.arr 1 (l.map Qb))] (Gives (.own 615 r.length) [(615,.arr 1 (r.map Qb))]):=by
 obtain⟨_,a,h⟩:=Qc h
 cases h
 exact QAB QCj l (QV (Qzq a))
def QdI (d:Qk)(b:Int)(c:(List Int)):Option ((Int×(List Int))⊕(List Int)):=
 bif (decide (b<(d.Tasks.length:Int)))then
 (idx d.Tasks b).bind fun a=>
 (chk (decide (c.length+a.Cancel.length≤4294967296))).bind fun _=>
 some (.inl ((w64 (b+1)),(c++a.Cancel)))
 else
 some (.inr c)
def QdJ (d:Qk)(e:(List Int)):Option (List Int):=
 (QaV e d).bind fun a=>
 (QaW a).bind fun b=>
 (chk (decide (b.length=a.length))).bind fun _=>
 (Qd1 b).bind fun c=>
 some c
def QaD (a:Qk):Option (List Int):=
 (QE (fun st=>QdI a st.1 st.2) (0,([]:List Int))).bind (fun q=>QdJ a q)
theorem QkF (c){r}(h:QaD c=some r):Qd prog 18 [.agg (Qe c)] [] (Gives (.own 600 r.length) [(600,.arr 1 (r.map Qb))]):=by
 refine Qd.walk 25 func18 rfl rfl rfl fun C hC=>?_
 refine Qa hC [.n 16,.o (.ln c.Tasks.length),.n 4,.adopt 3 13 1,.O 13 (.arr 1 (([]:List Int).map Qb)),.S 3 (.own 13 ([]:List Int).length),.K [1,3,7,8,9] [1,13]] rfl ⟨⟨⟨tt_,Qg⟩,rfl⟩,(congrArg (fun n=>V.own 13 n) (by simp))⟩ ?_
 obtain⟨w,i,h⟩:=Qc h
 refine AK.loop (body:=(fun st=>QdI c st.1 st.2)) (fun st σ=>σ=⟨[(1,.loc 1 0 0),(3,.own 13 st.2.length),(7,.sl 14 (c.Tasks.map Qh)),(8,.I (c.Tasks.length:Int)),(9,.I st.1)],[(1,.var (Qe c)),(13,.arr 1 (st.2.map Qb))]⟩) (fun q e σ=>e=.exit 0∧σ=⟨[(1,.loc 1 0 0),(3,.own 13 q.length)],[(1,.var (Qe c)),(13,.arr 1 (q.map Qb))]⟩) i rfl ?_ ?_
 ·rintro ⟨x,u⟩ o σ rfl h
  refine tg_ hC [.n 6] rfl ?_
  rcases Qt h with⟨g,h⟩|⟨g,h⟩
  ·obtain⟨a,j,h⟩:=Qc h
   obtain⟨k,h⟩:=QaE h
   refine Qa hC [.T,.n 6,.o (.row (Qh a)),.v .no [] (.agg (Qh a)),.n 2,.O 5 (.var (Qh a)),.n 6,.app ((u++a.Cancel).map Qb) (u++a.Cancel).length,.n 8,.K [1,3,7,8,9] [1,13]] rfl ⟨⟨⟨⟨⟨tt_,g⟩,(QJ j)⟩,rfl⟩,rfl⟩,⟨Qg,Qgj k Qg,Qc1,QfN Qg⟩⟩ ?_
   cases h
   exact QZ rfl rfl
  refine Qa hC [.F,.n 2,.K [1,3] [1,13]] rfl ⟨tt_,g⟩ ?_
  cases h
  exact Q1 rfl (an_ rfl rfl)
 replace h:QdJ c w=some r:=h
 rintro e σ ⟨rfl,rfl⟩
 obtain⟨l,m,h⟩:=Qc h
 obtain⟨f,p,h⟩:=Qc h
 obtain⟨b,h⟩:=QaE h
 obtain⟨s,t,h⟩:=Qc h
 refine Qa hC [.n 6,.cm (.fn) [(615,13),(616,1)] [(13,615),(1,616)] [] [.d,.d] [(615,.arr 1 (l.map Qb)),(616,.var (Qe c))] (.own 615 l.length),.n 6,.cm (.fn) [(615,13)] [(13,615)] [] [.d] [(615,.arr 1 (f.map Qb))] (.tup []),.S 3 (.own 13 f.length),.S 20 (.own 13 f.length),.S 21 (.own 13 f.length),.n 5,.cm (.fn) [(615,13)] [(13,615)] [] [.d] [(615,.arr 1 (s.map Qb))] (.own 615 s.length),.n 4,.K [2] [13],.ren 13 600] rfl ⟨⟨⟨⟨⟨⟨tt_,(Ql2 _ _ m)⟩,(Qgs _ p)⟩,(by simp [QV b])⟩,(by simp [QV b])⟩,(by simp [QV b])⟩,(QoC _ t)⟩ ?_
 cases h
 exact d1_ rfl rfl ⟨rfl,tt_⟩
noncomputable def Qgt (s1:Int)(row10:(List Int))(k12:Int)(v13:(List Int)):Option ((List Int)⊕Empty):=
 (Qas s1 row10 v13 k12).bind fun x14=>
 some (.inl x14)
noncomputable def Qgu (s1:Int)(row10:(List Int))(x16:Int)(m20:(List (Int×(List Int))))(k22:Int)(v23:(List Int)):Option ((List (Int×(List Int)))⊕Empty):=
 (Qas s1 v23 row10 x16).bind fun x24=>
 some (.inl (QaR ltI m20 k22 x24))
def QkG (b:Int)(a:(List Int))(c:(List (Int×(List Int)))):Option (List (Int×(List Int))):=
 some (QaR ltI c b a)
noncomputable def QkH (m2:(List (Int×(List Int))))(s1:Int)(row10:(List Int)):Option (List (Int×(List Int))):=
 (QbM row10).bind fun x16=>
 bif (decide (x16<0))then
 some m2
 else
 (QcE (fun st p=>Qgu s1 row10 x16 st p.1 p.2) m2 m2).bind (Sum.elim (fun q=>QkG x16 row10 q) (fun q=>Empty.elim q))
noncomputable def Qig (s1:Int)(m2:(List (Int×(List Int))))(l3:(List Int)):Option (List (Int×(List Int))):=
 (Qad l3).bind fun x6=>
 (Qfl x6).bind fun x7=>
 (QcE (fun st p=>Qgt s1 st p.1 p.2) x7 m2).bind (Sum.elim (fun q=>QkH m2 s1 q) (fun q=>Empty.elim q))
theorem Qp0 (u P B){r}(h:Qig u P B=some r):Qd prog 52 [.agg [.I u,.map 615],.own 616 B.length] [(615,.map (QB V.I (fun x=>V.sl 1 (x.map Qb)) P)),(616,.arr 1 (B.map Qb))] (Gives (.tup []) [(615,.map (QB V.I (fun x=>V.sl 1 (x.map Qb)) r)),(616,.arr 1 (B.map Qb))]):=by
 refine Qd.walk 49 func52 rfl rfl rfl fun C hC=>?_
 obtain⟨x6,a3,h⟩:=Qc h
 obtain⟨x7,a4,h⟩:=Qc h
 refine Qa hC [.n 8,.o (.co true [.o (B.map Qb)] 1 (x6.map Qb) x6.length),.frz 10 (x6.map Qb) [10] [],.o (.c false [.d] (.sl 1 (x7.map Qb))),.n 8] rfl ⟨⟨⟨tt_,⟨(Qm2 rfl),⟨(Qa6 _ a3),Qg,.inr (QyE _)⟩⟩⟩,⟨tt_,(Qci Qg)⟩⟩,(QkE _ a4)⟩ ?_
 refine AK.openMapK (b:=615) Qen rfl fun D E L8 S a8 U=>?_
 refine Qa hC [.x (fun σ=>(σ.set 14 (.itr D E #[] none)).put 14 (.loc 14 0 0)),.n 3,.K [1,2,14] [2,14,615,616]] rfl ⟨tt_,(Stp.range (b:=615) rfl rfl (QH hC.n rfl) rfl rfl Qmt rfl)⟩ ?_
 obtain⟨a5,W,h⟩:=Qc h
 refine AK.range (body:=(fun st p=>Qgt u st p.1 p.2)) (fun st seen σ=>∃cur:Option Nat,σ=⟨[(1,.sl 1 (st.map Qb)),(2,.loc 2 0 0),(14,.loc 14 0 0)],[(2,.var [.I u,.map 615]),(14,.itr D E seen cur),(615,.mapX D E (Qbt V.I (fun x=>V.sl 1 (x.map Qb)) L8) (QB V.I (fun x=>V.sl 1 (x.map Qb)) P)),(616,.arr 1 (B.map Qb))]⟩) (fun (q:Empty) _ _=>False) (fun st e σ=>e=.exit 0∧σ=⟨[(1,.sl 1 (st.map Qb)),(2,.loc 2 0 0)],[(2,.var [.I u,.map 615]),(615,.mapX D E (Qbt V.I (fun x=>V.sl 1 (x.map Qb)) L8) (QB V.I (fun x=>V.sl 1 (x.map Qb)) P)),(616,.arr 1 (B.map Qb))]⟩) S U W (ex_ _ rfl) ?_ ?_
 ·rintro g seen σ ⟨cur,rfl⟩ hex
  refine tg_ hC [.n 2] rfl ?_
  refine AK.nextT (b:=14) (m:=615) rfl rfl rfl (QH hC.n rfl) rfl rfl rfl rfl ?_ ?_
  ·intro hleft
   refine tg_ hC [.n 7,.K [1,2] [2,615,616]] rfl ?_
   exact AK.done (Or.inl (an_ hleft (an_ (fun h=>(by cases h)) (an_ rfl rfl))))
  intro a9 X Y G
  obtain⟨o,h⟩:=hex _ G
  have ho:=h
  replace h:Qgt u g X Y=some o:=h
  obtain⟨a6,Z,h⟩:=Qc h
  refine Qa hC [.n 10,.x (fun σ=>σ.put 17 (.tup [.I X,.sl 1 (Y.map Qb)])),.n 11,.cm (.fn) [] [] [] [.f 1,.d,.d,.d] [] (.sl 1 (a6.map Qb)),.n 3,.K [1,2,14] [2,14,615,616]] rfl ⟨⟨tt_,(Stp.entryT (b:=14) (m:=615) (e:=V.I) (f:=(fun x=>V.sl 1 (x.map Qb))) rfl rfl (QH hC.n rfl) rfl G rfl rfl)⟩,(Qeu _ _ _ _ Z)⟩ ?_
  cases h
  exact AK.done (Or.inr (ex_ _ (an_ G (Or.inl (ex_ _ (an_ ho (an_ rfl (ex_ _ rfl))))))))
 rcases a5 with(g | q)
 ·replace h:QkH P u g=some r:=h
  rintro e σ ⟨rfl,rfl⟩
  obtain⟨i,a0,h⟩:=Qc h
  refine Qa hC [.n 5,.cm (.fn) [] [] [] [.d,.d] [] (.I i),.n 10] rfl ⟨tt_,(Qgp _ a0)⟩ ?_
  refine bg_ h (fun w h=>Qa hC [.T,.n 2] rfl ⟨tt_,w⟩ ?_) fun w h=>Qa hC [.F,.n 7] rfl ⟨tt_,w⟩ ?_
  ·refine AK.closeMap (b:=615) rfl ?_
   refine tg_ hC [.K [] [615,616]] rfl ?_
   cases h
   refine AK.done ?_
   exact ex_ [] (an_ tt_ (gives ⟨rfl,rfl,tt_⟩))
  refine AK.closeMap (b:=615) rfl ?_
  refine AK.openMapK (b:=615) Qen rfl fun s t L18 H J M=>?_
  refine Qa hC [.x (fun σ=>(σ.set 31 (.itr s t #[] none)).put 31 (.loc 31 0 0)),.n 3,.K [1,2,6,31] [2,31,615,616]] rfl ⟨tt_,(Stp.range (b:=615) rfl rfl (QH hC.n rfl) rfl rfl Qmt rfl)⟩ ?_
  obtain⟨a7,a1,h⟩:=Qc h
  refine AK.range (body:=(fun st p=>Qgu u g i st p.1 p.2)) (fun st seen σ=>∃(cur:Option Nat) (LU19:List (Nat×(Int×(List Int)))),Qfk L18 LU19 seen∧σ=⟨[(1,.sl 1 (g.map Qb)),(2,.loc 2 0 0),(6,.I i),(31,.loc 31 0 0)],[(2,.var [.I u,.map 615]),(31,.itr s t seen cur),(615,.mapX s t (Qbt V.I (fun x=>V.sl 1 (x.map Qb)) LU19) (QB V.I (fun x=>V.sl 1 (x.map Qb)) st)),(616,.arr 1 (B.map Qb))]⟩) (fun (q:Empty) _ _=>False) (fun st e σ=>e=.exit 2∧σ=⟨[(1,.sl 1 (g.map Qb)),(2,.loc 2 0 0),(6,.I i)],[(2,.var [.I u,.map 615]),(615,.map (QB V.I (fun x=>V.sl 1 (x.map Qb)) st)),(616,.arr 1 (B.map Qb))]⟩) H M a1 (ex_ _ (ex_ _ (an_ Qfk.refl rfl))) ?_ ?_
  ·rintro j seen σ ⟨cur,LU19,hU19,rfl⟩ hex
   refine tg_ hC [.n 2] rfl ?_
   refine AK.nextT (b:=31) (m:=615) rfl rfl rfl (QH hC.n rfl) rfl rfl rfl rfl ?_ ?_
   ·intro hleft
    replace hleft:=hU19.nil hleft
    refine AK.closeMap (b:=615) rfl ?_
    refine tg_ hC [.n 7,.K [1,2,6] [2,615,616]] rfl ?_
    exact AK.done (Or.inl (an_ hleft (an_ (fun h=>(by cases h)) (an_ rfl rfl))))
   intro b0 y O hq19z
   have z:=hU19.mem2 hq19z
   obtain⟨o,h⟩:=hex _ z
   have ho:=h
   replace h:Qgu u g i j y O=some o:=h
   obtain⟨A,a2,h⟩:=Qc h
   refine Qa hC [.n 10,.x (fun σ=>σ.put 34 (.tup [.I y,.sl 1 (O.map Qb)])),.n 6,.K [1,2,6,7,8,31] [2,31,615,616]] rfl ⟨tt_,(Stp.entryT (b:=31) (m:=615) (e:=V.I) (f:=(fun x=>V.sl 1 (x.map Qb))) rfl rfl (QH hC.n rfl) rfl hq19z rfl rfl)⟩ ?_
   refine AK.draw2 Qs hC mixed [.N,.N,.N,.N,.N,.N,.N,.a (.any (.sl 1 (A.map Qb)) none) none false,.m (.any ⟨[],[(615,.mapX s t (Qbt V.I (fun x=>V.sl 1 (x.map Qb)) (QnY LU19 y A)) (QB V.I (fun x=>V.sl 1 (x.map Qb)) (QaR ltI j y A)))],none⟩)] [] [] [1,2,6,31] [2,31,615,616] rfl rfl rfl ⟨⟨tt_,(fun σ h1 h2 _=>Stp.callSame (md:=.cm (.fn) [] [] [] [.f 1,.d,.d,.d] [] (.sl 1 (A.map Qb)) []) Qs hC h1 h2 rfl ⟨tt_,(Qeu _ _ _ _ a2)⟩)⟩,(fun σ h1 h2=>Stp.mapUpdateX (e:=V.I) (f:=(fun x=>V.sl 1 (x.map Qb))) (L:=LU19) (l:=j) (k:=y) (v:=A) (v0:=O) ltI rfl rfl (h1 _ _ rfl) (h2 _ _ rfl) (h1 _ _ rfl) (h1 _ _ rfl) Qmt Qen rfl (Qhe.1 hq19z).1)⟩ rfl (by kernel_rfl) rfl rfl rfl ?_
   refine tg_ hC [.n 1,.K [1,2,6,31] [2,31,615,616]] rfl ?_
   cases h
   exact AK.done (Or.inr (ex_ _ (an_ z (Or.inl (ex_ _ (an_ ho (an_ rfl (ex_ _ (ex_ _ (an_ (Qfk.upd J hU19 z) rfl))))))))))
  rcases a7 with(j | q)
  ·replace h:QkG i g j=some r:=h
   rintro e σ ⟨rfl,rfl⟩
   refine Qa hC [.n 7,.x (fun σ=>σ.set 615 (.map (QB V.I (fun x=>V.sl 1 (x.map Qb)) (QaR ltI j i g)))),.n 1,.K [] [615,616]] rfl ⟨tt_,(Stp.mapUpdate (e:=V.I) (f:=(fun x=>V.sl 1 (x.map Qb))) (l:=j) (k:=i) (v:=g) ltI rfl rfl rfl rfl rfl rfl Qmt Qen rfl)⟩ ?_
   cases h
   refine AK.done ?_
   exact ex_ [] (an_ tt_ (gives ⟨rfl,rfl,tt_⟩))
  exact q.elim
 exact q.elim
noncomputable def Qba (place3:Int)(all7:Int)(k9:Int)(v10:(List Int)):Option (Int⊕Empty):=
 (idx v10 k9).bind fun e11=>
 (idx v10 k9).bind fun e12=>
 (idx v10 place3).bind fun e13=>
 (Qjs e12 e13).bind fun x14=>
 (chk (x14 != 0)).bind fun _=>
 (Qjs all7 (w64 (Int.tdiv e11 x14))).bind fun x16=>
 (chk (x16 != 0)).bind fun _=>
 some (.inl (w64 ((w64 (Int.tdiv all7 x16))*(max2 (w64 (Int.tdiv e11 x14)) (w64 (0-(w64 (Int.tdiv e11 x14))))))))
noncomputable def Qbb (place3:Int)(all7:Int)(l23:(List Int))(k25:Int)(v26:(List Int)):Option ((List Int)⊕Empty):=
 (idx v26 place3).bind fun e27=>
 (idx v26 k25).bind fun e28=>
 (chk (e28 != 0)).bind fun _=>
 (idx l23 k25).bind fun e30=>
 some (.inl (l23.set k25.toNat (w64 (Int.tdiv (w64 ((w64 (0-e27))*all7)) e28))))
def Ql3 (a:(List Int)):Option (List Int):=
 some a
noncomputable def Qcu (s1:Int)(place3:Int)(m2:(List (Int×(List Int))))(all7:Int):Option (List Int):=
 (chk (decide (0≤s1)&&decide (s1≤s1)&&decide (s1≤4294967296))).bind fun _=>
 (idx (List.replicate s1.toNat (0:Int)) place3).bind fun e20=>
 (QcE (fun st p=>Qbb place3 all7 st p.1 p.2) ((List.replicate s1.toNat (0:Int)).set place3.toNat all7) m2).bind (Sum.elim (fun q=>Ql3 q) (fun q=>Empty.elim q))
noncomputable def Qcz (s1:Int)(m2:(List (Int×(List Int))))(place3:Int):Option (List Int):=
 (QcE (fun st p=>Qba place3 st p.1 p.2) 1 m2).bind (Sum.elim (fun q=>Qcu s1 place3 m2 q) (fun q=>Empty.elim q))
theorem QrN (t y g){r}(h:Qcz t y g=some r):Qd prog 53 [.agg [.I t,.map 615],.I g] [(615,.map (QB V.I (fun x=>V.sl 1 (x.map Qb)) y))] (Gives (.own 600 r.length) [(600,.arr 1 (r.map Qb)),(615,.map (QB V.I (fun x=>V.sl 1 (x.map Qb)) y))]):=by
 refine Qd.walk 75 func53 rfl rfl rfl fun C hC=>?_
 refine tg_ hC [.n 16] rfl ?_
 refine AK.openMap (b:=615) Qen rfl fun u v L5 H J=>?_
 refine Qa hC [.x (fun σ=>(σ.set 14 (.itr u v #[] none)).put 14 (.loc 14 0 0)),.n 3,.K [1,2,5,14] [2,14,615]] rfl ⟨tt_,(Stp.range (b:=615) rfl rfl (QH hC.n rfl) rfl rfl Qmt rfl)⟩ ?_
 obtain⟨a5,L,h⟩:=Qc h
 refine AK.range (body:=(fun st p=>Qba g st p.1 p.2)) (fun st seen σ=>∃cur:Option Nat,σ=⟨[(1,.I g),(2,.loc 2 0 0),(5,.I st),(14,.loc 14 0 0)],[(2,.var [.I t,.map 615]),(14,.itr u v seen cur),(615,.mapX u v (Qbt V.I (fun x=>V.sl 1 (x.map Qb)) L5) (QB V.I (fun x=>V.sl 1 (x.map Qb)) y))]⟩) (fun (q:Empty) _ _=>False) (fun st e σ=>e=.exit 0∧σ=⟨[(1,.I g),(2,.loc 2 0 0),(5,.I st)],[(2,.var [.I t,.map 615]),(615,.mapX u v (Qbt V.I (fun x=>V.sl 1 (x.map Qb)) L5) (QB V.I (fun x=>V.sl 1 (x.map Qb)) y))]⟩) H J L (ex_ _ rfl) ?_ ?_
 ·rintro i seen σ ⟨cur,rfl⟩ hex
  refine tg_ hC [.n 2] rfl ?_
  refine AK.nextT (b:=14) (m:=615) rfl rfl rfl (QH hC.n rfl) rfl rfl rfl rfl ?_ ?_
  ·intro hleft
   refine tg_ hC [.n 7,.K [1,2,5] [2,615]] rfl ?_
   exact AK.done (Or.inl (an_ hleft (an_ (fun h=>(by cases h)) (an_ rfl rfl))))
  intro b5 k9 M B
  obtain⟨o,h⟩:=hex _ B
  have ho:=h
  replace h:Qba g i k9 M=some o:=h
  obtain⟨a6,O,h⟩:=Qc h
  obtain⟨a7,P,h⟩:=Qc h
  obtain⟨a8,T,h⟩:=Qc h
  obtain⟨a9,U,h⟩:=Qc h
  obtain⟨W,h⟩:=QaE h
  refine Qa hC [.n 10,.x (fun σ=>σ.put 17 (.tup [.I k9,.sl 1 (M.map Qb)])),.n 7,.K [1,2,5,6,7,14] [2,14,615]] rfl ⟨tt_,(Stp.entryT (b:=14) (m:=615) (e:=V.I) (f:=(fun x=>V.sl 1 (x.map Qb))) rfl rfl (QH hC.n rfl) rfl B rfl rfl)⟩ ?_
  refine AK.draw2 Qs hC mixed [.N,.N,.a (.row (Qb a6)) none false,.N,.N,.N,.a (.row (Qb a7)) none false,.N,.N,.N,.a (.row (Qb a8)) none false,.N,.a (.c false [.d,.d] (.I a9)) none false,.N,.N] [] [] [1,2,5,8,14] [2,14,615] rfl rfl rfl ⟨⟨⟨⟨⟨tt_,(QJ O)⟩,(QJ P)⟩,(QJ T)⟩,(Qn0 _ _ U)⟩,(neZ W)⟩ rfl (by kernel_rfl) rfl rfl rfl ?_
  obtain⟨b0,X,h⟩:=Qc h
  obtain⟨Y,h⟩:=QaE h
  refine Qa hC [.n 5,.o (.c false [.d,.d] (.I b0)),.n 9,.K [1,2,5,14] [2,14,615]] rfl ⟨⟨tt_,(Qn0 _ _ X)⟩,(neZ Y)⟩ ?_
  cases h
  exact AK.done (Or.inr (ex_ _ (an_ B (Or.inl (ex_ _ (an_ ho (an_ rfl (ex_ _ rfl))))))))
 rcases a5 with(i | q)
 ·replace h:Qcu t g y i=some r:=h
  rintro e σ ⟨rfl,rfl⟩
  obtain⟨Z,h⟩:=QaE h
  obtain⟨b1,z,h⟩:=Qc h
  refine Qa hC [.n 6,.o (.rows ((List.replicate t.toNat (0:Int)).map Qb)),.S 46 (.own 46 (List.replicate t.toNat (0:Int)).length),.n 9,.st (Qb b1) (((List.replicate t.toNat (0:Int)).set g.toNat i).map Qb),.n 7] rfl ⟨⟨⟨⟨tt_,⟨Z,Qoy rfl⟩⟩,(by simp)⟩,(Qbx z rfl)⟩,⟨(QaJ (Qca z).2),Qe7 rfl⟩⟩ ?_
  refine AK.closeMap (b:=615) rfl ?_
  refine AK.openMap (b:=615) Qen rfl fun j k L21 D E=>?_
  refine Qa hC [.x (fun σ=>(σ.set 53 (.itr j k #[] none)).put 53 (.loc 53 0 0)),.n 3,.S 9 (.own 46 ((List.replicate t.toNat (0:Int)).set g.toNat i).length),.K [1,5,9,53] [46,53,615]] rfl ⟨⟨tt_,(Stp.range (b:=615) rfl rfl (QH hC.n rfl) rfl rfl Qmt rfl)⟩,(congrArg (fun n=>V.own 46 n) (by simp))⟩ ?_
  obtain⟨b2,a0,h⟩:=Qc h
  refine AK.range (body:=(fun st p=>Qbb g i st p.1 p.2)) (fun st seen σ=>∃cur:Option Nat,σ=⟨[(1,.I g),(5,.I i),(9,.own 46 st.length),(53,.loc 53 0 0)],[(46,.arr 1 (st.map Qb)),(53,.itr j k seen cur),(615,.mapX j k (Qbt V.I (fun x=>V.sl 1 (x.map Qb)) L21) (QB V.I (fun x=>V.sl 1 (x.map Qb)) y))]⟩) (fun (q:Empty) _ _=>False) (fun st e σ=>e=.exit 2∧σ=⟨[(9,.own 46 st.length)],[(46,.arr 1 (st.map Qb)),(615,.mapX j k (Qbt V.I (fun x=>V.sl 1 (x.map Qb)) L21) (QB V.I (fun x=>V.sl 1 (x.map Qb)) y))]⟩) D E a0 (ex_ _ rfl) ?_ ?_
  ·rintro l seen σ ⟨cur,rfl⟩ hex
   refine tg_ hC [.n 2] rfl ?_
   refine AK.nextT (b:=53) (m:=615) rfl rfl rfl (QH hC.n rfl) rfl rfl rfl rfl ?_ ?_
   ·intro hleft
    refine tg_ hC [.n 7,.K [9] [46,615]] rfl ?_
    exact AK.done (Or.inl (an_ hleft (an_ (fun h=>(by cases h)) (an_ rfl rfl))))
   intro b4 w a1 s
   obtain⟨o,h⟩:=hex _ s
   have ho:=h
   replace h:Qbb g i l w a1=some o:=h
   obtain⟨F,a2,h⟩:=Qc h
   obtain⟨G,a3,h⟩:=Qc h
   obtain⟨a4,h⟩:=QaE h
   obtain⟨b3,A,h⟩:=Qc h
   refine Qa hC [.n 10,.x (fun σ=>σ.put 56 (.tup [.I w,.sl 1 (a1.map Qb)])),.n 6,.K [1,5,9,10,11,53] [46,53,615]] rfl ⟨tt_,(Stp.entryT (b:=53) (m:=615) (e:=V.I) (f:=(fun x=>V.sl 1 (x.map Qb))) rfl rfl (QH hC.n rfl) rfl s rfl rfl)⟩ ?_
   refine AK.draw2 Qs hC mixed [.N,.N,.N,.N,.a (.row (Qb F)) none false,.N,.N,.N,.N,.N,.N,.a (.row (Qb G)) none false,.N,.N,.N,.m (.st (Qb b3) ((l.set w.toNat (w64 (Int.tdiv (w64 ((w64 (0-F))*i)) G))).map Qb))] [] [] [1,5,9,53] [46,53,615] rfl rfl rfl ⟨⟨⟨⟨⟨tt_,(QJ a2)⟩,(QJ a3)⟩,(neZ a4)⟩,(Qbx A rfl)⟩,⟨(QaJ (Qca A).2),Qe7 rfl⟩⟩ rfl (by kernel_rfl) rfl rfl rfl ?_
   refine Qa hC [.n 1,.S 9 (.own 46 (l.set w.toNat (w64 (Int.tdiv (w64 ((w64 (0-F))*i)) G))).length),.K [1,5,9,53] [46,53,615]] rfl ⟨tt_,(congrArg (fun n=>V.own 46 n) (by simp))⟩ ?_
   cases h
   exact AK.done (Or.inr (ex_ _ (an_ s (Or.inl (ex_ _ (an_ ho (an_ rfl (ex_ _ rfl))))))))
  rcases b2 with(l | q)
  ·replace h:Ql3 l=some r:=h
   rintro e σ ⟨rfl,rfl⟩
   refine tg_ hC [.n 9] rfl ?_
   refine AK.closeMap (b:=615) rfl ?_
   refine tg_ hC [.K [4] [46,615],.ren 46 600] rfl ?_
   cases h
   exact d1_ rfl rfl ⟨rfl,rfl,tt_⟩
  exact q.elim
 exact q.elim
def Qp1 (c:Qk)(a:QLL):Option (QLL×Bool):=
 bif (decide (8<(c.Places.length:Int)))then
 some (a,true)
 else
 (QcM a).bind fun b=>
 some (a,b)
def Qdv (a:QLL)(f:Qk)(b:Int)(c:(List (Int×(List Int)))):Option ((Int×(List (Int×(List Int))))⊕(List (Int×(List Int)))):=
 bif (decide (b<(a.length:Int)))then
 (idx a b).bind fun d=>
 (Qe9 (f.Places.length:Int) c d).bind fun e=>
 some (.inl ((w64 (b+1)),e))
 else
 some (.inr c)
def Qdw (c:(List Int))(a:Qk)(b:Int)(d:(List (Int×(List Int)))):Option ((Int×(List (Int×(List Int))))⊕(List (Int×(List Int)))):=
 bif (decide (b<(c.length:Int)))then
 (idx c b).bind fun e=>
 (chk (decide (0≤(a.Places.length:Int))&&decide ((a.Places.length:Int)≤(a.Places.length:Int))&&decide ((a.Places.length:Int)≤4294967296))).bind fun _=>
 (idx (List.replicate (a.Places.length:Int).toNat (0:Int)) e).bind fun g=>
 (Qig (a.Places.length:Int) d ((List.replicate (a.Places.length:Int).toNat (0:Int)).set e.toNat 1)).bind fun f=>
 some (.inl ((w64 (b+1)),f))
 else
 some (.inr d)
def QiJ (a:Int)(b:QLL):Option ((Int×QLL)⊕QLL):=
 some (.inl ((w64 (a+1)),b))
def QaX (e:Qk)(c:(List (Int×(List Int))))(a:Int)(b:QLL):Option ((Int×QLL)⊕QLL):=
 bif (decide (a<(e.Places.length:Int)))then
 bif (QR c a).isSome then
 (chk (!(((QR c a).getD ([]:(List Int)))).isEmpty)).bind fun _=>
 QiJ a b
 else
 (Qcz (e.Places.length:Int) c a).bind fun d=>
 (chk (decide (b.length+([d]:List (List Int)).length≤4294967296))).bind fun _=>
 QiJ a (b++([d]:List (List Int)))
 else
 some (.inr b)
def Qp2 (a:QLL):Option (QLL×Int):=
 some (a,0)
def Qgv (b:Qk)(a:(List (Int×(List Int)))):Option (QLL×Int):=
 (QE (fun st=>QaX b a st.1 st.2) (0,([]:List (List Int)))).bind (fun q=>Qp2 q)
def QmM (a:Qk)(b:(List (Int×(List Int)))):Option (QLL×Int):=
 (QaD a).bind fun c=>
 (QE (fun st=>Qdw c a st.1 st.2) (0,b)).bind (fun q=>Qgv a q)
def Qgw (b:Qk)(a:QLL)(c:Bool):Option (QLL×Int):=
 bif c then
 some (([]:List (List Int)),2)
 else
 (QE (fun st=>Qdv a b st.1 st.2) (0,([]:(List (Int×(List Int)))))).bind (fun q=>QmM b q)
def QfB (a:Qk):Option (QLL×Int):=
 (Qbc a).bind fun b=>
 (Qp1 a b).bind (fun v=>Qgw a v.1 v.2)
theorem Qp3 (c){r}(h:QfB c=some r):Qd prog 24 [.agg (Qe c)] [] (Gives (.tup [.sl 1 (r.1.map Qj),.I r.2]) []):=by
 refine Qd.walk 73 func24 rfl rfl rfl fun C hC=>?_
 obtain⟨x6,a2,h⟩:=Qc h
 refine Qa hC [.n 9,.v .no [] (.agg (Qe c)),.o (.co false [.d] 1 (x6.map Qj) x6.length),.n 5] rfl ⟨⟨tt_,rfl⟩,⟨(QkB _ a2),Qg,.inl rfl⟩⟩ ?_
 obtain⟨v,a3,h⟩:=Qc h
 replace h:Qgw c v.1 v.2=some r:=h
 refine AK.meetX (fun σ=>σ=⟨[(1,.loc 1 0 0),(4,.sl 1 (v.1.map Qj)),(22,.b v.2)],[(1,.var (Qe c))]⟩) ?_ ?_
 ·replace h:=a3
  refine Qa hC [.n 3,.o (.ln c.Places.length),.n 2] rfl ⟨tt_,Qg⟩ ?_
  rcases Qt h with⟨p,h⟩|⟨p,h⟩
  ·refine Qa hC [.S 19 (.b true),.n 4,.frz 14 (x6.map Qj) [4] [],.K [1,4,22] [1]] rfl ⟨(tc_ p),⟨tt_,(Qci Qg)⟩⟩ ?_
   cases h
   exact AK.met rfl
  obtain⟨a4,G,h⟩:=Qc h
  refine Qa hC [.S 19 (.b false),.n 1,.frz 14 (x6.map Qj) [4,14,20] [],.cm (.fn) [] [] [] [.d,.d] [] (.b a4),.n 2,.K [1,4,22] [1]] rfl ⟨⟨(tc_ p),⟨⟨⟨tt_,(Qci Qg)⟩,(Qci Qg)⟩,(Qci Qg)⟩⟩,(QmK _ G)⟩ ?_
  cases h
  exact AK.met rfl
 rintro σ rfl
 obtain⟨a,x8⟩:=v
 replace h:Qgw c a x8=some r:=h
 refine tg_ hC [.n 1] rfl ?_
 refine bg_ h (fun s h=>Qa hC [.T,.n 8,.denil 2 [some 1],.K [2,3] []] rfl ⟨tt_,s⟩ ?_) fun s h=>Qa hC [.F,.n 6,.o (.ln c.Places.length),.n 1,.O 26 (.map (QB V.I (fun x=>V.sl 1 (x.map Qb)) ([]:(List (Int×(List Int)))))),.v .no [] (.agg [.I (c.Places.length:Int),.map 26]),.n 2,.O 5 (.var [.I (c.Places.length:Int),.map 26]),.n 6,.o (.ln a.length),.n 4,.K [1,5,28,29,30] [1,5,26]] rfl ⟨⟨⟨⟨⟨⟨tt_,s⟩,Qg⟩,rfl⟩,rfl⟩,rfl⟩,Qg⟩ ?_
 ·cases h
  exact d2_ rfl rfl rfl tt_
 obtain⟨a5,H,h⟩:=Qc h
 refine AK.loop (body:=(fun st=>Qdv a c st.1 st.2)) (fun st σ=>σ=⟨[(1,.loc 1 0 0),(5,.loc 5 0 0),(28,.sl 1 (a.map Qj)),(29,.I (a.length:Int)),(30,.I st.1)],[(1,.var (Qe c)),(5,.var [.I (c.Places.length:Int),.map 26]),(26,.map (QB V.I (fun x=>V.sl 1 (x.map Qb)) st.2))]⟩) (fun q e σ=>e=.exit 0∧σ=⟨[(1,.loc 1 0 0),(5,.loc 5 0 0)],[(1,.var (Qe c)),(5,.var [.I (c.Places.length:Int),.map 26]),(26,.map (QB V.I (fun x=>V.sl 1 (x.map Qb)) q))]⟩) H rfl ?_ ?_
 ·rintro ⟨b0,b1⟩ o σ rfl h
  refine tg_ hC [.n 6] rfl ?_
  rcases Qt h with⟨t,h⟩|⟨t,h⟩
  ·obtain⟨a6,J,h⟩:=Qc h
   obtain⟨a7,L,h⟩:=Qc h
   refine Qa hC [.T,.n 6,.o (.row (Qj a6)),.n 7,.cm (.fn) [(615,26)] [(26,615)] [] [.d,.d] [(615,.map (QB V.I (fun x=>V.sl 1 (x.map Qb)) a7))] (.tup []),.n 7,.K [1,5,28,29,30] [1,5,26]] rfl ⟨⟨⟨tt_,t⟩,(QJ J)⟩,(Qsa _ _ _ L)⟩ ?_
   cases h
   exact QZ rfl rfl
  refine Qa hC [.F,.n 2,.K [1,5] [1,5,26]] rfl ⟨tt_,t⟩ ?_
  cases h
  exact Q1 rfl (an_ rfl rfl)
 replace h:QmM c a5=some r:=h
 rintro e σ ⟨rfl,rfl⟩
 obtain⟨j,M,h⟩:=Qc h
 refine Qa hC [.n 5,.v .no [] (.agg (Qe c)),.o (.co false [.d] 1 (j.map Qb) j.length),.n 5,.K [5,39,40,41] [5,26,39]] rfl ⟨⟨tt_,rfl⟩,⟨(QkF _ M),Qg,.inl rfl⟩⟩ ?_
 obtain⟨g,N,h⟩:=Qc h
 refine AK.loop (body:=(fun st=>Qdw j c st.1 st.2)) (fun st σ=>σ=⟨[(5,.loc 5 0 0),(39,.own 39 j.length),(40,.I (j.length:Int)),(41,.I st.1)],[(5,.var [.I (c.Places.length:Int),.map 26]),(26,.map (QB V.I (fun x=>V.sl 1 (x.map Qb)) st.2)),(39,.arr 1 (j.map Qb))]⟩) (fun q e σ=>e=.exit 2∧σ=⟨[(5,.loc 5 0 0)],[(5,.var [.I (c.Places.length:Int),.map 26]),(26,.map (QB V.I (fun x=>V.sl 1 (x.map Qb)) q))]⟩) N rfl ?_ ?_
 ·rintro ⟨b2,b3⟩ o σ rfl h
  refine tg_ hC [.n 6] rfl ?_
  rcases Qt h with⟨u,h⟩|⟨u,h⟩
  ·obtain⟨i,B,h⟩:=Qc h
   obtain⟨P,h⟩:=QaE h
   obtain⟨a8,D,h⟩:=Qc h
   obtain⟨a9,U,h⟩:=Qc h
   refine Qa hC [.T,.n 7,.o (.row (Qb i)),.n 7,.o (.rows ((List.replicate (c.Places.length:Int).toNat (0:Int)).map Qb)),.S 47 (.own 47 (List.replicate (c.Places.length:Int).toNat (0:Int)).length),.n 8,.st (Qb a8) (((List.replicate (c.Places.length:Int).toNat (0:Int)).set i.toNat 1).map Qb),.n 5,.S 10 (.own 47 ((List.replicate (c.Places.length:Int).toNat (0:Int)).set i.toNat 1).length),.S 47 (.own 47 ((List.replicate (c.Places.length:Int).toNat (0:Int)).set i.toNat 1).length),.S 48 (.own 47 ((List.replicate (c.Places.length:Int).toNat (0:Int)).set i.toNat 1).length),.S 52 (.own 47 ((List.replicate (c.Places.length:Int).toNat (0:Int)).set i.toNat 1).length),.cm (.fn) [(615,26),(616,47)] [(26,615),(47,616)] [] [.d,.d] [(615,.map (QB V.I (fun x=>V.sl 1 (x.map Qb)) a9)),(616,.arr 1 (((List.replicate (c.Places.length:Int).toNat (0:Int)).set i.toNat 1).map Qb))] (.tup []),.n 7,.K [5,39,40,41] [5,26,39]] rfl ⟨⟨⟨⟨⟨⟨⟨⟨⟨⟨⟨⟨tt_,u⟩,(Qbx B rfl)⟩,(QaJ (Qca B).2)⟩,⟨P,Qoy rfl⟩⟩,(by simp)⟩,(Qbx D rfl)⟩,⟨(QaJ (Qca D).2),Qe7 rfl⟩⟩,(congrArg (fun n=>V.own 47 n) (by simp))⟩,(congrArg (fun n=>V.own 47 n) (by simp))⟩,(congrArg (fun n=>V.own 47 n) (by simp))⟩,(congrArg (fun n=>V.own 47 n) (by simp))⟩,(Qp0 _ _ _ U)⟩ ?_
   cases h
   exact QZ rfl rfl
  refine Qa hC [.F,.n 2,.K [5] [5,26]] rfl ⟨tt_,u⟩ ?_
  cases h
  exact Q1 rfl (an_ rfl rfl)
 replace h:Qgv c g=some r:=h
 rintro e σ ⟨rfl,rfl⟩
 refine Qa hC [.n 16,.adopt 11 65 1,.O 65 (.arr 1 (([]:List (List Int)).map Qj)),.S 11 (.own 65 ([]:List (List Int)).length),.K [5,11,56,57] [5,26,65]] rfl ⟨⟨tt_,rfl⟩,(congrArg (fun n=>V.own 65 n) (by simp))⟩ ?_
 obtain⟨W,X,h⟩:=Qc h
 refine AK.loop (body:=(fun st=>QaX c g st.1 st.2)) (fun st σ=>σ=⟨[(5,.loc 5 0 0),(11,.own 65 st.2.length),(56,.I (c.Places.length:Int)),(57,.I st.1)],[(5,.var [.I (c.Places.length:Int),.map 26]),(26,.map (QB V.I (fun x=>V.sl 1 (x.map Qb)) g)),(65,.arr 1 (st.2.map Qj))]⟩) (fun q e σ=>e=.exit 4∧σ=⟨[(11,.own 65 q.length)],[(65,.arr 1 (q.map Qj))]⟩) X rfl ?_ ?_
 ·rintro ⟨w,Y⟩ o σ rfl h
  refine tg_ hC [.n 6] rfl ?_
  refine bg_ h (fun y h=>Qa hC [.T,.n 2] rfl ⟨tt_,y⟩ ?_) fun y h=>Qa hC [.F,.n 2,.K [11] [65]] rfl ⟨tt_,y⟩ ?_
  ·refine AK.meet (fun σ=>∃A:QLL,σ=⟨[(5,.loc 5 0 0),(11,.own 65 A.length),(56,.I (c.Places.length:Int)),(57,.I w)],[(5,.var [.I (c.Places.length:Int),.map 26]),(26,.map (QB V.I (fun x=>V.sl 1 (x.map Qb)) g)),(65,.arr 1 (A.map Qj))]⟩∧QiJ w A=some o) ?_ ?_
   ·refine tg_ hC [.n 12] rfl ?_
    rcases Qt h with⟨E,h⟩|⟨E,h⟩
    ·obtain⟨Z,h⟩:=QaE h
     refine Qa hC [.o (.any (.sl 1 (((QR g w).getD ([]:(List Int))).map Qb)) none)] rfl ⟨tt_,(fun σ h1 h2 _=>Stp.lookup (e:=V.I) (f:=(fun x=>V.sl 1 (x.map Qb))) (l:=g) (k:=w) (z:=([]:(List Int))) rfl rfl (QH hC.n rfl) (h1 _ _ rfl) (h2 _ _ rfl) (h1 _ _ rfl) Qmt Qen QFw rfl)⟩ ?_
     refine AK.eqNil rfl rfl rfl (QH hC.n rfl) rfl rfl QBA ?_ ?_
     ·intro hz
      simp [List.map_eq_nil_iff.1 hz]at Z
     refine tg_ hC [.n 5,.K [5,11,56,57] [5,26,65]] rfl ?_
     exact AK.met (ex_ _ (an_ rfl h))
    obtain⟨m,a0,h⟩:=Qc h
    obtain⟨a1,h⟩:=QaE h
    refine Qa hC [.x (fun σ=>σ.put 63 (.lit (.slice none 0 0))),.x (fun σ=>σ.put 64 (.b true)),.n 7,.cm (.fn) [(615,26)] [(68,600),(26,615)] [] [.d,.d] [(600,.arr 1 (m.map Qb)),(615,.map (QB V.I (fun x=>V.sl 1 (x.map Qb)) g))] (.own 600 m.length),.frz 68 (m.map Qb) [68] [],.v (.bd []) [] (.sl 1 (([m]:List (List Int)).map Qj)),.app ((Y++([m]:List (List Int))).map Qj) (Y++([m]:List (List Int))).length,.n 3,.K [5,11,56,57] [5,26,65]] rfl ⟨⟨⟨⟨⟨⟨tt_,(Stp.lookupN (e:=V.I) (f:=(fun x=>V.sl 1 (x.map Qb))) (l:=g) (k:=w) rfl rfl (QH hC.n rfl) rfl rfl rfl Qmt Qen (by kernel_rfl) E)⟩,(Stp.eqNN rfl rfl (QH hC.n rfl) rfl rfl QBA)⟩,(QrN _ _ _ a0)⟩,⟨tt_,(Qci Qg)⟩⟩,rfl⟩,⟨Qg,Qgj a1 Qg,Qc1,QfN Qg⟩⟩ ?_
    exact AK.met (ex_ _ (an_ rfl h))
   rintro σ ⟨A,rfl,h⟩
   refine tg_ hC [.n 4,.K [5,11,56,57] [5,26,65]] rfl ?_
   cases h
   exact QZ rfl rfl
  cases h
  exact Q1 rfl (an_ rfl rfl)
 replace h:Qp2 W=some r:=h
 rintro e σ ⟨rfl,rfl⟩
 refine Qa hC [.n 10,.frz 65 (W.map Qj) [2] []] rfl ⟨tt_,⟨tt_,(Qci Qg)⟩⟩ ?_
 cases h
 exact d2_ rfl rfl rfl tt_
def Qc2 (d:QBg)(a:Int)(c:Int):Option ((Int×Int)⊕(Unit⊕Unit)):=
 bif (decide (c<(d.length:Int)))then
 (idx d c).bind fun b=>
 bif ((decide (b.1≤a))||((decide (b.2<1))||(decide (1048576<b.2))))then
 some (.inr (.inl ()))
 else
 some (.inl (b.1,(w64 (c+1))))
 else
 some (.inr (.inr ()))
def Qla : Option Bool:=
 some false
def Qlb : Option Bool:=
 some true
def Qf1 (a:QBg):Option Bool:=
 (QE (fun st=>Qc2 a st.1 st.2) ((-1),0)).bind (Sum.elim (fun q=>Qla) (fun q=>Qlb))
theorem Qn1 (i){r}(h:Qf1 i=some r):Qd prog 91 [.sl 2 (i.map QK)] [] (Gives (.b r) []):=by
 refine Qd.walk 29 func91 rfl rfl rfl fun C hC=>?_
 refine Qa hC [.n 14,.o (.ln i.length),.n 4,.K [3,6,7,8] []] rfl ⟨tt_,Qg⟩ ?_
 obtain⟨l,k,h⟩:=Qc h
 refine AK.loop (body:=(fun st=>Qc2 i st.1 st.2)) (fun st σ=>σ=⟨[(3,.I st.1),(6,.sl 2 (i.map QK)),(7,.I (i.length:Int)),(8,.I st.2)],[]⟩) (Sum.elim (fun q e σ=>e=.ret∧σ=⟨[(2,.b false)],[]⟩) (fun q e σ=>e=.exit 0∧σ=⟨[],[]⟩)) k rfl ?_ ?_
 ·rintro ⟨a,p⟩ o σ rfl h
  refine tg_ hC [.n 6] rfl ?_
  rcases Qt h with⟨j,h⟩|⟨j,h⟩
  ·obtain⟨d,m,h⟩:=Qc h
   refine Qa hC [.T,.n 6,.o (.row (QK d)),.v .no [] (.agg (QK d)),.n 2,.O 5 (.var (QK d)),.n 4] rfl ⟨⟨⟨⟨tt_,j⟩,(QJ m)⟩,rfl⟩,rfl⟩ ?_
   refine AK.meetX (fun σ=>σ=⟨[(5,.loc 5 0 0),(6,.sl 2 (i.map QK)),(7,.I (i.length:Int)),(8,.I p),(25,.b ((decide (d.1≤a))||((decide (d.2<1))||(decide (1048576<d.2)))))],[(5,.var (QK d))]⟩) ?_ ?_
   ·refine tg_ hC [.n 6] rfl ?_
    rcases Q0 (decide (d.1≤a))with c | c
    ·refine Qa hC [.S 16 (.b true),.n 10,.S 25 (.b ((decide (d.1≤a))||((decide (d.2<1))||(decide (1048576<d.2))))),.K [5,6,7,8,25] [5]] rfl ⟨(tc_ c),(congrArg V.b (orT c rfl))⟩ ?_
     exact AK.met rfl
    refine Qa hC [.S 16 (.b false),.n 5] rfl (tc_ c) ?_
    rcases Q0 (decide (d.2<1))with f | f
    ·refine Qa hC [.S 21 (.b true),.n 5,.S 25 (.b ((decide (d.1≤a))||((decide (d.2<1))||(decide (1048576<d.2))))),.K [5,6,7,8,25] [5]] rfl ⟨(tc_ f),(congrArg V.b (orF c (orT f rfl)))⟩ ?_
     exact AK.met rfl
    refine Qa hC [.S 21 (.b false),.n 5,.S 25 (.b ((decide (d.1≤a))||((decide (d.2<1))||(decide (1048576<d.2))))),.K [5,6,7,8,25] [5]] rfl ⟨(tc_ f),(congrArg V.b (orF c (orF f rfl)))⟩ ?_
    exact AK.met rfl
   rintro σ rfl
   refine tg_ hC [.n 1] rfl ?_
   refine bg_ h (fun g h=>Qa hC [.T,.n 9,.K [2] []] rfl ⟨tt_,g⟩ ?_) fun g h=>Qa hC [.F,.n 13,.K [3,6,7,8] []] rfl ⟨tt_,g⟩ ?_
   ·cases h
    exact Qal rfl (an_ rfl rfl)
   cases h
   exact QZ rfl rfl
  refine Qa hC [.F,.n 2,.K [] []] rfl ⟨tt_,j⟩ ?_
  cases h
  exact Q1 rfl (an_ rfl rfl)
 rcases l with(_ | _)
 ·replace h:Qla=some r:=h
  rintro e σ ⟨rfl,rfl⟩
  refine tg_ hC [.n 2] rfl ?_
  cases h
  exact d1_ rfl rfl tt_
 replace h:Qlb=some r:=h
 rintro e σ ⟨rfl,rfl⟩
 refine tg_ hC [.n 8] rfl ?_
 cases h
 exact d1_ rfl rfl tt_
def QhD (c:QBg)(b:Int)(d:QBg):Option ((Int×QBg)⊕QBg):=
 bif (decide (b<(c.length:Int)))then
 (idx c b).bind fun a=>
 some (.inl ((w64 (b+1)),(QaR ltI d a.1 a.2)))
 else
 some (.inr d)
def Qv6 (a:QBg):Option (Unit⊕QBg):=
 some (.inr a)
def QmN (a:QBg):Option (Unit⊕QBg):=
 (Qf1 a).bind fun b=>
 bif (!b)then
 some (.inl ())
 else
 (QE (fun st=>QhD a st.1 st.2) (0,([]:QBg))).bind (fun q=>Qv6 q)
theorem Qf2 (j){r}(h:QmN j=some r):Qd prog 62 [.sl 2 (j.map QK)] [] ((Sum.elim (fun q=>(Gives (.tup [.lit (.map none),.b false]) [])) (fun q=>(Gives (.tup [.map 601,.b true]) [(601,.map (QB V.I V.I q))]))) r):=by
 refine Qd.walk 24 func62 rfl rfl rfl fun C hC=>?_
 obtain⟨w,s,h⟩:=Qc h
 refine Qa hC [.n 10,.o (.c false [.d] (.b w)),.n 3] rfl ⟨tt_,(Qn1 _ s)⟩ ?_
 refine bg_ h (fun i h=>Qa hC [.T,.n 8,.K [2,3] []] rfl ⟨tt_,i⟩ ?_) fun i h=>Qa hC [.F,.n 5,.O 10 (.map (QB V.I V.I ([]:QBg))),.n 7,.o (.ln j.length),.n 4,.K [4,11,12,13] [10]] rfl ⟨⟨⟨tt_,i⟩,rfl⟩,Qg⟩ ?_
 ·cases h
  exact AK.done (ex_ [_,_] (an_ (an_ rfl (an_ rfl tt_)) (gives tt_)))
 obtain⟨t,m,h⟩:=Qc h
 refine AK.loop (body:=(fun st=>QhD j st.1 st.2)) (fun st σ=>σ=⟨[(4,.map 10),(11,.sl 2 (j.map QK)),(12,.I (j.length:Int)),(13,.I st.1)],[(10,.map (QB V.I V.I st.2))]⟩) (fun q e σ=>e=.exit 0∧σ=⟨[(4,.map 10)],[(10,.map (QB V.I V.I q))]⟩) m rfl ?_ ?_
 ·rintro ⟨y,u⟩ o σ rfl h
  refine tg_ hC [.n 6] rfl ?_
  rcases Qt h with⟨g,h⟩|⟨g,h⟩
  ·obtain⟨a,p,h⟩:=Qc h
   refine Qa hC [.T,.n 6,.o (.row (QK a)),.v .no [] (.agg (QK a)),.n 2,.O 6 (.var (QK a)),.n 8,.x (fun σ=>σ.set 10 (.map (QB V.I V.I (QaR ltI u a.1 a.2)))),.n 7,.K [4,11,12,13] [10]] rfl ⟨⟨⟨⟨⟨tt_,g⟩,(QJ p)⟩,rfl⟩,rfl⟩,(Stp.mapUpdate (e:=V.I) (f:=V.I) (l:=u) (k:=a.1) (v:=a.2) ltI rfl rfl rfl rfl rfl rfl Qhj Qen rfl)⟩ ?_
   cases h
   exact QZ rfl rfl
  refine Qa hC [.F,.n 2,.K [4] [10]] rfl ⟨tt_,g⟩ ?_
  cases h
  exact Q1 rfl (an_ rfl rfl)
 replace h:Qv6 t=some r:=h
 rintro e σ ⟨rfl,rfl⟩
 refine tg_ hC [.n 10,.K [2,3] [10],.ren 10 601,.K [2,3] [601]] rfl ?_
 cases h
 exact AK.done (ex_ [_,_] (an_ (an_ rfl (an_ rfl tt_)) (gives ⟨rfl,tt_⟩)))
def Qsb (a:Unit):Option Int:=
 some 0
noncomputable def QeM (n9:Int)(k11:Int)(v12:Int):Option (Int⊕Empty):=
 some (.inl (w64 (n9+v12)))
def Qsc (a:Int):Option Int:=
 some a
noncomputable def Qlc (a6:QBg):Option Int:=
 (QcE (fun st p=>QeM st p.1 p.2) 0 a6).bind (Sum.elim (fun q=>Qsc q) (fun q=>Empty.elim q))
def Qjt (a:QBg):Option Int:=
 (QmN a).bind (Sum.elim (fun q=>Qsb q) (fun q=>Qlc q))
theorem Qsd (y){r}(h:Qjt y=some r):Qd prog 30 [.sl 2 (y.map QK)] [] (Gives (.I r) []):=by
 refine Qd.walk 23 func30 rfl rfl rfl fun C hC=>?_
 obtain⟨A,i,h⟩:=Qc h
 refine tg_ hC [.n 8] rfl ?_
 rcases A with(B | u)
 ·replace h:Qsb B=some r:=h
  refine Qa hC [.cm (.fn) [] [] [] [.d] [] (.tup [.lit (.map none),.b false]),.n 16,.x (fun σ=>(σ.set 14 .itr0).put 14 (.loc 14 0 0)),.n 3] rfl ⟨⟨tt_,(Qf2 _ i)⟩,(Stp.range0 rfl rfl (QH hC.n rfl) rfl Qhj rfl)⟩ ?_
  refine AK.loopOnce ?_
  refine Qa hC [.n 2,.x (fun σ=>σ.put 15 (.tup [.b false])),.n 17] rfl ⟨tt_,(Stp.next0 rfl rfl (QH hC.n rfl) rfl rfl)⟩ ?_
  cases h
  exact d1_ rfl rfl tt_
 replace h:Qlc u=some r:=h
 refine Qa hC [.cm (.fn) [] [(10,601)] [] [.d] [(601,.map (QB V.I V.I u))] (.tup [.map 601,.b true]),.n 16] rfl ⟨tt_,(Qf2 _ i)⟩ ?_
 refine AK.openMap (b:=10) Qen rfl fun a c L7 j k=>?_
 refine Qa hC [.x (fun σ=>(σ.set 14 (.itr a c #[] none)).put 14 (.loc 14 0 0)),.n 3,.K [5,14] [10,14]] rfl ⟨tt_,(Stp.range (b:=10) rfl rfl (QH hC.n rfl) rfl rfl Qhj rfl)⟩ ?_
 obtain⟨v,l,h⟩:=Qc h
 refine AK.range (body:=(fun st p=>QeM st p.1 p.2)) (fun st seen σ=>∃cur:Option Nat,σ=⟨[(5,.I st),(14,.loc 14 0 0)],[(10,.mapX a c (Qbt V.I V.I L7) (QB V.I V.I u)),(14,.itr a c seen cur)]⟩) (fun (q:Empty) _ _=>False) (fun st e σ=>e=.exit 0∧σ=⟨[(5,.I st)],[]⟩) j k l (ex_ _ rfl) ?_ ?_
 ·rintro w seen σ ⟨cur,rfl⟩ hex
  refine tg_ hC [.n 2] rfl ?_
  refine AK.nextT (b:=14) (m:=10) rfl rfl rfl (QH hC.n rfl) rfl rfl rfl rfl ?_ ?_
  ·intro hleft
   refine tg_ hC [.n 7,.K [5] []] rfl ?_
   exact AK.done (Or.inl (an_ hleft (an_ (fun h=>(by cases h)) (an_ rfl rfl))))
  intro z s t g
  obtain⟨o,h⟩:=hex _ g
  have ho:=h
  replace h:QeM w s t=some o:=h
  refine Qa hC [.n 10,.x (fun σ=>σ.put 17 (.tup [.I s,.I t])),.n 11,.K [5,14] [10,14]] rfl ⟨tt_,(Stp.entryT (b:=14) (m:=10) (e:=V.I) (f:=V.I) rfl rfl (QH hC.n rfl) rfl g rfl rfl)⟩ ?_
  cases h
  exact AK.done (Or.inr (ex_ _ (an_ g (Or.inl (ex_ _ (an_ ho (an_ rfl (ex_ _ rfl))))))))
 rcases v with(w | q)
 ·replace h:Qsc w=some r:=h
  rintro e σ ⟨rfl,rfl⟩
  refine tg_ hC [.n 9] rfl ?_
  cases h
  exact d1_ rfl rfl tt_
 exact q.elim
def QcO (e:QMk)(a:Int)(b:(List Int)):Option ((Int×(List Int))⊕(List Int)):=
 bif (decide (a<(e.length:Int)))then
 (idx e a).bind fun c=>
 (Qjt c).bind fun d=>
 (idx b a).bind fun f=>
 some (.inl ((w64 (a+1)),(b.set a.toNat d)))
 else
 some (.inr b)
def QhO (a:(List Int)):Option (List Int):=
 some a
def Qcj (a:QMk):Option (List Int):=
 (chk (decide (0≤(a.length:Int))&&decide ((a.length:Int)≤(a.length:Int))&&decide ((a.length:Int)≤4294967296))).bind fun _=>
 (QE (fun st=>QcO a st.1 st.2) (0,(List.replicate (a.length:Int).toNat (0:Int)))).bind (fun q=>QhO q)
theorem QnP (b){r}(h:Qcj b=some r):Qd prog 35 [.sl 1 (b.map Qm),.clo (.func 30) [] []] [] (Gives (.own 600 r.length) [(600,.arr 1 (r.map Qb))]):=by
 refine Qd.walk 26 func35 rfl rfl rfl fun C hC=>?_
 obtain⟨l,h⟩:=QaE h
 refine Qa hC [.n 8,.o (.ln b.length),.o (.rows ((List.replicate (b.length:Int).toNat (0:Int)).map Qb)),.S 10 (.own 10 (List.replicate (b.length:Int).toNat (0:Int)).length),.n 7,.o (.ln b.length),.n 4,.K [1,5,11,12,13] [10]] rfl ⟨⟨⟨⟨tt_,Qg⟩,⟨l,Qoy rfl⟩⟩,(by simp)⟩,Qg⟩ ?_
 obtain⟨u,i,h⟩:=Qc h
 refine AK.loop (body:=(fun st=>QcO b st.1 st.2)) (fun st σ=>σ=⟨[(1,.clo (.func 30) [] []),(5,.own 10 st.2.length),(11,.sl 1 (b.map Qm)),(12,.I (b.length:Int)),(13,.I st.1)],[(10,.arr 1 (st.2.map Qb))]⟩) (fun q e σ=>e=.exit 0∧σ=⟨[(5,.own 10 q.length)],[(10,.arr 1 (q.map Qb))]⟩) i rfl ?_ ?_
 ·rintro ⟨s,t⟩ o σ rfl h
  refine tg_ hC [.n 6] rfl ?_
  rcases Qt h with⟨a,h⟩|⟨a,h⟩
  ·obtain⟨m,j,h⟩:=Qc h
   obtain⟨g,k,h⟩:=Qc h
   obtain⟨p,f,h⟩:=Qc h
   refine Qa hC [.T,.n 7,.o (.row (Qm m)),.n 10,.o (.c false [.d] (.I g)),.n 1,.st (Qb p) ((t.set s.toNat g).map Qb),.n 7,.S 5 (.own 10 (t.set s.toNat g).length),.K [1,5,11,12,13] [10]] rfl ⟨⟨⟨⟨⟨⟨tt_,a⟩,(QJ j)⟩,(Qsd _ k)⟩,(Qbx f rfl)⟩,⟨(QaJ (Qca f).2),Qe7 rfl⟩⟩,(congrArg (fun n=>V.own 10 n) (by simp))⟩ ?_
   cases h
   exact QZ rfl rfl
  refine Qa hC [.F,.n 2,.K [5] [10]] rfl ⟨tt_,a⟩ ?_
  cases h
  exact Q1 rfl (an_ rfl rfl)
 replace h:QhO u=some r:=h
 rintro e σ ⟨rfl,rfl⟩
 refine tg_ hC [.n 9,.K [4] [10],.ren 10 600] rfl ?_
 cases h
 exact d1_ rfl rfl ⟨rfl,tt_⟩
def Qv7 (a:(List Int))(b:(List Int)):Option ((List Int)×(List Int)):=
 some (a,b)
theorem Qx8 (a b){r}(h:Qv7 a b=some r):Qd prog 76 [.sl 1 (a.map Qb),.sl 1 (b.map Qb)] [] (Gives (.clo (.func 139) [] [.loc 2 0 0,.loc 3 0 0]) [(2,.var (Qj r.1)),(3,.var (Qj r.2))]):=by
 refine Qd.walk 6 func76 rfl rfl rfl fun C hC=>?_
 refine tg_ hC [.n 14] rfl ?_
 cases h
 exact d1_ rfl rfl ⟨rfl,rfl,tt_⟩
def Qld (a:Int)(b:Int):Option (Int×Int):=
 bif (((decide (a<0))==(decide (b<0)))&&((decide ((w64 (a+b))<0)) != (decide (a<0))))then
 some (0,6)
 else
 some ((w64 (a+b)),0)
theorem Qy1 (a d){r}(h:Qld a d=some r):Qd prog 140 [.I a,.I d] [] (Gives (.tup [.I r.1,.I r.2]) []):=by
 refine Qd.walk 23 func140 rfl rfl rfl fun C hC=>?_
 refine tg_ hC [.n 16] rfl ?_
 refine AK.meetX (fun σ=>σ=⟨[(6,.I (w64 (a+d))),(21,.b (((decide (a<0))==(decide (d<0)))&&((decide ((w64 (a+d))<0)) != (decide (a<0)))))],[]⟩) ?_ ?_
 ·refine tg_ hC [.n 7] rfl ?_
  rcases Q0 ((decide (a<0))==(decide (d<0)))with c | c
  ·refine Qa hC [.S 15 (.b true),.n 7,.S 21 (.b (((decide (a<0))==(decide (d<0)))&&((decide ((w64 (a+d))<0)) != (decide (a<0))))),.K [6,21] []] rfl ⟨(tc_ c),(congrArg V.b (Qcy c rfl))⟩ ?_
   exact AK.met rfl
  refine Qa hC [.S 15 (.b false),.n 7,.S 21 (.b (((decide (a<0))==(decide (d<0)))&&((decide ((w64 (a+d))<0)) != (decide (a<0))))),.K [6,21] []] rfl ⟨(tc_ c),(congrArg V.b (QeJ c rfl))⟩ ?_
  exact AK.met rfl
 rintro σ rfl
 refine tg_ hC [.n 1] rfl ?_
 refine bg_ h (fun e h=>Qa hC [.T,.n 8,.K [4,5] []] rfl ⟨tt_,e⟩ ?_) fun e h=>Qa hC [.F,.n 10,.K [4,5] []] rfl ⟨tt_,e⟩ ?_
 ·cases h
  exact d2_ rfl rfl rfl tt_
 cases h
 exact d2_ rfl rfl rfl tt_
def QhW (a:Int)(b:Int):Option (Int×Int):=
 bif (((decide (a<0)) != (decide (b<0)))&&((decide ((w64 (a-b))<0)) != (decide (a<0))))then
 some (0,6)
 else
 some ((w64 (a-b)),0)
theorem Qs8 (a d){r}(h:QhW a d=some r):Qd prog 141 [.I a,.I d] [] (Gives (.tup [.I r.1,.I r.2]) []):=by
 refine Qd.walk 23 func141 rfl rfl rfl fun C hC=>?_
 refine tg_ hC [.n 16] rfl ?_
 refine AK.meetX (fun σ=>σ=⟨[(6,.I (w64 (a-d))),(21,.b (((decide (a<0)) != (decide (d<0)))&&((decide ((w64 (a-d))<0)) != (decide (a<0)))))],[]⟩) ?_ ?_
 ·refine tg_ hC [.n 7] rfl ?_
  rcases Q0 ((decide (a<0)) != (decide (d<0)))with c | c
  ·refine Qa hC [.S 15 (.b true),.n 7,.S 21 (.b (((decide (a<0)) != (decide (d<0)))&&((decide ((w64 (a-d))<0)) != (decide (a<0))))),.K [6,21] []] rfl ⟨(tc_ c),(congrArg V.b (Qcy c rfl))⟩ ?_
   exact AK.met rfl
  refine Qa hC [.S 15 (.b false),.n 7,.S 21 (.b (((decide (a<0)) != (decide (d<0)))&&((decide ((w64 (a-d))<0)) != (decide (a<0))))),.K [6,21] []] rfl ⟨(tc_ c),(congrArg V.b (QeJ c rfl))⟩ ?_
  exact AK.met rfl
 rintro σ rfl
 refine tg_ hC [.n 1] rfl ?_
 refine bg_ h (fun e h=>Qa hC [.T,.n 8,.K [4,5] []] rfl ⟨tt_,e⟩ ?_) fun e h=>Qa hC [.F,.n 10,.K [4,5] []] rfl ⟨tt_,e⟩ ?_
 ·cases h
  exact d2_ rfl rfl rfl tt_
 cases h
 exact d2_ rfl rfl rfl tt_
def QhE (a:Int):Option Int:=
 bif (decide (a<0))then
 some (IntKind.u64.wrap (0-(IntKind.u64.wrap a)))
 else
 some (IntKind.u64.wrap a)
theorem Qse (b){r}(h:QhE b=some r):Qd prog 206 [.I b] [] (Gives (.i .u64 r) []):=by
 refine Qd.walk 10 func206 rfl rfl rfl fun C hC=>?_
 refine tg_ hC [.n 12] rfl ?_
 refine bg_ h (fun a h=>Qa hC [.T,.n 3,.o (.any (.i .u64 (IntKind.u64.wrap b)) none),.n 6,.K [2] []] rfl ⟨⟨tt_,a⟩,(fun σ c d _=>Stp.convI rfl rfl (QH hC.n rfl) (c _ _ rfl) QzR Qus)⟩ ?_) fun a h=>Qa hC [.F,.n 5,.o (.any (.i .u64 (IntKind.u64.wrap b)) none),.n 4,.K [2] []] rfl ⟨⟨tt_,a⟩,(fun σ c d _=>Stp.convI rfl rfl (QH hC.n rfl) (c _ _ rfl) QzR Qus)⟩ ?_
 ·cases h
  exact d1_ rfl rfl tt_
 cases h
 exact d1_ rfl rfl tt_
def Qec (a:Int)(b:Int):Option (Int×Int):=
 some ((IntKind.u64.wrap ((IntKind.u64.wrap ((IntKind.u64.wrap ((Qem .u64 a 32)*(Qem .u64 b 32)))+(Qem .u64 (IntKind.u64.wrap ((IntKind.u64.wrap ((Qem .u64 a 32)*(QdW .u64 b 4294967295)))+(Qem .u64 (IntKind.u64.wrap ((QdW .u64 a 4294967295)*(QdW .u64 b 4294967295))) 32))) 32)))+(Qem .u64 (IntKind.u64.wrap ((QdW .u64 (IntKind.u64.wrap ((IntKind.u64.wrap ((Qem .u64 a 32)*(QdW .u64 b 4294967295)))+(Qem .u64 (IntKind.u64.wrap ((QdW .u64 a 4294967295)*(QdW .u64 b 4294967295))) 32))) 4294967295)+(IntKind.u64.wrap ((QdW .u64 a 4294967295)*(Qem .u64 b 32))))) 32))),(IntKind.u64.wrap (a*b)))
theorem Qs9 (b c){r}(h:Qec b c=some r):Qd prog 205 [.i .u64 b,.i .u64 c] [] (Gives (.tup [.i .u64 r.1,.i .u64 r.2]) []):=by
 refine Qd.walk 51 func205 rfl rfl rfl fun C hC=>?_
 refine Qa hC [.n 9,.o (.any (.i .u64 (QdW .u64 b 4294967295)) none),.n 6,.o (.any (.i .u64 (Qem .u64 b 32)) none),.n 6,.o (.any (.i .u64 (QdW .u64 c 4294967295)) none),.n 6,.o (.any (.i .u64 (Qem .u64 c 32)) none),.n 17,.o (.any (.i .u64 (Qem .u64 (IntKind.u64.wrap ((QdW .u64 b 4294967295)*(QdW .u64 c 4294967295))) 32)) none),.n 7,.o (.any (.i .u64 (QdW .u64 (IntKind.u64.wrap ((IntKind.u64.wrap ((Qem .u64 b 32)*(QdW .u64 c 4294967295)))+(Qem .u64 (IntKind.u64.wrap ((QdW .u64 b 4294967295)*(QdW .u64 c 4294967295))) 32))) 4294967295)) none),.n 6,.o (.any (.i .u64 (Qem .u64 (IntKind.u64.wrap ((IntKind.u64.wrap ((Qem .u64 b 32)*(QdW .u64 c 4294967295)))+(Qem .u64 (IntKind.u64.wrap ((QdW .u64 b 4294967295)*(QdW .u64 c 4294967295))) 32))) 32)) none),.n 21,.o (.any (.i .u64 (Qem .u64 (IntKind.u64.wrap ((QdW .u64 (IntKind.u64.wrap ((IntKind.u64.wrap ((Qem .u64 b 32)*(QdW .u64 c 4294967295)))+(Qem .u64 (IntKind.u64.wrap ((QdW .u64 b 4294967295)*(QdW .u64 c 4294967295))) 32))) 4294967295)+(IntKind.u64.wrap ((QdW .u64 b 4294967295)*(Qem .u64 c 32))))) 32)) none),.n 13] rfl ⟨⟨⟨⟨⟨⟨⟨⟨tt_,(fun σ a d _=>Stp.andB rfl rfl (QH hC.n rfl) (a _ _ rfl) (a _ _ rfl))⟩,(fun σ a d _=>Stp.shr rfl rfl (QH hC.n rfl) (a _ _ rfl) (a _ _ rfl) (by decide))⟩,(fun σ a d _=>Stp.andB rfl rfl (QH hC.n rfl) (a _ _ rfl) (a _ _ rfl))⟩,(fun σ a d _=>Stp.shr rfl rfl (QH hC.n rfl) (a _ _ rfl) (a _ _ rfl) (by decide))⟩,(fun σ a d _=>Stp.shr rfl rfl (QH hC.n rfl) (a _ _ rfl) (a _ _ rfl) (by decide))⟩,(fun σ a d _=>Stp.andB rfl rfl (QH hC.n rfl) (a _ _ rfl) (a _ _ rfl))⟩,(fun σ a d _=>Stp.shr rfl rfl (QH hC.n rfl) (a _ _ rfl) (a _ _ rfl) (by decide))⟩,(fun σ a d _=>Stp.shr rfl rfl (QH hC.n rfl) (a _ _ rfl) (a _ _ rfl) (by decide))⟩ ?_
 cases h
 exact d2_ rfl rfl rfl tt_
def Qc7 (b:(Int×Int))(c:Int)(d:Int)(a:Int):Option (Int×Int):=
 bif ((decide (0<b.1))||(decide (a<b.2)))then
 some (0,6)
 else
 some ((w64 (c*d)),0)
def Qf9 (a:Int)(b:Int):Option (Int×Int):=
 (QhE a).bind fun d=>
 (QhE b).bind fun e=>
 (Qec d e).bind fun c=>
 bif ((decide (a<0)) != (decide (b<0)))then
 Qc7 c a b (IntKind.u64.wrap (9223372036854775807+1))
 else
 Qc7 c a b 9223372036854775807
theorem Qvy (k l){r}(h:Qf9 k l=some r):Qd prog 142 [.I k,.I l] [] (Gives (.tup [.I r.1,.I r.2]) []):=by
 refine Qd.walk 34 func142 rfl rfl rfl fun C hC=>?_
 obtain⟨s,m,h⟩:=Qc h
 obtain⟨t,p,h⟩:=Qc h
 obtain⟨f,q,h⟩:=Qc h
 refine Qa hC [.n 9,.o (.c false [.d] (.i .u64 s)),.n 1,.o (.c false [.d] (.i .u64 t)),.o (.c false [.d,.d] (.tup [.i .u64 f.1,.i .u64 f.2])),.n 12] rfl ⟨⟨⟨tt_,(Qse _ m)⟩,(Qse _ p)⟩,(Qs9 _ _ q)⟩ ?_
 refine AK.meet (fun σ=>∃a:Int,σ=⟨[(0,.I k),(1,.I l),(6,.i .u64 f.1),(7,.i .u64 f.2),(8,.i .u64 a)],[]⟩∧Qc7 f k l a=some r) ?_ ?_
 ·refine tg_ hC [.n 9] rfl ?_
  refine bg_ h (fun g h=>Qa hC [.T,.n 5,.K [0,1,6,7,8] []] rfl ⟨tt_,g⟩ ?_) fun g h=>Qa hC [.F,.n 1,.K [0,1,6,7,8] []] rfl ⟨tt_,g⟩ ?_
  ·exact AK.met (ex_ _ (an_ rfl h))
  exact AK.met (ex_ _ (an_ rfl h))
 rintro σ ⟨a,rfl,h⟩
 refine tg_ hC [.n 2] rfl ?_
 refine AK.meetX (fun σ=>σ=⟨[(0,.I k),(1,.I l),(30,.b ((decide (0<f.1))||(decide (a<f.2))))],[]⟩) ?_ ?_
 ·refine tg_ hC [.n 4] rfl ?_
  rcases Q0 (decide (0<f.1))with e | e
  ·refine Qa hC [.S 26 (.b true),.n 5,.S 30 (.b ((decide (0<f.1))||(decide (a<f.2)))),.K [0,1,30] []] rfl ⟨(tc_ e),(congrArg V.b (orT e rfl))⟩ ?_
   exact AK.met rfl
  refine Qa hC [.S 26 (.b false),.n 5,.S 30 (.b ((decide (0<f.1))||(decide (a<f.2)))),.K [0,1,30] []] rfl ⟨(tc_ e),(congrArg V.b (orF e rfl))⟩ ?_
  exact AK.met rfl
 rintro σ rfl
 refine tg_ hC [.n 1] rfl ?_
 refine bg_ h (fun j h=>Qa hC [.T,.n 8,.K [4,5] []] rfl ⟨tt_,j⟩ ?_) fun j h=>Qa hC [.F,.n 12,.K [4,5] []] rfl ⟨tt_,j⟩ ?_
 ·cases h
  exact d2_ rfl rfl rfl tt_
 cases h
 exact d2_ rfl rfl rfl tt_
def Qhk (b:Int)(a:Int):Option (Int×Int×Int):=
 bif (a==0)then
 some (0,0,7)
 else
 bif ((b==(-9223372036854775808))&&(a==(-1)))then
 some (0,0,6)
 else
 (chk (a != 0)).bind fun _=>
 (chk (a != 0)).bind fun _=>
 some ((w64 (Int.tdiv b a)),(Int.tmod b a),0)
theorem QoD (d f){r}(h:Qhk d f=some r):Qd prog 143 [.I d,.I f] [] (Gives (.tup [.I r.1,.I r.2.1,.I r.2.2]) []):=by
 refine Qd.walk 23 func143 rfl rfl rfl fun C hC=>?_
 refine tg_ hC [.n 16] rfl ?_
 refine bg_ h (fun e h=>Qa hC [.T,.n 10,.K [4,5,6] []] rfl ⟨tt_,e⟩ ?_) fun e h=>Qa hC [.F,.n 1] rfl ⟨tt_,e⟩ ?_
 ·cases h
  exact AK.done (ex_ [_,_,_] (an_ (an_ rfl (an_ rfl (an_ rfl tt_))) (gives tt_)))
 refine AK.meetX (fun σ=>σ=⟨[(0,.I d),(1,.I f),(10,.b ((d==(-9223372036854775808))&&(f==(-1))))],[]⟩) ?_ ?_
 ·refine tg_ hC [.n 4] rfl ?_
  rcases Q0 (d==(-9223372036854775808))with a | a
  ·refine Qa hC [.S 13 (.b true),.n 5,.S 10 (.b ((d==(-9223372036854775808))&&(f==(-1)))),.K [0,1,10] []] rfl ⟨(tc_ a),(congrArg V.b (Qcy a rfl))⟩ ?_
   exact AK.met rfl
  refine Qa hC [.S 13 (.b false),.n 5,.S 10 (.b ((d==(-9223372036854775808))&&(f==(-1)))),.K [0,1,10] []] rfl ⟨(tc_ a),(congrArg V.b (QeJ a rfl))⟩ ?_
  exact AK.met rfl
 rintro σ rfl
 refine tg_ hC [.n 1] rfl ?_
 rcases Qt h with⟨c,h⟩|⟨c,h⟩
 ·refine Qa hC [.T,.n 10,.K [4,5,6] []] rfl ⟨tt_,c⟩ ?_
  cases h
  exact AK.done (ex_ [_,_,_] (an_ (an_ rfl (an_ rfl (an_ rfl tt_))) (gives tt_)))
 obtain⟨g,h⟩:=QaE h
 obtain⟨i,h⟩:=QaE h
 refine Qa hC [.F,.n 4,.K [0,1] []] rfl ⟨tt_,c⟩ ?_
 refine AK.draw2 Qs hC mixed [.N,.N,.N,.N,.N,.N,.N,.N,.N] [] [] [4,5,6] [] rfl rfl rfl ⟨⟨tt_,(neZ g)⟩,(neZ i)⟩ rfl (by kernel_rfl) rfl rfl rfl ?_
 refine tg_ hC [.n 2,.K [4,5,6] []] rfl ?_
 cases h
 exact AK.done (ex_ [_,_,_] (an_ (an_ rfl (an_ rfl (an_ rfl tt_))) (gives tt_)))
def Qd2 (a:Bool):Option (Int×Int):=
 bif a then
 some (1,0)
 else
 some (0,0)
theorem Qeg (c){r}(h:Qd2 c=some r):Qd prog 144 [.b c] [] (Gives (.tup [.I r.1,.I r.2]) []):=by
 refine Qd.walk 5 func144 rfl rfl rfl fun C hC=>?_
 refine tg_ hC [.n 12] rfl ?_
 refine bg_ h (fun a h=>Qa hC [.T,.n 8,.K [2,3] []] rfl ⟨tt_,a⟩ ?_) fun a h=>Qa hC [.F,.n 9,.K [2,3] []] rfl ⟨tt_,a⟩ ?_
 ·cases h
  exact d2_ rfl rfl rfl tt_
 cases h
 exact d2_ rfl rfl rfl tt_
def Qut (c:Int)(d:Int):Option (Int×Int):=
 bif (c != 0)then
 (Qd2 (d != 0)).bind fun a=>
 some (a.1,a.2)
 else
 (Qd2 false).bind fun b=>
 some (b.1,b.2)
def Qnk (a:Int)(b:Int):Option (Int×Int):=
 some (a,b)
def Quu (c:Int)(d:Int):Option (Int×Int):=
 bif (c != 0)then
 (Qd2 true).bind fun a=>
 some (a.1,a.2)
 else
 (Qd2 (d != 0)).bind fun b=>
 some (b.1,b.2)
def Qnl (a:Int)(b:Int):Option (Int×Int):=
 some (a,b)
def QcR (op1:Int)(a:Int)(b:Int):Option (Int×Int):=
 bif (op1==1)then
 (Qld a b).bind fun k=>
 some (k.1,k.2)
 else
 bif (op1==2)then
 (QhW a b).bind fun c=>
 some (c.1,c.2)
 else
 bif (op1==3)then
 (Qf9 a b).bind fun d=>
 some (d.1,d.2)
 else
 bif (op1==4)then
 (Qhk a b).bind fun e=>
 some (e.1,e.2.2)
 else
 bif (op1==5)then
 (Qhk a b).bind fun f=>
 some (f.2.1,f.2.2)
 else
 bif (op1==6)then
 (Qd2 (a==b)).bind fun g=>
 some (g.1,g.2)
 else
 bif (op1==7)then
 (Qd2 (a != b)).bind fun h=>
 some (h.1,h.2)
 else
 bif (op1==8)then
 (Qd2 (decide (a<b))).bind fun i=>
 some (i.1,i.2)
 else
 bif (op1==9)then
 (Qd2 (decide (a≤b))).bind fun j=>
 some (j.1,j.2)
 else
 bif (op1==10)then
 (Qut a b).bind (fun v=>Qnk v.1 v.2)
 else
 bif (op1==11)then
 (Quu a b).bind (fun v=>Qnl v.1 v.2)
 else
 some (0,1)
theorem Qih (op1 a2 b3){r}(h:QcR op1 a2 b3=some r):Qd prog 77 [.I op1,.I a2,.I b3] [] (Gives (.tup [.I r.1,.I r.2]) []):=by
 refine Qd.walk 112 func77 rfl rfl rfl fun C hC=>?_
 refine tg_ hC [.n 19] rfl ?_
 rcases Qt h with⟨t,h⟩|⟨t,h⟩
 ·obtain⟨x9,a5,h⟩:=Qc h
  refine Qa hC [.T,.n 4,.o (.c false [.d,.d] (.tup [.I x9.1,.I x9.2])),.n 9] rfl ⟨⟨tt_,t⟩,(Qy1 _ _ a5)⟩ ?_
  cases h
  exact d2_ rfl rfl rfl tt_
 refine Qa hC [.F,.n 6] rfl ⟨tt_,t⟩ ?_
 rcases Qt h with⟨a,h⟩|⟨a,h⟩
 ·obtain⟨x,y,h⟩:=Qc h
  refine Qa hC [.T,.n 4,.o (.c false [.d,.d] (.tup [.I x.1,.I x.2])),.n 9] rfl ⟨⟨tt_,a⟩,(Qs8 _ _ y)⟩ ?_
  cases h
  exact d2_ rfl rfl rfl tt_
 refine Qa hC [.F,.n 6] rfl ⟨tt_,a⟩ ?_
 rcases Qt h with⟨e,h⟩|⟨e,h⟩
 ·obtain⟨z,A,h⟩:=Qc h
  refine Qa hC [.T,.n 4,.o (.c false [.d,.d] (.tup [.I z.1,.I z.2])),.n 9] rfl ⟨⟨tt_,e⟩,(Qvy _ _ A)⟩ ?_
  cases h
  exact d2_ rfl rfl rfl tt_
 refine Qa hC [.F,.n 6] rfl ⟨tt_,e⟩ ?_
 rcases Qt h with⟨f,h⟩|⟨f,h⟩
 ·obtain⟨u,B,h⟩:=Qc h
  refine Qa hC [.T,.n 4,.o (.c false [.d,.d] (.tup [.I u.1,.I u.2.1,.I u.2.2])),.n 20] rfl ⟨⟨tt_,f⟩,(QoD _ _ B)⟩ ?_
  cases h
  exact d2_ rfl rfl rfl tt_
 refine Qa hC [.F,.n 6] rfl ⟨tt_,f⟩ ?_
 rcases Qt h with⟨g,h⟩|⟨g,h⟩
 ·obtain⟨w,D,h⟩:=Qc h
  refine Qa hC [.T,.n 4,.o (.c false [.d,.d] (.tup [.I w.1,.I w.2.1,.I w.2.2])),.n 20] rfl ⟨⟨tt_,g⟩,(QoD _ _ D)⟩ ?_
  cases h
  exact d2_ rfl rfl rfl tt_
 refine Qa hC [.F,.n 6] rfl ⟨tt_,g⟩ ?_
 rcases Qt h with⟨i,h⟩|⟨i,h⟩
 ·obtain⟨E,G,h⟩:=Qc h
  refine Qa hC [.T,.n 5,.o (.c false [.d] (.tup [.I E.1,.I E.2])),.n 9] rfl ⟨⟨tt_,i⟩,(Qeg _ G)⟩ ?_
  cases h
  exact d2_ rfl rfl rfl tt_
 refine Qa hC [.F,.n 6] rfl ⟨tt_,i⟩ ?_
 rcases Qt h with⟨j,h⟩|⟨j,h⟩
 ·obtain⟨H,J,h⟩:=Qc h
  refine Qa hC [.T,.n 5,.o (.c false [.d] (.tup [.I H.1,.I H.2])),.n 9] rfl ⟨⟨tt_,j⟩,(Qeg _ J)⟩ ?_
  cases h
  exact d2_ rfl rfl rfl tt_
 refine Qa hC [.F,.n 6] rfl ⟨tt_,j⟩ ?_
 rcases Qt h with⟨k,h⟩|⟨k,h⟩
 ·obtain⟨L,M,h⟩:=Qc h
  refine Qa hC [.T,.n 5,.o (.c false [.d] (.tup [.I L.1,.I L.2])),.n 9] rfl ⟨⟨tt_,k⟩,(Qeg _ M)⟩ ?_
  cases h
  exact d2_ rfl rfl rfl tt_
 refine Qa hC [.F,.n 6] rfl ⟨tt_,k⟩ ?_
 rcases Qt h with⟨l,h⟩|⟨l,h⟩
 ·obtain⟨N,O,h⟩:=Qc h
  refine Qa hC [.T,.n 5,.o (.c false [.d] (.tup [.I N.1,.I N.2])),.n 9] rfl ⟨⟨tt_,l⟩,(Qeg _ O)⟩ ?_
  cases h
  exact d2_ rfl rfl rfl tt_
 refine Qa hC [.F,.n 6] rfl ⟨tt_,l⟩ ?_
 refine bg_ h (fun m h=>Qa hC [.T,.n 1] rfl ⟨tt_,m⟩ ?_) fun m h=>Qa hC [.F,.n 6] rfl ⟨tt_,m⟩ ?_
 ·obtain⟨v,P,h⟩:=Qc h
  replace h:Qnk v.1 v.2=some r:=h
  refine AK.meetX (fun σ=>σ=⟨[(6,.I v.1),(7,.I v.2)],[]⟩) ?_ ?_
  ·replace h:=P
   refine tg_ hC [.n 4] rfl ?_
   rcases Qt h with⟨p,h⟩|⟨p,h⟩
   ·obtain⟨U,W,h⟩:=Qc h
    refine Qa hC [.S 94 (.b true),.n 3,.o (.c false [.d] (.tup [.I U.1,.I U.2])),.n 5,.K [6,7] []] rfl ⟨(tc_ p),(Qeg _ W)⟩ ?_
    cases h
    exact AK.met rfl
   obtain⟨X,Y,h⟩:=Qc h
   refine Qa hC [.S 94 (.b false),.n 3,.o (.c false [.d] (.tup [.I X.1,.I X.2])),.n 5,.K [6,7] []] rfl ⟨(tc_ p),(Qeg _ Y)⟩ ?_
   cases h
   exact AK.met rfl
  rintro σ rfl
  obtain⟨a6,a7⟩:=v
  replace h:Qnk a6 a7=some r:=h
  refine tg_ hC [.n 4] rfl ?_
  cases h
  exact d2_ rfl rfl rfl tt_
 refine bg_ h (fun q h=>Qa hC [.T,.n 1] rfl ⟨tt_,q⟩ ?_) fun q h=>Qa hC [.F,.n 10,.K [6,7] []] rfl ⟨tt_,q⟩ ?_
 ·obtain⟨v,Z,h⟩:=Qc h
  replace h:Qnl v.1 v.2=some r:=h
  refine AK.meetX (fun σ=>σ=⟨[(6,.I v.1),(7,.I v.2)],[]⟩) ?_ ?_
  ·replace h:=Z
   refine tg_ hC [.n 4] rfl ?_
   rcases Qt h with⟨s,h⟩|⟨s,h⟩
   ·obtain⟨a0,a1,h⟩:=Qc h
    refine Qa hC [.S 105 (.b true),.n 3,.o (.c false [.d] (.tup [.I a0.1,.I a0.2])),.n 5,.K [6,7] []] rfl ⟨(tc_ s),(Qeg _ a1)⟩ ?_
    cases h
    exact AK.met rfl
   obtain⟨a3,a4,h⟩:=Qc h
   refine Qa hC [.S 105 (.b false),.n 3,.o (.c false [.d] (.tup [.I a3.1,.I a3.2])),.n 5,.K [6,7] []] rfl ⟨(tc_ s),(Qeg _ a4)⟩ ?_
   cases h
   exact AK.met rfl
  rintro σ rfl
  obtain⟨a8,a9⟩:=v
  replace h:Qnl a8 a9=some r:=h
  refine tg_ hC [.n 4] rfl ?_
  cases h
  exact d2_ rfl rfl rfl tt_
 cases h
 exact d2_ rfl rfl rfl tt_
def Qg5 (b:Int)(a:Int):Option ((Int×Int)⊕Int):=
 bif (a != 0)then
 some (.inl (0,a))
 else
 some (.inr b)
def QfP (g:Int)(h:Int)(f:Int)(e:QhB):Option ((Int×Int)⊕Int):=
 (QcR 3 e.a e.b).bind fun d=>
 bif (d.2==0)then
 (QcR 1 f d.1).bind fun c=>
 Qg5 c.1 c.2
 else
 Qg5 d.1 d.2
theorem QlK (lpl lpf:Nat)(j:Int)(k:Int)(l:Int)(p:QhB){r:((Int×Int)⊕Int)}(h:QfP j k l p=some r):Qky prog lpl (Qct lpf) (QF3 (.loc 616 0 0) (.loc 617 0 0) (.loc 618 0 0) (.agg (QjL p))) [(615,.lp lpl (Qct lpf) (Qid (.loc 616 0 0) (.loc 617 0 0) (.loc 618 0 0)) 0),(616,.var (Qb j)),(617,.var (Qb k)),(618,.var (Qb l))] ((Sum.elim (fun q=>(Gives (.b false) [(615,.lp lpl (Qct lpf) (Qid (.loc 616 0 0) (.loc 617 0 0) (.loc 618 0 0)) 2),(616,.var (Qb q.1)),(617,.var (Qb q.2)),(618,.var (Qb l))])) (fun q=>(Gives (.b true) [(615,.lp lpl (Qct lpf) (Qid (.loc 616 0 0) (.loc 617 0 0) (.loc 618 0 0)) 0),(616,.var (Qb j)),(617,.var (Qb k)),(618,.var (Qb q))]))) r):=by
 refine Qky.walk (b:=615) 35 rfl rfl fun C hC=>?_
 refine Qa hC [.n 3,.O 7 (.var (QjL p)),.n 1] rfl ⟨tt_,rfl⟩ ?_
 refine AK.done (an_ rfl (ex_ _ (an_ rfl ?_)))
 obtain⟨t,s,h⟩:=Qc h
 refine Qa hC [.n 7,.o (.c false [.d,.d,.d] (.tup [.I t.1,.I t.2])),.n 7] rfl ⟨tt_,(Qih _ _ _ s)⟩ ?_
 refine AK.meet (fun σ=>∃m:Int,∃a:Int,σ=⟨[(4,.loc 616 0 0),(5,.loc 617 0 0),(6,.loc 618 0 0),(8,.I m),(9,.I a)],[(615,.lp lpl (Qct lpf) (Qid (.loc 616 0 0) (.loc 617 0 0) (.loc 618 0 0)) 1),(616,.var (Qb j)),(617,.var (Qb k)),(618,.var (Qb l))]⟩∧Qg5 m a=some r) ?_ ?_
 ·refine tg_ hC [.n 6] rfl ?_
  rcases Qt h with⟨e,h⟩|⟨e,h⟩
  ·obtain⟨g,i,h⟩:=Qc h
   refine Qa hC [.T,.n 3,.o (.c false [.d,.d,.d] (.tup [.I g.1,.I g.2])),.n 6,.K [4,5,6,8,9] [615,616,617,618]] rfl ⟨⟨tt_,e⟩,(Qih _ _ _ i)⟩ ?_
   exact AK.met (ex_ _ (ex_ _ (an_ rfl h)))
  refine Qa hC [.F,.n 1,.K [4,5,6,8,9] [615,616,617,618]] rfl ⟨tt_,e⟩ ?_
  exact AK.met (ex_ _ (ex_ _ (an_ rfl h)))
 rintro σ ⟨m,a,rfl,h⟩
 refine tg_ hC [.n 7] rfl ?_
 refine bg_ h (fun f h=>Qa hC [.T,.n 4,.O 616 (.var (Qb 0)),.n 1,.O 617 (.var (Qb a)),.n 5,.K [] [615,616,617,618]] rfl ⟨⟨⟨tt_,f⟩,rfl⟩,rfl⟩ ?_) fun f h=>Qa hC [.F,.n 5,.O 618 (.var (Qb m)),.n 2,.K [] [615,616,617,618]] rfl ⟨⟨tt_,f⟩,rfl⟩ ?_
 ·cases h
  refine AK.done ?_
  exact ex_ _ (an_ rfl (gives ⟨rfl,rfl,rfl,rfl,tt_⟩))
 cases h
 refine AK.done ?_
 exact ex_ _ (an_ rfl (gives ⟨rfl,rfl,rfl,rfl,tt_⟩))
def Qp4 (b:Int)(a:(Int×Int)):Option ((Int×Int)⊕((Int×Int×Int)⊕Int)):=
 some (.inr (.inl (a.1,a.2,b)))
def QiK (a:Int)(b:Int):Option ((Int×Int)⊕((Int×Int×Int)⊕Int)):=
 some (.inl ((w64 (a+1)),b))
def Qdx (f:(List Int))(g:(List Int))(h:Int)(i:Int)(a:Int)(b:Int):Option ((Int×Int)⊕((Int×Int×Int)⊕Int)):=
 bif (decide (a<(min2 (f.length:Int) (g.length:Int))))then
 (idx f a).bind fun c=>
 (idx g a).bind fun d=>
 (QfP h i b (QhB.mk c d)).bind fun e=>
 (Sum.elim (fun q=>Qp4 b q) (fun q=>QiK a q)) e
 else
 some (.inr (.inr b))
def QmO (a:Int)(b:Int)(c:Int):Option ((Int×Int×Int)⊕Int):=
 some (.inl (a,b,c))
def QmP (a:Int):Option ((Int×Int×Int)⊕Int):=
 some (.inr a)
def Qjf (a:Int)(b:Int)(c:Int)(d:(List Int))(e:(List Int)):Option ((Int×Int×Int)⊕Int):=
 (QE (fun st=>Qdx d e a b st.1 st.2) (0,c)).bind (Sum.elim (fun q=>QmO q.1 q.2.1 q.2.2) (fun q=>QmP q))
theorem Qp5 (lpl lpf:Nat)(k:Int)(l:Int)(P:Int)(i:(List Int))(j:(List Int)){r:((Int×Int×Int)⊕Int)}(h:Qjf k l P i j=some r):Qd prog 139 [.clo (.yield lpl) [] [],.loc 619 0 0,.loc 620 0 0] [(615,.lp lpl (Qct lpf) (Qid (.loc 616 0 0) (.loc 617 0 0) (.loc 618 0 0)) 0),(616,.var (Qb k)),(617,.var (Qb l)),(618,.var (Qb P)),(619,.var (Qj i)),(620,.var (Qj j))] ((Sum.elim (fun q=>(Gives (.tup []) [(615,.lp lpl (Qct lpf) (Qid (.loc 616 0 0) (.loc 617 0 0) (.loc 618 0 0)) 2),(616,.var (Qb q.1)),(617,.var (Qb q.2.1)),(618,.var (Qb q.2.2)),(619,.var (Qj i)),(620,.var (Qj j))])) (fun q=>(Gives (.tup []) [(615,.lp lpl (Qct lpf) (Qid (.loc 616 0 0) (.loc 617 0 0) (.loc 618 0 0)) 0),(616,.var (Qb k)),(617,.var (Qb l)),(618,.var (Qb q)),(619,.var (Qj i)),(620,.var (Qj j))]))) r):=by
 refine Qd.walk 26 func139 rfl rfl rfl fun C hC=>?_
 refine Qa hC [.n 3,.o (.ln i.length),.n 1,.o (.ln j.length),.n 5,.K [0,1,2,9,10] [615,616,617,618,619,620]] rfl ⟨⟨tt_,Qg⟩,Qg⟩ ?_
 obtain⟨B,y,h⟩:=Qc h
 refine AK.loop (body:=(fun st=>Qdx i j k l st.1 st.2)) (fun st σ=>σ=⟨[(0,.clo (.yield lpl) [] []),(1,.loc 619 0 0),(2,.loc 620 0 0),(9,.I (min2 (i.length:Int) (j.length:Int))),(10,.I st.1)],[(615,.lp lpl (Qct lpf) (Qid (.loc 616 0 0) (.loc 617 0 0) (.loc 618 0 0)) 0),(616,.var (Qb k)),(617,.var (Qb l)),(618,.var (Qb st.2)),(619,.var (Qj i)),(620,.var (Qj j))]⟩) (Sum.elim (fun q e σ=>e=.ret∧σ=⟨[],[(615,.lp lpl (Qct lpf) (Qid (.loc 616 0 0) (.loc 617 0 0) (.loc 618 0 0)) 2),(616,.var (Qb q.1)),(617,.var (Qb q.2.1)),(618,.var (Qb q.2.2)),(619,.var (Qj i)),(620,.var (Qj j))]⟩) (fun q e σ=>e=.exit 0∧σ=⟨[],[(615,.lp lpl (Qct lpf) (Qid (.loc 616 0 0) (.loc 617 0 0) (.loc 618 0 0)) 0),(616,.var (Qb k)),(617,.var (Qb l)),(618,.var (Qb q)),(619,.var (Qj i)),(620,.var (Qj j))]⟩)) y rfl ?_ ?_
 ·rintro ⟨D,p⟩ o σ rfl h
  refine tg_ hC [.n 6] rfl ?_
  refine bg_ h (fun f h=>Qa hC [.T,.n 11] rfl ⟨tt_,f⟩ ?_) fun f h=>Qa hC [.F,.n 2,.K [] [615,616,617,618,619,620]] rfl ⟨tt_,f⟩ ?_
  ·obtain⟨s,v,h⟩:=Qc h
   obtain⟨t,w,h⟩:=Qc h
   obtain⟨E,x,h⟩:=Qc h
   rcases E with(c | u)
   ·replace h:Qp4 p c=some o:=h
    refine tg_ hC [.K [0,1,2,4,9,10] [615,616,617,618,619,620]] rfl ?_
    refine AK.draw2 Qs hC mixed [.N,.N,.N,.a (.row (Qb s)) none false,.N,.N,.N,.a (.row (Qb t)) none false,.N,.a .no (some ([],.agg (QjL (QhB.mk s t)))) false,.m (.any ⟨[],[(615,.lp lpl (Qct lpf) (Qid (.loc 616 0 0) (.loc 617 0 0) (.loc 618 0 0)) 2),(616,.var (Qb c.1)),(617,.var (Qb c.2)),(618,.var (Qb p))],some (23,.b false)⟩),.N] [] [] [0,1,2,9,10,24] [615,616,617,618,619,620] rfl rfl rfl ⟨⟨⟨⟨tt_,(QJ v)⟩,(QJ w)⟩,rfl⟩,(fun σ z A=>Stp.yieldH (b:=615) (M:=[(615,615),(616,616),(617,617),(618,618)]) (N:=[(615,615),(616,616),(617,617),(618,618)]) (dead:=[]) (ms:=[.d,.d,.d,.d,.d,.d,.d,.d,.d,.d,.d,.d,.d,.d,.d,.d,.d,.d,.d,.d,.d,.d,.d,.d,.d,.d,.d,.d,.d,.d,.d,.d,.d,.d,.d]) (outs:=[(615,.lp lpl (Qct lpf) (Qid (.loc 616 0 0) (.loc 617 0 0) (.loc 618 0 0)) 2),(616,.var (Qb c.1)),(617,.var (Qb c.2)),(618,.var (Qb p))]) (r:=.b false) A rfl (z _ _ rfl) (A _ _ rfl) rfl (QeK z rfl) rfl rfl (QH hC.n rfl) hC.g rfl rfl rfl rfl rfl rfl rfl rfl (QlK _ _ _ _ _ _ x))⟩ rfl (by kernel_rfl) rfl rfl rfl ?_
    refine Qa hC [.O 615 (.lp lpl (Qct lpf) (Qid (.loc 616 0 0) (.loc 617 0 0) (.loc 618 0 0)) 2),.O 616 (.var (Qb c.1)),.O 617 (.var (Qb c.2)),.O 618 (.var (Qb p)),.n 5,.K [] [615,616,617,618,619,620]] rfl ⟨⟨⟨⟨tt_,rfl⟩,rfl⟩,rfl⟩,rfl⟩ ?_
    cases h
    exact Qal rfl (an_ rfl rfl)
   replace h:QiK D u=some o:=h
   refine tg_ hC [.K [0,1,2,4,9,10] [615,616,617,618,619,620]] rfl ?_
   refine AK.draw2 Qs hC mixed [.N,.N,.N,.a (.row (Qb s)) none false,.N,.N,.N,.a (.row (Qb t)) none false,.N,.a .no (some ([],.agg (QjL (QhB.mk s t)))) false,.m (.any ⟨[],[(615,.lp lpl (Qct lpf) (Qid (.loc 616 0 0) (.loc 617 0 0) (.loc 618 0 0)) 0),(616,.var (Qb k)),(617,.var (Qb l)),(618,.var (Qb u))],some (23,.b true)⟩),.N] [] [] [0,1,2,9,10,24] [615,616,617,618,619,620] rfl rfl rfl ⟨⟨⟨⟨tt_,(QJ v)⟩,(QJ w)⟩,rfl⟩,(fun σ z A=>Stp.yieldH (b:=615) (M:=[(615,615),(616,616),(617,617),(618,618)]) (N:=[(615,615),(616,616),(617,617),(618,618)]) (dead:=[]) (ms:=[.d,.d,.d,.d,.d,.d,.d,.d,.d,.d,.d,.d,.d,.d,.d,.d,.d,.d,.d,.d,.d,.d,.d,.d,.d,.d,.d,.d,.d,.d,.d,.d,.d,.d,.d]) (outs:=[(615,.lp lpl (Qct lpf) (Qid (.loc 616 0 0) (.loc 617 0 0) (.loc 618 0 0)) 0),(616,.var (Qb k)),(617,.var (Qb l)),(618,.var (Qb u))]) (r:=.b true) A rfl (z _ _ rfl) (A _ _ rfl) rfl (QeK z rfl) rfl rfl (QH hC.n rfl) hC.g rfl rfl rfl rfl rfl rfl rfl rfl (QlK _ _ _ _ _ _ x))⟩ rfl (by kernel_rfl) rfl rfl rfl ?_
   refine Qa hC [.O 615 (.lp lpl (Qct lpf) (Qid (.loc 616 0 0) (.loc 617 0 0) (.loc 618 0 0)) 0),.O 616 (.var (Qb k)),.O 617 (.var (Qb l)),.O 618 (.var (Qb u)),.n 9,.K [0,1,2,9,10] [615,616,617,618,619,620]] rfl ⟨⟨⟨⟨tt_,rfl⟩,rfl⟩,rfl⟩,rfl⟩ ?_
   cases h
   exact QZ rfl rfl
  cases h
  exact Q1 rfl (an_ rfl rfl)
 rcases B with(⟨G,H,J⟩|L)
 ·replace h:QmO G H J=some r:=h
  rintro e σ ⟨rfl,rfl⟩
  refine tg_ hC [.n 1,.K [] [615,616,617,618,619,620]] rfl ?_
  cases h
  refine AK.done ?_
  exact ex_ [] (an_ tt_ (gives ⟨rfl,rfl,rfl,rfl,rfl,rfl,tt_⟩))
 replace h:QmP L=some r:=h
 rintro e σ ⟨rfl,rfl⟩
 refine tg_ hC [.n 1,.K [] [615,616,617,618,619,620]] rfl ?_
 cases h
 refine AK.done ?_
 exact ex_ [] (an_ tt_ (gives ⟨rfl,rfl,rfl,rfl,rfl,rfl,tt_⟩))
def Qle (a:(Int×Int×Int)):Option (Int×Int):=
 some (a.1,a.2.1)
def Qlf (a:Int):Option (Int×Int):=
 some (a,0)
def Ql4 (b:(List Int))(c:(List Int)):Option (Int×Int):=
 (Qv7 b c).bind fun a=>
 (Qjf 0 0 0 a.1 a.2).bind (Sum.elim (fun q=>Qle q) (fun q=>Qlf q))
theorem Qsf (g i){r}(h:Ql4 g i=some r):Qd prog 34 [.sl 1 (g.map Qb),.sl 1 (i.map Qb)] [] (Gives (.tup [.I r.1,.I r.2]) []):=by
 refine Qd.walkR 35 func34 rfl ntmps34 rfl fun C hC hR=>?_
 obtain⟨b,f,h⟩:=Qc h
 refine Qa hC [.n 10,.O 6 (.var (Qb 0)),.n 7,.cm (.fn) [] [(12,2),(608,3)] [] [.d,.d] [(2,.var (Qj b.1)),(3,.var (Qj b.2))] (.clo (.func 139) [] [.loc 2 0 0,.loc 3 0 0]),.n 3,.K [4,5,6,12] [4,5,6,12,608]] rfl ⟨⟨tt_,rfl⟩,(Qx8 _ _ f)⟩ ?_
 obtain⟨j,c,h⟩:=Qc h
 rcases j with(e | a)
 ·replace h:Qle e=some r:=h
  refine AK.rangeF 612 [4,5,6] [(615,612),(616,4),(617,5),(618,6),(619,12),(620,608)] [(612,615),(4,616),(5,617),(6,618),(12,619),(608,620)] [] [.d,.d,.d] Qct hC hR (fun _=>rfl) rfl rfl rfl rfl fun lpl lpf=>?_
  refine ex_ [(615,.lp lpl (Qct lpf) (Qid (.loc 616 0 0) (.loc 617 0 0) (.loc 618 0 0)) 2),(616,.var (Qb e.1)),(617,.var (Qb e.2.1)),(618,.var (Qb e.2.2)),(619,.var (Qj b.1)),(620,.var (Qj b.2))] (ex_ (.tup []) (ex_ _ (ex_ _ (ex_ (Qid (.loc 4 0 0) (.loc 5 0 0) (.loc 6 0 0)) (ex_ 2 (an_ rfl ?_))))))
  refine an_ (Qp5 _ _ _ _ _ _ _ c) (an_ rfl (an_ (bne_iff_ne.1 (show(2 != 1)=true from rfl)) ?_))
  refine QEB rfl ?_
  refine tg_ hC [.n 3,.K [4,5] [4,5]] rfl ?_
  cases h
  exact AK.done (ex_ [_,_] (an_ (an_ (ex_ _ (ex_ _ (an_ rfl (an_ rfl (Or.inr (an_ (Qs.ag rfl) rfl)))))) (an_ (ex_ _ (ex_ _ (an_ rfl (an_ rfl (Or.inr (an_ (Qs.ag rfl) rfl)))))) tt_)) (gives tt_)))
 replace h:Qlf a=some r:=h
 refine AK.rangeF 612 [4,5,6] [(615,612),(616,4),(617,5),(618,6),(619,12),(620,608)] [(612,615),(4,616),(5,617),(6,618),(12,619),(608,620)] [] [.d,.d,.d] Qct hC hR (fun _=>rfl) rfl rfl rfl rfl fun lpl lpf=>?_
 refine ex_ [(615,.lp lpl (Qct lpf) (Qid (.loc 616 0 0) (.loc 617 0 0) (.loc 618 0 0)) 0),(616,.var (Qb 0)),(617,.var (Qb 0)),(618,.var (Qb a)),(619,.var (Qj b.1)),(620,.var (Qj b.2))] (ex_ (.tup []) (ex_ _ (ex_ _ (ex_ (Qid (.loc 4 0 0) (.loc 5 0 0) (.loc 6 0 0)) (ex_ 0 (an_ rfl ?_))))))
 refine an_ (Qp5 _ _ _ _ _ _ _ c) (an_ rfl (an_ (bne_iff_ne.1 (show(0 != 1)=true from rfl)) ?_))
 refine QDe rfl ?_
 refine Qa hC [.n 6,.O 4 (.var (Qb a)),.n 1,.O 5 (.var (Qb 0)),.n 3,.K [4,5] [4,5]] rfl ⟨⟨tt_,rfl⟩,rfl⟩ ?_
 cases h
 exact AK.done (ex_ [_,_] (an_ (an_ (ex_ _ (ex_ _ (an_ rfl (an_ rfl (Or.inr (an_ (Qs.ag rfl) rfl)))))) (an_ (ex_ _ (ex_ _ (an_ rfl (an_ rfl (Or.inr (an_ (Qs.ag rfl) rfl)))))) tt_)) (gives tt_)))
def Qjg (a:(List Int))(b:QMk):Option (Int×Int):=
 bif ((a.length:Int) != (b.length:Int))then
 some (0,1)
 else
 (Qcj b).bind fun d=>
 (Ql4 a d).bind fun c=>
 some (c.1,c.2)
theorem Qp6 (b e){r}(h:Qjg b e=some r):Qd prog 12 [.sl 1 (b.map Qb),.sl 1 (e.map Qm)] [] (Gives (.tup [.I r.1,.I r.2]) []):=by
 refine Qd.walk 17 func12 rfl rfl rfl fun C hC=>?_
 refine Qa hC [.n 10,.o (.ln b.length),.n 1,.o (.ln e.length),.n 3] rfl ⟨⟨tt_,Qg⟩,Qg⟩ ?_
 rcases Qt h with⟨a,h⟩|⟨a,h⟩
 ·refine Qa hC [.T,.n 8] rfl ⟨tt_,a⟩ ?_
  cases h
  exact d2_ rfl rfl rfl tt_
 obtain⟨f,g,h⟩:=Qc h
 obtain⟨j,i,h⟩:=Qc h
 refine Qa hC [.F,.n 6,.cm (.fn) [] [(13,600)] [] [.d,.d] [(600,.arr 1 (f.map Qb))] (.own 600 f.length),.o (.c true [.d,.o (f.map Qb)] (.tup [.I j.1,.I j.2])),.n 7] rfl ⟨⟨⟨tt_,a⟩,(QnP _ g)⟩,⟨(Qm2 rfl),(Qsf _ _ i)⟩⟩ ?_
 cases h
 exact d2_ rfl rfl rfl tt_
def Qq3 (c:(List Int))(d:(List Int))(a:Int):Option (Int⊕(Unit⊕Unit)):=
 bif (decide (a<(c.length:Int)))then
 (idx c a).bind fun e=>
 (idx d a).bind fun b=>
 bif (e != b)then
 some (.inr (.inl ()))
 else
 some (.inl (w64 (a+1)))
 else
 some (.inr (.inr ()))
def Qq4 : Option Bool:=
 some false
def Qq5 : Option Bool:=
 some true
def Qnm (a:(List Int))(b:(List Int)):Option Bool:=
 bif ((a.length:Int) != (b.length:Int))then
 some false
 else
 (QE (fun st=>Qq3 a b st) 0).bind (Sum.elim (fun q=>Qq4) (fun q=>Qq5))
theorem Qnn (g i){r}(h:Qnm g i=some r):Qd prog 17 [.sl 1 (g.map Qb),.sl 1 (i.map Qb)] [] (Gives (.b r) []):=by
 refine Qd.walk 26 func17 rfl rfl rfl fun C hC=>?_
 refine Qa hC [.n 9,.o (.ln g.length),.n 1,.o (.ln i.length),.n 3] rfl ⟨⟨tt_,Qg⟩,Qg⟩ ?_
 refine bg_ h (fun d h=>Qa hC [.T,.n 7,.K [4] []] rfl ⟨tt_,d⟩ ?_) fun d h=>Qa hC [.F,.n 9,.K [0,1,5] []] rfl ⟨tt_,d⟩ ?_
 ·cases h
  exact d1_ rfl rfl tt_
 obtain⟨l,j,h⟩:=Qc h
 refine AK.loop (body:=(fun st=>Qq3 g i st)) (fun st σ=>σ=⟨[(0,.sl 1 (g.map Qb)),(1,.sl 1 (i.map Qb)),(5,.I st)],[]⟩) (Sum.elim (fun q e σ=>e=.ret∧σ=⟨[(4,.b false)],[]⟩) (fun q e σ=>e=.exit 0∧σ=⟨[],[]⟩)) j rfl ?_ ?_
 ·rintro t o σ rfl h
  refine Qa hC [.n 5,.o (.ln g.length),.n 3] rfl ⟨tt_,Qg⟩ ?_
  rcases Qt h with⟨f,h⟩|⟨f,h⟩
  ·obtain⟨s,m,h⟩:=Qc h
   obtain⟨p,k,h⟩:=Qc h
   refine Qa hC [.T,.n 5,.K [0,1,5] []] rfl ⟨tt_,f⟩ ?_
   refine AK.draw2 Qs hC mixed [.N,.N,.a (.row (Qb s)) none false,.N,.N,.N,.a (.row (Qb p)) none false,.N,.N] [] [] [0,1,5,25] [] rfl rfl rfl ⟨⟨tt_,(QJ m)⟩,(QJ k)⟩ rfl (by kernel_rfl) rfl rfl rfl ?_
   refine tg_ hC [.n 1] rfl ?_
   refine bg_ h (fun c h=>Qa hC [.T,.n 8,.K [4] []] rfl ⟨tt_,c⟩ ?_) fun c h=>Qa hC [.F,.n 8,.K [0,1,5] []] rfl ⟨tt_,c⟩ ?_
   ·cases h
    exact Qal rfl (an_ rfl rfl)
   cases h
   exact QZ rfl rfl
  refine Qa hC [.F,.n 2,.K [] []] rfl ⟨tt_,f⟩ ?_
  cases h
  exact Q1 rfl (an_ rfl rfl)
 rcases l with(_ | _)
 ·replace h:Qq4=some r:=h
  rintro e σ ⟨rfl,rfl⟩
  refine tg_ hC [.n 2] rfl ?_
  cases h
  exact d1_ rfl rfl tt_
 replace h:Qq5=some r:=h
 rintro e σ ⟨rfl,rfl⟩
 refine tg_ hC [.n 8] rfl ?_
 cases h
 exact d1_ rfl rfl tt_
def Qq6 (d:QLL)(e:QLL)(a:Int):Option (Int⊕(Unit⊕Unit)):=
 bif (decide (a<(d.length:Int)))then
 (idx d a).bind fun f=>
 (idx e a).bind fun b=>
 (Qnm f b).bind fun c=>
 bif (!c)then
 some (.inr (.inl ()))
 else
 some (.inl (w64 (a+1)))
 else
 some (.inr (.inr ()))
def Qq7 : Option Bool:=
 some false
def Qq8 : Option Bool:=
 some true
def Qp7 (a:QLL)(b:QLL):Option Bool:=
 bif ((a.length:Int) != (b.length:Int))then
 some false
 else
 (QE (fun st=>Qq6 a b st) 0).bind (Sum.elim (fun q=>Qq7) (fun q=>Qq8))
theorem Qq9 (j k){r}(h:Qp7 j k=some r):Qd prog 14 [.sl 1 (j.map Qj),.sl 1 (k.map Qj)] [] (Gives (.b r) []):=by
 refine Qd.walk 27 func14 rfl rfl rfl fun C hC=>?_
 refine Qa hC [.n 9,.o (.ln j.length),.n 1,.o (.ln k.length),.n 3] rfl ⟨⟨tt_,Qg⟩,Qg⟩ ?_
 refine bg_ h (fun g h=>Qa hC [.T,.n 7,.K [4] []] rfl ⟨tt_,g⟩ ?_) fun g h=>Qa hC [.F,.n 9,.K [0,1,5] []] rfl ⟨tt_,g⟩ ?_
 ·cases h
  exact d1_ rfl rfl tt_
 obtain⟨s,l,h⟩:=Qc h
 refine AK.loop (body:=(fun st=>Qq6 j k st)) (fun st σ=>σ=⟨[(0,.sl 1 (j.map Qj)),(1,.sl 1 (k.map Qj)),(5,.I st)],[]⟩) (Sum.elim (fun q e σ=>e=.ret∧σ=⟨[(4,.b false)],[]⟩) (fun q e σ=>e=.exit 0∧σ=⟨[],[]⟩)) l rfl ?_ ?_
 ·rintro x o σ rfl h
  refine Qa hC [.n 5,.o (.ln j.length),.n 3] rfl ⟨tt_,Qg⟩ ?_
  rcases Qt h with⟨i,h⟩|⟨i,h⟩
  ·obtain⟨w,t,h⟩:=Qc h
   obtain⟨u,m,h⟩:=Qc h
   obtain⟨v,p,h⟩:=Qc h
   refine Qa hC [.T,.n 5,.K [0,1,5] []] rfl ⟨tt_,i⟩ ?_
   refine AK.draw2 Qs hC mixed [.N,.N,.a (.row (Qj w)) none false,.N,.N,.N,.a (.row (Qj u)) none false,.N,.a (.c false [.d,.d] (.b v)) none false,.N] [] [] [0,1,5,26] [] rfl rfl rfl ⟨⟨⟨tt_,(QJ t)⟩,(QJ m)⟩,(Qnn _ _ p)⟩ rfl (by kernel_rfl) rfl rfl rfl ?_
   refine tg_ hC [.n 1] rfl ?_
   refine bg_ h (fun f h=>Qa hC [.T,.n 8,.K [4] []] rfl ⟨tt_,f⟩ ?_) fun f h=>Qa hC [.F,.n 8,.K [0,1,5] []] rfl ⟨tt_,f⟩ ?_
   ·cases h
    exact Qal rfl (an_ rfl rfl)
   cases h
   exact QZ rfl rfl
  refine Qa hC [.F,.n 2,.K [] []] rfl ⟨tt_,i⟩ ?_
  cases h
  exact Q1 rfl (an_ rfl rfl)
 rcases s with(_ | _)
 ·replace h:Qq7=some r:=h
  rintro e σ ⟨rfl,rfl⟩
  refine tg_ hC [.n 2] rfl ?_
  cases h
  exact d1_ rfl rfl tt_
 replace h:Qq8=some r:=h
 rintro e σ ⟨rfl,rfl⟩
 refine tg_ hC [.n 8] rfl ?_
 cases h
 exact d1_ rfl rfl tt_
def Qra (a:Int)(b:(List Int)):Option Bool:=
 (idx b a).bind fun c=>
 some (c != 0)
theorem Quv (a c){r}(h:Qra a c=some r):Qd prog 46 [.I a,.loc 615 0 0] [(615,.var (Qj c))] (Gives (.b r) [(615,.var (Qj c))]):=by
 refine Qd.walk 9 func46 rfl rfl rfl fun C hC=>?_
 obtain⟨e,d,h⟩:=Qc h
 refine Qa hC [.n 9,.o (.row (Qb e)),.n 6] rfl ⟨tt_,(QJ d)⟩ ?_
 cases h
 exact d1_ rfl rfl ⟨rfl,tt_⟩
def Qgx (c:(List Int))(d:(List Int))(a:Int):Option (Int⊕(Int⊕Unit)):=
 bif (decide (a<(c.length:Int)))then
 (idx c a).bind fun e=>
 (Qra e d).bind fun b=>
 bif b then
 some (.inr (.inl a))
 else
 some (.inl (w64 (a+1)))
 else
 some (.inr (.inr ()))
def Qgy (a:Int):Option Int:=
 some a
def Qgz : Option Int:=
 some (-1)
def QhP (a:(List Int))(b:(List Int)):Option Int:=
 (QE (fun st=>Qgx a b st) 0).bind (Sum.elim (fun q=>Qgy q) (fun q=>Qgz))
theorem QmQ (g c){r}(h:QhP g c=some r):Qd prog 80 [.sl 1 (g.map Qb),.clo (.func 46) [] [.loc 615 0 0]] [(615,.var (Qj c))] (Gives (.I r) [(615,.var (Qj c))]):=by
 refine Qd.walk 19 func80 rfl rfl rfl fun C hC=>?_
 refine Qa hC [.n 9,.o (.ln g.length),.n 4,.K [0,1,7,8] [615]] rfl ⟨tt_,Qg⟩ ?_
 obtain⟨k,i,h⟩:=Qc h
 refine AK.loop (body:=(fun st=>Qgx g c st)) (fun st σ=>σ=⟨[(0,.sl 1 (g.map Qb)),(1,.clo (.func 46) [] [.loc 615 0 0]),(7,.I (g.length:Int)),(8,.I st)],[(615,.var (Qj c))]⟩) (Sum.elim (fun q e σ=>e=.ret∧σ=⟨[(4,.I q)],[(615,.var (Qj c))]⟩) (fun q e σ=>e=.exit 0∧σ=⟨[],[(615,.var (Qj c))]⟩)) i rfl ?_ ?_
 ·rintro t o σ rfl h
  refine tg_ hC [.n 6] rfl ?_
  rcases Qt h with⟨f,h⟩|⟨f,h⟩
  ·obtain⟨p,l,h⟩:=Qc h
   obtain⟨m,j,h⟩:=Qc h
   refine Qa hC [.T,.n 15,.o (.row (Qb p)),.n 1,.cm (.clo) [(615,615)] [(615,615)] [] [.d,.d] [(615,.var (Qj c))] (.b m),.n 2] rfl ⟨⟨⟨tt_,f⟩,(QJ l)⟩,(Quv _ _ j)⟩ ?_
   refine bg_ h (fun a h=>Qa hC [.T,.n 9,.K [4] [615]] rfl ⟨tt_,a⟩ ?_) fun a h=>Qa hC [.F,.n 7,.K [0,1,7,8] [615]] rfl ⟨tt_,a⟩ ?_
   ·cases h
    exact Qal rfl (an_ rfl rfl)
   cases h
   exact QZ rfl rfl
  refine Qa hC [.F,.n 2,.K [] [615]] rfl ⟨tt_,f⟩ ?_
  cases h
  exact Q1 rfl (an_ rfl rfl)
 rcases k with(s | _)
 ·replace h:Qgy s=some r:=h
  rintro e σ ⟨rfl,rfl⟩
  refine tg_ hC [.n 2] rfl ?_
  cases h
  exact d1_ rfl rfl ⟨rfl,tt_⟩
 replace h:Qgz=some r:=h
 rintro e σ ⟨rfl,rfl⟩
 refine tg_ hC [.n 8] rfl ?_
 cases h
 exact d1_ rfl rfl ⟨rfl,tt_⟩
def QgA (a:(List Int))(b:(List Int)):Option Bool:=
 (QhP a b).bind fun c=>
 some (decide (0≤c))
theorem Qlg (e a){r}(h:QgA e a=some r):Qd prog 47 [.sl 1 (e.map Qb),.clo (.func 46) [] [.loc 615 0 0]] [(615,.var (Qj a))] (Gives (.b r) [(615,.var (Qj a))]):=by
 refine Qd.walk 9 func47 rfl rfl rfl fun C hC=>?_
 obtain⟨f,c,h⟩:=Qc h
 refine Qa hC [.n 9,.cm (.fn) [(615,615)] [(615,615)] [] [.d,.d] [(615,.var (Qj a))] (.I f),.n 5] rfl ⟨tt_,(QmQ _ _ c)⟩ ?_
 cases h
 exact d1_ rfl rfl ⟨rfl,tt_⟩
def Qrb (b:(List Int))(c:(List Int)):Option Bool:=
 (Ql4 c b).bind fun a=>
 some ((a.1 != 0)||(a.2 != 0))
theorem Quw (i f){r}(h:Qrb i f=some r):Qd prog 45 [.sl 1 (i.map Qb),.loc 615 0 0] [(615,.var (Qj f))] (Gives (.b r) [(615,.var (Qj f))]):=by
 refine Qd.walk 18 func45 rfl rfl rfl fun C hC=>?_
 obtain⟨e,g,h⟩:=Qc h
 refine Qa hC [.n 9,.o (.c false [.d,.d] (.tup [.I e.1,.I e.2])),.n 8] rfl ⟨tt_,(Qsf _ _ g)⟩ ?_
 refine AK.meetX (fun σ=>σ=⟨[(3,.b ((e.1 != 0)||(e.2 != 0)))],[(615,.var (Qj f))]⟩) ?_ ?_
 ·refine tg_ hC [.n 4] rfl ?_
  rcases Q0 (e.1 != 0)with a | a
  ·refine Qa hC [.S 14 (.b true),.n 5,.S 3 (.b ((e.1 != 0)||(e.2 != 0))),.K [3] [615]] rfl ⟨(tc_ a),(congrArg V.b (orT a rfl))⟩ ?_
   exact AK.met rfl
  refine Qa hC [.S 14 (.b false),.n 5,.S 3 (.b ((e.1 != 0)||(e.2 != 0))),.K [3] [615]] rfl ⟨(tc_ a),(congrArg V.b (orF a rfl))⟩ ?_
  exact AK.met rfl
 rintro σ rfl
 refine tg_ hC [.n 2] rfl ?_
 cases h
 exact d1_ rfl rfl ⟨rfl,tt_⟩
def QgB (c:QLL)(d:(List Int))(a:Int):Option (Int⊕(Int⊕Unit)):=
 bif (decide (a<(c.length:Int)))then
 (idx c a).bind fun e=>
 (Qrb e d).bind fun b=>
 bif b then
 some (.inr (.inl a))
 else
 some (.inl (w64 (a+1)))
 else
 some (.inr (.inr ()))
def QgC (a:Int):Option Int:=
 some a
def QgD : Option Int:=
 some (-1)
def QhQ (a:QLL)(b:(List Int)):Option Int:=
 (QE (fun st=>QgB a b st) 0).bind (Sum.elim (fun q=>QgC q) (fun q=>QgD))
theorem QmR (g c){r}(h:QhQ g c=some r):Qd prog 83 [.sl 1 (g.map Qj),.clo (.func 45) [] [.loc 615 0 0]] [(615,.var (Qj c))] (Gives (.I r) [(615,.var (Qj c))]):=by
 refine Qd.walk 19 func83 rfl rfl rfl fun C hC=>?_
 refine Qa hC [.n 9,.o (.ln g.length),.n 4,.K [0,1,7,8] [615]] rfl ⟨tt_,Qg⟩ ?_
 obtain⟨k,i,h⟩:=Qc h
 refine AK.loop (body:=(fun st=>QgB g c st)) (fun st σ=>σ=⟨[(0,.sl 1 (g.map Qj)),(1,.clo (.func 45) [] [.loc 615 0 0]),(7,.I (g.length:Int)),(8,.I st)],[(615,.var (Qj c))]⟩) (Sum.elim (fun q e σ=>e=.ret∧σ=⟨[(4,.I q)],[(615,.var (Qj c))]⟩) (fun q e σ=>e=.exit 0∧σ=⟨[],[(615,.var (Qj c))]⟩)) i rfl ?_ ?_
 ·rintro t o σ rfl h
  refine tg_ hC [.n 6] rfl ?_
  rcases Qt h with⟨f,h⟩|⟨f,h⟩
  ·obtain⟨p,l,h⟩:=Qc h
   obtain⟨m,j,h⟩:=Qc h
   refine Qa hC [.T,.n 15,.o (.row (Qj p)),.n 1,.cm (.clo) [(615,615)] [(615,615)] [] [.d,.d] [(615,.var (Qj c))] (.b m),.n 2] rfl ⟨⟨⟨tt_,f⟩,(QJ l)⟩,(Quw _ _ j)⟩ ?_
   refine bg_ h (fun a h=>Qa hC [.T,.n 9,.K [4] [615]] rfl ⟨tt_,a⟩ ?_) fun a h=>Qa hC [.F,.n 7,.K [0,1,7,8] [615]] rfl ⟨tt_,a⟩ ?_
   ·cases h
    exact Qal rfl (an_ rfl rfl)
   cases h
   exact QZ rfl rfl
  refine Qa hC [.F,.n 2,.K [] [615]] rfl ⟨tt_,f⟩ ?_
  cases h
  exact Q1 rfl (an_ rfl rfl)
 rcases k with(s | _)
 ·replace h:QgC s=some r:=h
  rintro e σ ⟨rfl,rfl⟩
  refine tg_ hC [.n 2] rfl ?_
  cases h
  exact d1_ rfl rfl ⟨rfl,tt_⟩
 replace h:QgD=some r:=h
 rintro e σ ⟨rfl,rfl⟩
 refine tg_ hC [.n 8] rfl ?_
 cases h
 exact d1_ rfl rfl ⟨rfl,tt_⟩
def QgE (a:QLL)(b:(List Int)):Option Bool:=
 (QhQ a b).bind fun c=>
 some (decide (0≤c))
theorem Qlh (e a){r}(h:QgE e a=some r):Qd prog 48 [.sl 1 (e.map Qj),.clo (.func 45) [] [.loc 615 0 0]] [(615,.var (Qj a))] (Gives (.b r) [(615,.var (Qj a))]):=by
 refine Qd.walk 9 func48 rfl rfl rfl fun C hC=>?_
 obtain⟨f,c,h⟩:=Qc h
 refine Qa hC [.n 9,.cm (.fn) [(615,615)] [(615,615)] [] [.d,.d] [(615,.var (Qj a))] (.I f),.n 5] rfl ⟨tt_,(QmR _ _ c)⟩ ?_
 cases h
 exact d1_ rfl rfl ⟨rfl,tt_⟩
def Qwg (c:Qk)(d:(List Int)):Option Bool:=
 (QaD c).bind fun e=>
 (QgA e d).bind fun f=>
 bif (!f)then
 (Qbc c).bind fun a=>
 (QgE a d).bind fun b=>
 some (!b)
 else
 some false
def QmS (a:Bool):Option Bool:=
 some a
def Qmu (a:Qk)(b:(List Int)):Option Bool:=
 bif ((b.length:Int) != (a.Places.length:Int))then
 some false
 else
 (Qwg a b).bind (fun c=>QmS c)
theorem QmT (f g){r}(h:Qmu f g=some r):Qd prog 20 [.agg (Qe f),.sl 1 (g.map Qb)] [] (Gives (.b r) []):=by
 refine Qd.walk 27 func20 rfl rfl rfl fun C hC=>?_
 refine Qa hC [.n 11,.o (.ln g.length),.n 2,.o (.ln f.Places.length),.n 3] rfl ⟨⟨tt_,Qg⟩,Qg⟩ ?_
 refine bg_ h (fun c h=>Qa hC [.T,.n 7,.K [4] []] rfl ⟨tt_,c⟩ ?_) fun c h=>Qa hC [.F,.n 15] rfl ⟨tt_,c⟩ ?_
 ·cases h
  exact d1_ rfl rfl tt_
 obtain⟨k,l,h⟩:=Qc h
 replace h:QmS k=some r:=h
 refine AK.meetX (fun σ=>σ=⟨[(4,.b k)],[]⟩) ?_ ?_
 ·replace h:=l
  obtain⟨m,p,h⟩:=Qc h
  obtain⟨t,q,h⟩:=Qc h
  refine Qa hC [.n 1,.v .no [] (.agg (Qe f)),.o (.co false [.d] 1 (m.map Qb) m.length),.n 1,.frz 16 (m.map Qb) [16] [],.cm (.fn) [(615,3)] [(3,615)] [] [.d,.d] [(615,.var (Qj g))] (.b t),.n 2] rfl ⟨⟨⟨⟨tt_,rfl⟩,⟨(QkF _ p),Qg,.inl rfl⟩⟩,⟨tt_,(Qci Qg)⟩⟩,(Qlg _ _ q)⟩ ?_
  rcases Qt h with⟨a,h⟩|⟨a,h⟩
  ·obtain⟨e,i,h⟩:=Qc h
   obtain⟨s,j,h⟩:=Qc h
   refine Qa hC [.S 20 (.b true),.v .no [] (.agg (Qe f)),.o (.co false [.d] 1 (e.map Qj) e.length),.n 1,.frz 22 (e.map Qj) [22] [],.cm (.fn) [(615,3)] [(3,615)] [] [.d,.d] [(615,.var (Qj g))] (.b s),.n 4,.K [4] []] rfl ⟨⟨⟨⟨(tc_ a),rfl⟩,⟨(QkB _ i),Qg,.inl rfl⟩⟩,⟨tt_,(Qci Qg)⟩⟩,(Qlh _ _ j)⟩ ?_
   cases h
   exact AK.met rfl
  refine Qa hC [.S 20 (.b false),.n 8,.K [4] []] rfl (tc_ a) ?_
  cases h
  exact AK.met rfl
 rintro σ rfl
 replace h:QmS k=some r:=h
 refine tg_ hC [.n 2] rfl ?_
 cases h
 exact d1_ rfl rfl tt_
def Qev (c:(List Int))(d:Int)(a:Int):Option ((Int×Int)⊕Int):=
 bif (decide (a<(c.length:Int)))then
 (idx c a).bind fun b=>
 some (.inl ((min2 d b),(w64 (a+1))))
 else
 some (.inr d)
def QlL (a:Int):Option Int:=
 some a
def QfQ (a:(List Int)):Option Int:=
 bif (decide ((a.length:Int)<1))then
 none
 else
 (idx a 0).bind fun b=>
 (QE (fun st=>Qev a st.1 st.2) (b,1)).bind (fun q=>QlL q)
theorem QqG (c){r}(h:QfQ c=some r):Qd prog 50 [.sl 1 (c.map Qb)] [] (Gives (.I r) []):=by
 refine Qd.walk 25 func50 rfl rfl rfl fun C hC=>?_
 refine Qa hC [.n 9,.o (.ln c.length),.n 3] rfl ⟨tt_,Qg⟩ ?_
 rcases Qt h with⟨b,h⟩|⟨b,h⟩
 ·refine Qa hC [.T,.n 2] rfl ⟨tt_,b⟩ ?_
  cases h
 obtain⟨j,g,h⟩:=Qc h
 refine Qa hC [.F,.n 5,.o (.row (Qb j)),.n 11,.K [0,3,4] []] rfl ⟨⟨tt_,b⟩,(QJ g)⟩ ?_
 obtain⟨k,d,h⟩:=Qc h
 refine AK.loop (body:=(fun st=>Qev c st.1 st.2)) (fun st σ=>σ=⟨[(0,.sl 1 (c.map Qb)),(3,.I st.1),(4,.I st.2)],[]⟩) (fun q e σ=>e=.exit 0∧σ=⟨[(3,.I q)],[]⟩) d rfl ?_ ?_
 ·rintro ⟨l,m⟩ o σ rfl h
  refine Qa hC [.n 5,.o (.ln c.length),.n 3] rfl ⟨tt_,Qg⟩ ?_
  rcases Qt h with⟨a,h⟩|⟨a,h⟩
  ·obtain⟨i,f,h⟩:=Qc h
   refine Qa hC [.T,.n 8,.o (.row (Qb i)),.n 11,.K [0,3,4] []] rfl ⟨⟨tt_,a⟩,(QJ f)⟩ ?_
   cases h
   exact QZ rfl rfl
  refine Qa hC [.F,.n 2,.K [3] []] rfl ⟨tt_,a⟩ ?_
  cases h
  exact Q1 rfl (an_ rfl rfl)
 replace h:QlL k=some r:=h
 rintro e σ ⟨rfl,rfl⟩
 refine tg_ hC [.n 9] rfl ?_
 cases h
 exact d1_ rfl rfl tt_
def Qno (b:Int)(a:(List Int)):Option Bool:=
 bif (decide (b<(a.length:Int)))then
 (idx a b).bind fun c=>
 bif (decide (0<c))then
 (QfQ a).bind fun d=>
 some (decide (0≤d))
 else
 some false
 else
 some false
def QiL (a:Bool):Option Bool:=
 some a
def QhX (a:(List Int))(b:Int):Option Bool:=
 (Qno b a).bind (fun c=>QiL c)
theorem Qta (g f){r}(h:QhX g f=some r):Qd prog 49 [.sl 1 (g.map Qb),.loc 615 0 0] [(615,.var (Qb f))] (Gives (.b r) [(615,.var (Qb f))]):=by
 refine Qd.walk 20 func49 rfl rfl rfl fun C hC=>?_
 refine tg_ hC [.n 6] rfl ?_
 obtain⟨i,j,h⟩:=Qc h
 replace h:QiL i=some r:=h
 refine AK.meetX (fun σ=>σ=⟨[(3,.b i)],[(615,.var (Qb f))]⟩) ?_ ?_
 ·replace h:=j
  refine Qa hC [.n 3,.o (.ln g.length),.n 2] rfl ⟨tt_,Qg⟩ ?_
  rcases Qt h with⟨a,h⟩|⟨a,h⟩
  ·obtain⟨m,k,h⟩:=Qc h
   refine Qa hC [.S 8 (.b true),.n 2,.o (.row (Qb m)),.n 4] rfl ⟨(tc_ a),(QJ k)⟩ ?_
   rcases Qt h with⟨e,h⟩|⟨e,h⟩
   ·obtain⟨p,l,h⟩:=Qc h
    refine Qa hC [.S 15 (.b true),.n 1,.o (.c false [.d] (.I p)),.n 4,.K [3] [615]] rfl ⟨(tc_ e),(QqG _ l)⟩ ?_
    cases h
    exact AK.met rfl
   refine Qa hC [.S 15 (.b false),.n 6,.K [3] [615]] rfl (tc_ e) ?_
   cases h
   exact AK.met rfl
  refine Qa hC [.S 8 (.b false),.n 13,.K [3] [615]] rfl (tc_ a) ?_
  cases h
  exact AK.met rfl
 rintro σ rfl
 replace h:QiL i=some r:=h
 refine tg_ hC [.n 2] rfl ?_
 cases h
 exact d1_ rfl rfl ⟨rfl,tt_⟩
def QaI (c:QLL)(d:Int)(a:Int):Option (Int⊕(Int⊕Unit)):=
 bif (decide (a<(c.length:Int)))then
 (idx c a).bind fun e=>
 (QhX e d).bind fun b=>
 bif b then
 some (.inr (.inl a))
 else
 some (.inl (w64 (a+1)))
 else
 some (.inr (.inr ()))
def QgF (a:Int):Option Int:=
 some a
def QgG : Option Int:=
 some (-1)
def Qeq (a:QLL)(b:Int):Option Int:=
 (QE (fun st=>QaI a b st) 0).bind (Sum.elim (fun q=>QgF q) (fun q=>QgG))
theorem QmU (g c){r}(h:Qeq g c=some r):Qd prog 83 [.sl 1 (g.map Qj),.clo (.func 49) [] [.loc 615 0 0]] [(615,.var (Qb c))] (Gives (.I r) [(615,.var (Qb c))]):=by
 refine Qd.walk 19 func83 rfl rfl rfl fun C hC=>?_
 refine Qa hC [.n 9,.o (.ln g.length),.n 4,.K [0,1,7,8] [615]] rfl ⟨tt_,Qg⟩ ?_
 obtain⟨k,i,h⟩:=Qc h
 refine AK.loop (body:=(fun st=>QaI g c st)) (fun st σ=>σ=⟨[(0,.sl 1 (g.map Qj)),(1,.clo (.func 49) [] [.loc 615 0 0]),(7,.I (g.length:Int)),(8,.I st)],[(615,.var (Qb c))]⟩) (Sum.elim (fun q e σ=>e=.ret∧σ=⟨[(4,.I q)],[(615,.var (Qb c))]⟩) (fun q e σ=>e=.exit 0∧σ=⟨[],[(615,.var (Qb c))]⟩)) i rfl ?_ ?_
 ·rintro t o σ rfl h
  refine tg_ hC [.n 6] rfl ?_
  rcases Qt h with⟨f,h⟩|⟨f,h⟩
  ·obtain⟨p,l,h⟩:=Qc h
   obtain⟨m,j,h⟩:=Qc h
   refine Qa hC [.T,.n 15,.o (.row (Qj p)),.n 1,.cm (.clo) [(615,615)] [(615,615)] [] [.d,.d] [(615,.var (Qb c))] (.b m),.n 2] rfl ⟨⟨⟨tt_,f⟩,(QJ l)⟩,(Qta _ _ j)⟩ ?_
   refine bg_ h (fun a h=>Qa hC [.T,.n 9,.K [4] [615]] rfl ⟨tt_,a⟩ ?_) fun a h=>Qa hC [.F,.n 7,.K [0,1,7,8] [615]] rfl ⟨tt_,a⟩ ?_
   ·cases h
    exact Qal rfl (an_ rfl rfl)
   cases h
   exact QZ rfl rfl
  refine Qa hC [.F,.n 2,.K [] [615]] rfl ⟨tt_,f⟩ ?_
  cases h
  exact Q1 rfl (an_ rfl rfl)
 rcases k with(s | _)
 ·replace h:QgF s=some r:=h
  rintro e σ ⟨rfl,rfl⟩
  refine tg_ hC [.n 2] rfl ?_
  cases h
  exact d1_ rfl rfl ⟨rfl,tt_⟩
 replace h:QgG=some r:=h
 rintro e σ ⟨rfl,rfl⟩
 refine tg_ hC [.n 8] rfl ?_
 cases h
 exact d1_ rfl rfl ⟨rfl,tt_⟩
def Qcc (a:QLL)(b:Int):Option Bool:=
 (Qeq a b).bind fun c=>
 some (decide (0≤c))
theorem Qli (e a){r}(h:Qcc e a=some r):Qd prog 48 [.sl 1 (e.map Qj),.clo (.func 49) [] [.loc 615 0 0]] [(615,.var (Qb a))] (Gives (.b r) [(615,.var (Qb a))]):=by
 refine Qd.walk 9 func48 rfl rfl rfl fun C hC=>?_
 obtain⟨f,c,h⟩:=Qc h
 refine Qa hC [.n 9,.cm (.fn) [(615,615)] [(615,615)] [] [.d,.d] [(615,.var (Qb a))] (.I f),.n 5] rfl ⟨tt_,(QmU _ _ c)⟩ ?_
 cases h
 exact d1_ rfl rfl ⟨rfl,tt_⟩
def Qhl (b:Int)(a:(List Int)):Option ((Int×(List Int))⊕(List Int)):=
 some (.inl ((w64 (b+1)),a))
def Qhm (a:Int)(e:QLL)(b:Int)(c:(List Int)):Option ((Int×(List Int))⊕(List Int)):=
 bif (decide (b<(max2 0 (min2 a 1000))))then
 (Qcc e b).bind fun d=>
 bif d then
 (chk (decide (c.length+([b]:List Int).length≤4294967296))).bind fun _=>
 Qhl b (c++([b]:List Int))
 else
 Qhl b c
 else
 some (.inr c)
def QoE (a:(List Int)):Option (List Int):=
 some a
def Qhn (b:QLL)(a:Int):Option (List Int):=
 (QE (fun st=>Qhm a b st.1 st.2) (0,([]:List Int))).bind (fun q=>QoE q)
theorem QoF (j a){r}(h:Qhn j a=some r):Qd prog 22 [.sl 1 (j.map Qj),.I a] [] (Gives (.own 600 r.length) [(600,.arr 1 (r.map Qb))]):=by
 refine Qd.walk 24 func22 rfl rfl rfl fun C hC=>?_
 refine Qa hC [.n 20,.adopt 5 18 1,.O 18 (.arr 1 (([]:List Int).map Qb)),.S 5 (.own 18 ([]:List Int).length),.K [0,5,10,11] [18]] rfl ⟨⟨tt_,rfl⟩,(congrArg (fun n=>V.own 18 n) (by simp))⟩ ?_
 obtain⟨t,k,h⟩:=Qc h
 refine AK.loop (body:=(fun st=>Qhm a j st.1 st.2)) (fun st σ=>σ=⟨[(0,.sl 1 (j.map Qj)),(5,.own 18 st.2.length),(10,.I (max2 0 (min2 a 1000))),(11,.I st.1)],[(18,.arr 1 (st.2.map Qb))]⟩) (fun q e σ=>e=.exit 0∧σ=⟨[(5,.own 18 q.length)],[(18,.arr 1 (q.map Qb))]⟩) k rfl ?_ ?_
 ·rintro ⟨i,s⟩ o σ rfl h
  refine tg_ hC [.n 6] rfl ?_
  refine bg_ h (fun c h=>Qa hC [.T,.n 2] rfl ⟨tt_,c⟩ ?_) fun c h=>Qa hC [.F,.n 2,.K [5] [18]] rfl ⟨tt_,c⟩ ?_
  ·refine AK.meet (fun σ=>∃g:(List Int),σ=⟨[(0,.sl 1 (j.map Qj)),(5,.own 18 g.length),(10,.I (max2 0 (min2 a 1000))),(11,.I i)],[(18,.arr 1 (g.map Qb))]⟩∧Qhl i g=some o) ?_ ?_
   ·obtain⟨p,l,h⟩:=Qc h
    refine Qa hC [.n 6,.O 6 (.var (Qb i)),.n 12,.cm (.fn) [(615,6)] [(6,615)] [] [.d,.d] [(615,.var (Qb i))] (.b p),.n 2] rfl ⟨⟨tt_,rfl⟩,(Qli _ _ l)⟩ ?_
    rcases Qt h with⟨f,h⟩|⟨f,h⟩
    ·obtain⟨m,h⟩:=QaE h
     refine Qa hC [.T,.n 3,.v (.bd []) [] (.sl 1 (([i]:List Int).map Qb)),.app ((s++([i]:List Int)).map Qb) (s++([i]:List Int)).length,.n 3,.K [0,5,10,11] [18]] rfl ⟨⟨⟨tt_,f⟩,rfl⟩,⟨Qg,Qgj m Qg,Qc1,QfN Qg⟩⟩ ?_
     exact AK.met (ex_ _ (an_ rfl h))
    refine Qa hC [.F,.n 2,.K [0,5,10,11] [18]] rfl ⟨tt_,f⟩ ?_
    exact AK.met (ex_ _ (an_ rfl h))
   rintro σ ⟨g,rfl,h⟩
   refine tg_ hC [.n 4,.K [0,5,10,11] [18]] rfl ?_
   cases h
   exact QZ rfl rfl
  cases h
  exact Q1 rfl (an_ rfl rfl)
 replace h:QoE t=some r:=h
 rintro e σ ⟨rfl,rfl⟩
 refine tg_ hC [.n 9,.K [4] [18],.ren 18 600] rfl ?_
 cases h
 exact d1_ rfl rfl ⟨rfl,tt_⟩
def Qwh (b:(QLL×Int))(a:Qk)(l:(Int×Int)):Option Bool:=
 bif (b.2==0)then
 (Qp7 b.1 ([([1,1,0]:List Int)]:List (List Int))).bind fun m=>
 bif m then
 (Qmu a ([2,2,0]:List Int)).bind fun c=>
 bif c then
 (Qmu a ([1,1,1]:List Int)).bind fun d=>
 bif (!d)then
 (Qmu a ([1,2,0]:List Int)).bind fun e=>
 bif (!e)then
 bif (l.1==13)then
 bif (l.2==0)then
 (Qbc a).bind fun f=>
 (Qp7 f ([([(-1),1,0]:List Int),([1,(-1),0]:List Int)]:List (List Int))).bind fun g=>
 bif g then
 (QaD a).bind fun h=>
 (Qnm h ([2]:List Int)).bind fun i=>
 bif i then
 (Qhn b.1 3).bind fun j=>
 (Qnm j ([0,1]:List Int)).bind fun k=>
 some k
 else
 some false
 else
 some false
 else
 some false
 else
 some false
 else
 some false
 else
 some false
 else
 some false
 else
 some false
 else
 some false
def QmV (a:Bool):Option Bool:=
 some a
def Qmv  : Option Bool:=
 (Qoq).bind fun a=>
 (QfB a).bind fun b=>
 (Qjg ([2,3,9]:List Int) ([([(0,5)]:List (Int×Int)),([(0,1)]:List (Int×Int)),([]:QBg)]:List QBg)).bind fun c=>
 (Qwh b a c).bind (fun d=>QmV d)
theorem Qwi  {r:Bool}(h:Qmv  = some r):Qd prog 9 [] [] (Gives (.b r) []):=by
 refine Qd.walk 75 func9 rfl rfl rfl fun C hC=>?_
 obtain⟨l,F,h⟩:=Qc h
 obtain⟨Y,G,h⟩:=Qc h
 obtain⟨Z,H,h⟩:=Qc h
 refine Qa hC [.n 7,.o (.c false [] (.agg (Qe l))),.n 2,.O 1 (.var (Qe l)),.n 4,.v .no [] (.agg (Qe l)),.o (.c false [.d] (.tup [.sl 1 (Y.1.map Qj),.I Y.2])),.n 9,.v (.bd []) [] (.sl 1 (([2,3,9]:List Int).map Qb)),.v .no [] (.agg (QK (0,5))),.v (.bd []) [] (.sl 2 (([(0,5)]:List (Int×Int)).map QK)),.v .no [] (.agg (QK (0,1))),.v (.bd []) [] (.sl 2 (([(0,1)]:List (Int×Int)).map QK)),.v (.bd [none,none,some 2]) [] (.sl 1 (([([(0,5)]:List (Int×Int)),([(0,1)]:List (Int×Int)),([]:QBg)]:List QBg).map Qm)),.o (.c false [.d,.d] (.tup [.I Z.1,.I Z.2])),.n 8] rfl ⟨⟨⟨⟨⟨⟨⟨⟨⟨⟨⟨tt_,(Qx7  F)⟩,rfl⟩,rfl⟩,(Qp3 _ G)⟩,rfl⟩,rfl⟩,rfl⟩,rfl⟩,rfl⟩,rfl⟩,(Qp6 _ _ H)⟩ ?_
 obtain⟨J,L,h⟩:=Qc h
 replace h:QmV J=some r:=h
 refine AK.meetX (fun σ=>σ=⟨[(0,.b J)],[]⟩) ?_ ?_
 ·replace h:=L
  refine tg_ hC [.n 4] rfl ?_
  rcases Qt h with⟨m,h⟩|⟨m,h⟩
  ·obtain⟨x8,M,h⟩:=Qc h
   refine Qa hC [.S 24 (.b true),.n 1,.v (.bd []) [] (.sl 1 (([1,1,0]:List Int).map Qb)),.v (.bd []) [] (.sl 1 (([([1,1,0]:List Int)]:List (List Int)).map Qj)),.o (.c false [.d,.d] (.b x8)),.n 2] rfl ⟨⟨⟨(tc_ m),rfl⟩,rfl⟩,(Qq9 _ _ M)⟩ ?_
   rcases Qt h with⟨p,h⟩|⟨p,h⟩
   ·obtain⟨N,u,h⟩:=Qc h
    refine Qa hC [.S 30 (.b true),.v .no [] (.agg (Qe l)),.v (.bd []) [] (.sl 1 (([2,2,0]:List Int).map Qb)),.o (.c false [.d,.d] (.b N)),.n 2] rfl ⟨⟨⟨(tc_ p),rfl⟩,rfl⟩,(QmT _ _ u)⟩ ?_
    rcases Qt h with⟨a,h⟩|⟨a,h⟩
    ·obtain⟨P,w,h⟩:=Qc h
     refine Qa hC [.S 35 (.b true),.v .no [] (.agg (Qe l)),.v (.bd []) [] (.sl 1 (([1,1,1]:List Int).map Qb)),.o (.c false [.d,.d] (.b P)),.n 3] rfl ⟨⟨⟨(tc_ a),rfl⟩,rfl⟩,(QmT _ _ w)⟩ ?_
     rcases Qt h with⟨e,h⟩|⟨e,h⟩
     ·obtain⟨T,x,h⟩:=Qc h
      refine Qa hC [.S 41 (.b true),.v .no [] (.agg (Qe l)),.v (.bd []) [] (.sl 1 (([1,2,0]:List Int).map Qb)),.o (.c false [.d,.d] (.b T)),.n 3] rfl ⟨⟨⟨(tc_ e),rfl⟩,rfl⟩,(QmT _ _ x)⟩ ?_
      refine bg_ h (fun f h=>Qa hC [.S 47 (.b true),.n 4] rfl (tc_ f) ?_) fun f h=>Qa hC [.S 47 (.b false),.n 29,.K [0] []] rfl (tc_ f) ?_
      ·refine bg_ h (fun g h=>Qa hC [.S 51 (.b true),.n 4] rfl (tc_ g) ?_) fun g h=>Qa hC [.S 51 (.b false),.n 25,.K [0] []] rfl (tc_ g) ?_
       ·rcases Qt h with⟨i,h⟩|⟨i,h⟩
        ·obtain⟨q,y,h⟩:=Qc h
         obtain⟨U,z,h⟩:=Qc h
         refine Qa hC [.S 55 (.b true),.v .no [] (.agg (Qe l)),.o (.co false [.d] 1 (q.map Qj) q.length),.v (.bd []) [] (.sl 1 (([(-1),1,0]:List Int).map Qb)),.v (.bd []) [] (.sl 1 (([1,(-1),0]:List Int).map Qb)),.v (.bd []) [] (.sl 1 (([([(-1),1,0]:List Int),([1,(-1),0]:List Int)]:List (List Int)).map Qj)),.o (.c true [.o (q.map Qj),.d] (.b U)),.n 2] rfl ⟨⟨⟨⟨⟨⟨(tc_ i),rfl⟩,⟨(QkB _ y),Qg,.inl rfl⟩⟩,rfl⟩,rfl⟩,rfl⟩,⟨(Qm2 rfl),(Qq9 _ _ z)⟩⟩ ?_
         rcases Qt h with⟨j,h⟩|⟨j,h⟩
         ·obtain⟨s,A,h⟩:=Qc h
          obtain⟨W,B,h⟩:=Qc h
          refine Qa hC [.S 63 (.b true),.v .no [] (.agg (Qe l)),.o (.co false [.d] 1 (s.map Qb) s.length),.v (.bd []) [] (.sl 1 (([2]:List Int).map Qb)),.o (.c true [.o (s.map Qb),.d] (.b W)),.n 2] rfl ⟨⟨⟨⟨(tc_ j),rfl⟩,⟨(QkF _ A),Qg,.inl rfl⟩⟩,rfl⟩,⟨(Qm2 rfl),(Qnn _ _ B)⟩⟩ ?_
          rcases Qt h with⟨k,h⟩|⟨k,h⟩
          ·obtain⟨t,D,h⟩:=Qc h
           obtain⟨X,E,h⟩:=Qc h
           refine Qa hC [.S 69 (.b true),.n 1,.o (.co false [.d,.d] 1 (t.map Qb) t.length),.v (.bd []) [] (.sl 1 (([0,1]:List Int).map Qb)),.o (.c true [.o (t.map Qb),.d] (.b X)),.n 3,.K [0] []] rfl ⟨⟨⟨(tc_ k),⟨(QoF _ _ D),Qg,.inl rfl⟩⟩,rfl⟩,⟨(Qm2 rfl),(Qnn _ _ E)⟩⟩ ?_
           cases h
           exact AK.met rfl
          refine Qa hC [.S 69 (.b false),.n 7,.K [0] []] rfl (tc_ k) ?_
          cases h
          exact AK.met rfl
         refine Qa hC [.S 63 (.b false),.n 13,.K [0] []] rfl (tc_ j) ?_
         cases h
         exact AK.met rfl
        refine Qa hC [.S 55 (.b false),.n 21,.K [0] []] rfl (tc_ i) ?_
        cases h
        exact AK.met rfl
       cases h
       exact AK.met rfl
      cases h
      exact AK.met rfl
     refine Qa hC [.S 41 (.b false),.n 35,.K [0] []] rfl (tc_ e) ?_
     cases h
     exact AK.met rfl
    refine Qa hC [.S 35 (.b false),.n 41,.K [0] []] rfl (tc_ a) ?_
    cases h
    exact AK.met rfl
   refine Qa hC [.S 30 (.b false),.n 46,.K [0] []] rfl (tc_ p) ?_
   cases h
   exact AK.met rfl
  refine Qa hC [.S 24 (.b false),.n 52,.K [0] []] rfl (tc_ m) ?_
  cases h
  exact AK.met rfl
 rintro σ rfl
 replace h:QmV J=some r:=h
 refine tg_ hC [.n 2] rfl ?_
 cases h
 exact d1_ rfl rfl tt_
def Qlj (f:Ql)(rec_law04_few:Ql→Int→Option Int)(a:Int)(c:Int)(d:Int):Option ((Int×Int)⊕(Unit⊕Int)):=
 bif (decide (d<(f.Kids.length:Int)))then
 (idx f.Kids d).bind fun e=>
 (rec_law04_few e (w64 (a-1))).bind fun b=>
 bif (b==0)then
 some (.inr (.inl ()))
 else
 bif (decide ((w64 ((w64 (c-500))+b))≤1))then
 some (.inr (.inl ()))
 else
 some (.inl ((w64 ((w64 (c-500))+b)),(w64 (d+1))))
 else
 some (.inr (.inr c))
def Qsg : Option Int:=
 some 0
def Qsh (a:Int):Option Int:=
 some (w64 (a-1))
def QoP (rec_law04_few:Ql→Int→Option Int)(b:Ql)(a:Int):Option Int:=
 bif ((decide (a≤0))||(decide (9<(b.Kids.length:Int))))then
 some 0
 else
 (QE (fun st=>Qlj b rec_law04_few a st.1 st.2) (500,0)).bind (Sum.elim (fun q=>Qsg) (fun q=>Qsh q))
def QfC : Nat→Ql→Int→Option Int
 | 0,_,_=>none
 | n+1,b,a=>QoP (QfC n) b a
def QrO (b:Ql)(a:Int):Option Int:=QfC (SizeOf.sizeOf b) b a
theorem Qwj (rec_law04_few:Ql→Int→Option Int)(hrec_law04_few:∀(f:Ql) (a:Int) {r:Int},rec_law04_few f a=some r→Qd prog 102 [.agg (Qp f),.I a] [] (Gives (.I r) []))(f:Ql)(a:Int){r:Int}(h:QoP rec_law04_few f a=some r):Qd prog 102 [.agg (Qp f),.I a] [] (Gives (.I r) []):=by
 refine Qd.walk 41 func102 rfl rfl rfl fun C hC=>?_
 refine tg_ hC [.n 8] rfl ?_
 refine AK.meetX (fun σ=>σ=⟨[(1,.I a),(2,.loc 2 0 0),(15,.b ((decide (a≤0))||(decide (9<(f.Kids.length:Int)))))],[(2,.var (Qp f))]⟩) ?_ ?_
 ·refine tg_ hC [.n 4] rfl ?_
  rcases Q0 (decide (a≤0))with g | g
  ·refine Qa hC [.S 10 (.b true),.n 6,.S 15 (.b ((decide (a≤0))||(decide (9<(f.Kids.length:Int))))),.K [1,2,15] [2]] rfl ⟨(tc_ g),(congrArg V.b (orT g rfl))⟩ ?_
   exact AK.met rfl
  refine Qa hC [.S 10 (.b false),.n 2,.o (.ln f.Kids.length),.n 3,.S 15 (.b ((decide (a≤0))||(decide (9<(f.Kids.length:Int))))),.K [1,2,15] [2]] rfl ⟨⟨(tc_ g),Qk8 _⟩,(congrArg V.b (orF g rfl))⟩ ?_
  exact AK.met rfl
 rintro σ rfl
 refine tg_ hC [.n 1] rfl ?_
 refine bg_ h (fun l h=>Qa hC [.T,.n 7,.K [4] []] rfl ⟨tt_,l⟩ ?_) fun l h=>Qa hC [.F,.n 14,.K [1,2,5,6] [2]] rfl ⟨tt_,l⟩ ?_
 ·cases h
  exact d1_ rfl rfl tt_
 obtain⟨u,m,h⟩:=Qc h
 refine AK.loop (body:=(fun st=>Qlj f rec_law04_few a st.1 st.2)) (fun st σ=>σ=⟨[(1,.I a),(2,.loc 2 0 0),(5,.I st.1),(6,.I st.2)],[(2,.var (Qp f))]⟩) (Sum.elim (fun q e σ=>e=.ret∧σ=⟨[(4,.I 0)],[]⟩) (fun q e σ=>e=.exit 0∧σ=⟨[(5,.I q)],[]⟩)) m rfl ?_ ?_
 ·rintro ⟨y,z⟩ o σ rfl h
  refine Qa hC [.n 6,.o (.ln f.Kids.length),.n 3] rfl ⟨tt_,Qk8 _⟩ ?_
  rcases Qt h with⟨i,h⟩|⟨i,h⟩
  ·obtain⟨p,s,h⟩:=Qc h
   obtain⟨w,t,h⟩:=Qc h
   refine Qa hC [.T,.n 9,.o (.row (Qp p)),.v .no [] (.agg (Qp p)),.n 2,.o (.c false [.d,.d] (.I w)),.n 10] rfl ⟨⟨⟨⟨tt_,i⟩,(QeX s)⟩,rfl⟩,(hrec_law04_few _ _ t)⟩ ?_
   refine bg_ h (fun j h=>Qa hC [.T,.n 9,.K [4] []] rfl ⟨tt_,j⟩ ?_) fun j h=>Qa hC [.F,.n 17] rfl ⟨tt_,j⟩ ?_
   ·cases h
    exact Qal rfl (an_ rfl rfl)
   refine bg_ h (fun k h=>Qa hC [.T,.n 8,.K [4] []] rfl ⟨tt_,k⟩ ?_) fun k h=>Qa hC [.F,.n 8,.K [1,2,5,6] [2]] rfl ⟨tt_,k⟩ ?_
   ·cases h
    exact Qal rfl (an_ rfl rfl)
   cases h
   exact QZ rfl rfl
  refine Qa hC [.F,.n 2,.K [5] []] rfl ⟨tt_,i⟩ ?_
  cases h
  exact Q1 rfl (an_ rfl rfl)
 rcases u with(_ | x)
 ·replace h:Qsg=some r:=h
  rintro e σ ⟨rfl,rfl⟩
  refine tg_ hC [.n 2] rfl ?_
  cases h
  exact d1_ rfl rfl tt_
 replace h:Qsh x=some r:=h
 rintro e σ ⟨rfl,rfl⟩
 refine tg_ hC [.n 10] rfl ?_
 cases h
 exact d1_ rfl rfl tt_
theorem Qp8 : ∀(fuel:Nat) (b:Ql) (a:Int) {r:Int},QfC fuel b a=some r→Qd prog 102 [.agg (Qp b),.I a] [] (Gives (.I r) [])
 | 0,_,_,_,h=>by cases h
 | n+1,b,a,_,h=>Qwj (QfC n) (fun _ _ _ h=>Qp8 n _ _ h) b a h
theorem Qx9 (b a){r}(h:QrO b a=some r):Qd prog 102 [.agg (Qp b),.I a] [] (Gives (.I r) []):=Qp8 _ b a h
def Qju (a:Ql):Option Bool:=
 (QrO a 60).bind fun b=>
 some (decide (0<b))
theorem Qn2 (a){r}(h:Qju a=some r):Qd prog 63 [.agg (Qp a)] [] (Gives (.b r) []):=by
 refine Qd.walk 6 func63 rfl rfl rfl fun C hC=>?_
 obtain⟨f,e,h⟩:=Qc h
 refine Qa hC [.n 8,.v .no [] (.agg (Qp a)),.o (.c false [.d,.d] (.I f)),.n 5] rfl ⟨⟨tt_,rfl⟩,(Qx9 _ _ e)⟩ ?_
 cases h
 exact d1_ rfl rfl tt_
def Qsi (d:Qk)(e:Int)(a:Int)(b:QO):Option Bool:=
 (idx d.Colours e).bind fun c=>
 bif (decide (100<(c.Name.size:Int)))then
 some true
 else
 some (decide (400<(w64 (a+(b.Names.length:Int)))))
def Qlk (e:Qk)(f:Int)(a:Int):Option (Int⊕(Unit⊕Unit)):=
 (idx e.Colours f).bind fun b=>
 bif (decide (a<(b.Names.length:Int)))then
 (idx e.Colours f).bind fun c=>
 (idx c.Names a).bind fun d=>
 bif (decide (100<(d.size:Int)))then
 some (.inr (.inl ()))
 else
 some (.inl (w64 (a+1)))
 else
 some (.inr (.inr ()))
def Qsj : Option ((Int×Int)⊕(Unit⊕Int)):=
 some (.inr (.inl ()))
def Qsk (a:Int)(b:QO)(c:Int):Option ((Int×Int)⊕(Unit⊕Int)):=
 some (.inl ((w64 (a+(b.Names.length:Int))),(w64 (c+1))))
def Qll (e:Qk)(d:Int)(a:Int)(b:QO)(c:Bool):Option ((Int×Int)⊕(Unit⊕Int)):=
 bif c then
 some (.inr (.inl ()))
 else
 (QE (fun st=>Qlk e d st) 0).bind (Sum.elim (fun q=>Qsj) (fun q=>Qsk a b d))
def Qlm (c:Qk)(a:Int)(d:Int):Option ((Int×Int)⊕(Unit⊕Int)):=
 bif (decide (d<(c.Colours.length:Int)))then
 (idx c.Colours d).bind fun b=>
 (Qsi c d a b).bind (fun e=>Qll c d a b e)
 else
 some (.inr (.inr a))
def Qsl : Option Bool:=
 some false
def Qln (c:Qk)(a:Int)(b:Int):Option ((Int×Int)⊕(Unit⊕Int)):=
 bif (decide (b<(c.Places.length:Int)))then
 (idx c.Places b).bind fun d=>
 (idx c.Places b).bind fun e=>
 bif (decide (100<(e.Name.size:Int)))then
 some (.inr (.inl ()))
 else
 some (.inl ((w64 (a+(d.First.length:Int))),(w64 (b+1))))
 else
 some (.inr (.inr a))
def Qsm : Option Bool:=
 some false
def QjN (b:QA)(a:Int):Option (Int⊕(Unit⊕Unit)):=
 bif (decide (a<(b.Vars.length:Int)))then
 (idx b.Vars a).bind fun c=>
 bif (decide (100<(c.Name.size:Int)))then
 some (.inr (.inl ()))
 else
 some (.inl (w64 (a+1)))
 else
 some (.inr (.inr ()))
def Qrc : Option ((Int×Int)⊕(Unit⊕Unit)):=
 some (.inr (.inl ()))
def QjO (c:QA)(a:Bool)(b:Int):Option ((Bool×Int)⊕Bool):=
 bif (decide (b<(c.Ins.length:Int)))then
 (idx c.Ins b).bind fun d=>
 (Qju d.Expr).bind fun e=>
 some (.inl ((a&&e),(w64 (b+1))))
 else
 some (.inr a)
def QjP (c:QA)(a:Bool)(b:Int):Option ((Bool×Int)⊕Bool):=
 bif (decide (b<(c.Outs.length:Int)))then
 (idx c.Outs b).bind fun d=>
 (Qju d.Expr).bind fun e=>
 some (.inl ((a&&e),(w64 (b+1))))
 else
 some (.inr a)
def QjQ (a:Int)(b:QA)(d:Int)(c:Bool):Option ((Int×Int)⊕(Unit⊕Unit)):=
 bif (!c)then
 some (.inr (.inl ()))
 else
 some (.inl ((w64 ((w64 ((w64 ((w64 (a+(b.Vars.length:Int)))+(b.Ins.length:Int)))+(b.Outs.length:Int)))+(b.Cancel.length:Int))),(w64 (d+1))))
def QjR (b:QA)(a:Int)(d:Int)(c:Bool):Option ((Int×Int)⊕(Unit⊕Unit)):=
 (QE (fun st=>QjP b st.1 st.2) (c,0)).bind (fun q=>QjQ a b d q)
def QjS (b:QA)(a:Int)(c:Int):Option ((Int×Int)⊕(Unit⊕Unit)):=
 (Qju b.Guard).bind fun d=>
 (QE (fun st=>QjO b st.1 st.2) (d,0)).bind (fun q=>QjR b a c q)
def QjT (d:Qk)(b:Int)(c:Int):Option ((Int×Int)⊕(Unit⊕Unit)):=
 bif (decide (c<(d.Tasks.length:Int)))then
 (idx d.Tasks c).bind fun a=>
 bif ((decide (200<(w64 ((w64 ((w64 ((w64 (b+(a.Vars.length:Int)))+(a.Ins.length:Int)))+(a.Outs.length:Int)))+(a.Cancel.length:Int)))))||(decide (100<(a.Name.size:Int))))then
 some (.inr (.inl ()))
 else
 (QE (fun st=>QjN a st) 0).bind (Sum.elim (fun q=>Qrc) (fun q=>QjS a b c))
 else
 some (.inr (.inr ()))
def Qrd : Option Bool:=
 some false
def Qre (a:Int):Option Bool:=
 some (decide (a≤400))
def QjU (b:Qk)(a:Int):Option Bool:=
 (QE (fun st=>QjT b st.1 st.2) (0,0)).bind (Sum.elim (fun q=>Qrd) (fun q=>Qre a))
def QjV (b:Qk)(a:Int):Option Bool:=
 (QE (fun st=>Qln b st.1 st.2) (a,0)).bind (Sum.elim (fun q=>Qsm) (fun q=>QjU b q))
def Qjv (a:Qk):Option Bool:=
 bif ((decide (40<(a.Colours.length:Int)))||((decide (70<(a.Places.length:Int)))||(decide (70<(a.Tasks.length:Int)))))then
 some false
 else
 (QE (fun st=>Qlm a st.1 st.2) (0,0)).bind (Sum.elim (fun q=>Qsl) (fun q=>QjV a q))
theorem Qsn (i){r}(h:Qjv i=some r):Qd prog 32 [.agg (Qe i)] [] (Gives (.b r) []):=by
 refine Qd.walk 201 func32 rfl rfl rfl fun C hC=>?_
 unfold Qjv at h
 refine tg_ hC [.n 8] rfl ?_
 refine AK.meetX (fun σ=>σ=⟨[(1,.loc 1 0 0),(31,.b ((decide (40<(i.Colours.length:Int)))||((decide (70<(i.Places.length:Int)))||(decide (70<(i.Tasks.length:Int))))))],[(1,.var (Qe i))]⟩) ?_ ?_
 ·refine Qa hC [.n 3,.o (.ln i.Colours.length),.n 2] rfl ⟨tt_,Qg⟩ ?_
  rcases Q0 (decide (40<(i.Colours.length:Int)))with w | w
  ·refine Qa hC [.S 20 (.b true),.n 12,.S 31 (.b ((decide (40<(i.Colours.length:Int)))||((decide (70<(i.Places.length:Int)))||(decide (70<(i.Tasks.length:Int)))))),.K [1,31] [1]] rfl ⟨(tc_ w),(congrArg V.b (orT w rfl))⟩ ?_
   exact AK.met rfl
  refine Qa hC [.S 20 (.b false),.n 2,.o (.ln i.Places.length),.n 3] rfl ⟨(tc_ w),Qg⟩ ?_
  rcases Q0 (decide (70<(i.Places.length:Int)))with x | x
  ·refine Qa hC [.S 26 (.b true),.n 6,.S 31 (.b ((decide (40<(i.Colours.length:Int)))||((decide (70<(i.Places.length:Int)))||(decide (70<(i.Tasks.length:Int)))))),.K [1,31] [1]] rfl ⟨(tc_ x),(congrArg V.b (orF w (orT x rfl)))⟩ ?_
   exact AK.met rfl
  refine Qa hC [.S 26 (.b false),.n 2,.o (.ln i.Tasks.length),.n 3,.S 31 (.b ((decide (40<(i.Colours.length:Int)))||((decide (70<(i.Places.length:Int)))||(decide (70<(i.Tasks.length:Int)))))),.K [1,31] [1]] rfl ⟨⟨(tc_ x),Qg⟩,(congrArg V.b (orF w (orF x rfl)))⟩ ?_
  exact AK.met rfl
 rintro σ rfl
 refine tg_ hC [.n 1] rfl ?_
 refine bg_ h (fun Z h=>Qa hC [.T,.n 7,.K [2] []] rfl ⟨tt_,Z⟩ ?_) fun Z h=>Qa hC [.F,.n 14,.K [1,3,4] [1]] rfl ⟨tt_,Z⟩ ?_
 ·cases h
  exact d1_ rfl rfl tt_
 obtain⟨d0,a1,h⟩:=Qc h
 refine AK.loop (body:=(fun st=>Qlm i st.1 st.2)) (fun st σ=>σ=⟨[(1,.loc 1 0 0),(3,.I st.1),(4,.I st.2)],[(1,.var (Qe i))]⟩) (Sum.elim (fun q e σ=>e=.ret∧σ=⟨[(2,.b false)],[]⟩) (fun q e σ=>e=.exit 0∧σ=⟨[(1,.loc 1 0 0),(3,.I q)],[(1,.var (Qe i))]⟩)) a1 rfl ?_ ?_
 ·rintro ⟨j,i9⟩ o σ rfl h
  refine Qa hC [.n 6,.o (.ln i.Colours.length),.n 3] rfl ⟨tt_,Qg⟩ ?_
  rcases Qt h with⟨y,h⟩|⟨y,h⟩
  ·obtain⟨l,a2,h⟩:=Qc h
   refine Qa hC [.T,.n 10,.o (.row (QF l)),.n 2,.o (.ln l.Names.length),.n 6] rfl ⟨⟨⟨tt_,y⟩,(QJ a2)⟩,Qg⟩ ?_
   obtain⟨a0,a3,h⟩:=Qc h
   replace h:Qll i i9 j l a0=some o:=h
   refine AK.meetX (fun σ=>σ=⟨[(1,.loc 1 0 0),(3,.I (w64 (j+(l.Names.length:Int)))),(4,.I i9),(59,.b a0)],[(1,.var (Qe i))]⟩) ?_ ?_
   ·replace h:=a3
    obtain⟨d1,a4,h⟩:=Qc h
    refine Qa hC [.n 4,.o (.row (QF d1)),.n 5] rfl ⟨tt_,(QJ a4)⟩ ?_
    refine bg_ h (fun z h=>Qa hC [.S 56 (.b true),.n 4,.K [1,3,4,59] [1]] rfl (tc_ z) ?_) fun z h=>Qa hC [.S 56 (.b false),.n 4,.K [1,3,4,59] [1]] rfl (tc_ z) ?_
    ·cases h
     exact AK.met rfl
    cases h
    exact AK.met rfl
   rintro σ rfl
   replace h:Qll i i9 j l a0=some o:=h
   refine tg_ hC [.n 1] rfl ?_
   refine bg_ h (fun A h=>Qa hC [.T,.n 9,.K [2] []] rfl ⟨tt_,A⟩ ?_) fun A h=>Qa hC [.F,.n 8,.K [1,3,4,5] [1]] rfl ⟨tt_,A⟩ ?_
   ·cases h
    exact Qal rfl (an_ rfl rfl)
   obtain⟨d2,a5,h⟩:=Qc h
   refine AK.loop (body:=(fun st=>Qlk i i9 st)) (fun st σ=>σ=⟨[(1,.loc 1 0 0),(3,.I (w64 (j+(l.Names.length:Int)))),(4,.I i9),(5,.I st)],[(1,.var (Qe i))]⟩) (Sum.elim (fun q e σ=>e=.ret∧σ=⟨[(2,.b false)],[]⟩) (fun q e σ=>e=.exit 2∧σ=⟨[(1,.loc 1 0 0),(3,.I (w64 (j+(l.Names.length:Int)))),(4,.I i9)],[(1,.var (Qe i))]⟩)) a5 rfl ?_ ?_
   ·rintro e3 o σ rfl h
    obtain⟨a6,a7,h⟩:=Qc h
    refine Qa hC [.n 7,.o (.row (QF a6)),.n 2,.o (.ln a6.Names.length),.n 3] rfl ⟨⟨tt_,(QJ a7)⟩,Qg⟩ ?_
    rcases Qt h with⟨B,h⟩|⟨B,h⟩
    ·obtain⟨d3,a8,h⟩:=Qc h
     obtain⟨d4,a9,h⟩:=Qc h
     refine Qa hC [.T,.n 9,.o (.row (QF d3)),.n 3,.o (.row (Qet d4)),.n 5] rfl ⟨⟨⟨tt_,B⟩,(QJ a8)⟩,(QJ a9)⟩ ?_
     refine bg_ h (fun D h=>Qa hC [.T,.n 8,.K [2] []] rfl ⟨tt_,D⟩ ?_) fun D h=>Qa hC [.F,.n 8,.K [1,3,4,5] [1]] rfl ⟨tt_,D⟩ ?_
     ·cases h
      exact Qal rfl (an_ rfl rfl)
     cases h
     exact QZ rfl rfl
    refine Qa hC [.F,.n 2,.K [1,3,4] [1]] rfl ⟨tt_,B⟩ ?_
    cases h
    exact Q1 rfl (an_ rfl rfl)
   rcases d2 with(_ | _)
   ·replace h:Qsj=some o:=h
    rintro e σ ⟨rfl,rfl⟩
    refine tg_ hC [.n 3,.K [2] []] rfl ?_
    cases h
    exact Qal rfl (an_ rfl rfl)
   replace h:Qsk j l i9=some o:=h
   rintro e σ ⟨rfl,rfl⟩
   refine tg_ hC [.n 8,.K [1,3,4] [1]] rfl ?_
   cases h
   exact QZ rfl rfl
  refine Qa hC [.F,.n 2,.K [1,3] [1]] rfl ⟨tt_,y⟩ ?_
  cases h
  exact Q1 rfl (an_ rfl rfl)
 rcases d0 with(_ | E)
 ·replace h:Qsl=some r:=h
  rintro e σ ⟨rfl,rfl⟩
  refine tg_ hC [.n 2] rfl ?_
  cases h
  exact d1_ rfl rfl tt_
 replace h:QjV i E=some r:=h
 rintro e σ ⟨rfl,rfl⟩
 refine tg_ hC [.n 9,.K [1,3,6] [1]] rfl ?_
 obtain⟨d5,b0,h⟩:=Qc h
 refine AK.loop (body:=(fun st=>Qln i st.1 st.2)) (fun st σ=>σ=⟨[(1,.loc 1 0 0),(3,.I st.1),(6,.I st.2)],[(1,.var (Qe i))]⟩) (Sum.elim (fun q e σ=>e=.ret∧σ=⟨[(2,.b false)],[]⟩) (fun q e σ=>e=.exit 4∧σ=⟨[(1,.loc 1 0 0),(3,.I q)],[(1,.var (Qe i))]⟩)) b0 rfl ?_ ?_
 ·rintro ⟨b1,e4⟩ o σ rfl h
  refine Qa hC [.n 6,.o (.ln i.Places.length),.n 3] rfl ⟨tt_,Qg⟩ ?_
  rcases Qt h with⟨G,h⟩|⟨G,h⟩
  ·obtain⟨b2,b3,h⟩:=Qc h
   obtain⟨d6,b4,h⟩:=Qc h
   refine Qa hC [.T,.n 10,.o (.row (QC b2)),.n 2,.o (.ln b2.First.length),.n 9,.o (.row (QC d6)),.n 6] rfl ⟨⟨⟨⟨tt_,G⟩,(QJ b3)⟩,Qg⟩,(QJ b4)⟩ ?_
   refine bg_ h (fun H h=>Qa hC [.T,.n 8,.K [2] []] rfl ⟨tt_,H⟩ ?_) fun H h=>Qa hC [.F,.n 8,.K [1,3,6] [1]] rfl ⟨tt_,H⟩ ?_
   ·cases h
    exact Qal rfl (an_ rfl rfl)
   cases h
   exact QZ rfl rfl
  refine Qa hC [.F,.n 2,.K [1,3] [1]] rfl ⟨tt_,G⟩ ?_
  cases h
  exact Q1 rfl (an_ rfl rfl)
 rcases d5 with(_ | g)
 ·replace h:Qsm=some r:=h
  rintro e σ ⟨rfl,rfl⟩
  refine tg_ hC [.n 2] rfl ?_
  cases h
  exact d1_ rfl rfl tt_
 replace h:QjU i g=some r:=h
 rintro e σ ⟨rfl,rfl⟩
 refine tg_ hC [.n 14,.K [1,3,7,8] [1]] rfl ?_
 obtain⟨d7,b5,h⟩:=Qc h
 refine AK.loop (body:=(fun st=>QjT i st.1 st.2)) (fun st σ=>σ=⟨[(1,.loc 1 0 0),(3,.I g),(7,.I st.1),(8,.I st.2)],[(1,.var (Qe i))]⟩) (Sum.elim (fun q e σ=>e=.ret∧σ=⟨[(2,.b false)],[]⟩) (fun q e σ=>e=.exit 6∧σ=⟨[(3,.I g)],[]⟩)) b5 rfl ?_ ?_
 ·rintro ⟨f,k⟩ o σ rfl h
  refine Qa hC [.n 6,.o (.ln i.Tasks.length),.n 3] rfl ⟨tt_,Qg⟩ ?_
  rcases Qt h with⟨J,h⟩|⟨J,h⟩
  ·obtain⟨a,b6,h⟩:=Qc h
   refine Qa hC [.T,.n 9,.o (.row (Qh a)),.v .no [] (.agg (Qh a)),.n 2,.O 9 (.var (Qh a)),.n 7,.o (.ln a.Vars.length),.n 3,.o (.ln a.Ins.length),.n 3,.o (.ln a.Outs.length),.n 3,.o (.ln a.Cancel.length),.n 6] rfl ⟨⟨⟨⟨⟨⟨⟨⟨tt_,J⟩,(QJ b6)⟩,rfl⟩,rfl⟩,Qg⟩,Qg⟩,Qg⟩,Qg⟩ ?_
   refine AK.meetX (fun σ=>σ=⟨[(1,.loc 1 0 0),(3,.I g),(7,.I (w64 ((w64 ((w64 ((w64 (f+(a.Vars.length:Int)))+(a.Ins.length:Int)))+(a.Outs.length:Int)))+(a.Cancel.length:Int)))),(8,.I k),(9,.loc 9 0 0),(142,.b ((decide (200<(w64 ((w64 ((w64 ((w64 (f+(a.Vars.length:Int)))+(a.Ins.length:Int)))+(a.Outs.length:Int)))+(a.Cancel.length:Int)))))||(decide (100<(a.Name.size:Int)))))],[(1,.var (Qe i)),(9,.var (Qh a))]⟩) ?_ ?_
   ·refine tg_ hC [.n 4] rfl ?_
    rcases Q0 (decide (200<(w64 ((w64 ((w64 ((w64 (f+(a.Vars.length:Int)))+(a.Ins.length:Int)))+(a.Outs.length:Int)))+(a.Cancel.length:Int)))))with m | m
    ·refine Qa hC [.S 137 (.b true),.n 6,.S 142 (.b ((decide (200<(w64 ((w64 ((w64 ((w64 (f+(a.Vars.length:Int)))+(a.Ins.length:Int)))+(a.Outs.length:Int)))+(a.Cancel.length:Int)))))||(decide (100<(a.Name.size:Int))))),.K [1,3,7,8,9,142] [1,9]] rfl ⟨(tc_ m),(congrArg V.b (orT m rfl))⟩ ?_
     exact AK.met rfl
    refine Qa hC [.S 137 (.b false),.n 6,.S 142 (.b ((decide (200<(w64 ((w64 ((w64 ((w64 (f+(a.Vars.length:Int)))+(a.Ins.length:Int)))+(a.Outs.length:Int)))+(a.Cancel.length:Int)))))||(decide (100<(a.Name.size:Int))))),.K [1,3,7,8,9,142] [1,9]] rfl ⟨(tc_ m),(congrArg V.b (orF m rfl))⟩ ?_
    exact AK.met rfl
   rintro σ rfl
   refine tg_ hC [.n 1] rfl ?_
   refine bg_ h (fun L h=>Qa hC [.T,.n 9,.K [2] []] rfl ⟨tt_,L⟩ ?_) fun L h=>Qa hC [.F,.n 9,.K [1,3,7,8,9,10] [1,9]] rfl ⟨tt_,L⟩ ?_
   ·cases h
    exact Qal rfl (an_ rfl rfl)
   obtain⟨d8,b7,h⟩:=Qc h
   refine AK.loop (body:=(fun st=>QjN a st)) (fun st σ=>σ=⟨[(1,.loc 1 0 0),(3,.I g),(7,.I (w64 ((w64 ((w64 ((w64 (f+(a.Vars.length:Int)))+(a.Ins.length:Int)))+(a.Outs.length:Int)))+(a.Cancel.length:Int)))),(8,.I k),(9,.loc 9 0 0),(10,.I st)],[(1,.var (Qe i)),(9,.var (Qh a))]⟩) (Sum.elim (fun q e σ=>e=.ret∧σ=⟨[(2,.b false)],[]⟩) (fun q e σ=>e=.exit 8∧σ=⟨[(1,.loc 1 0 0),(3,.I g),(7,.I (w64 ((w64 ((w64 ((w64 (f+(a.Vars.length:Int)))+(a.Ins.length:Int)))+(a.Outs.length:Int)))+(a.Cancel.length:Int)))),(8,.I k),(9,.loc 9 0 0)],[(1,.var (Qe i)),(9,.var (Qh a))]⟩)) b7 rfl ?_ ?_
   ·rintro e5 o σ rfl h
    refine Qa hC [.n 6,.o (.ln a.Vars.length),.n 3] rfl ⟨tt_,Qg⟩ ?_
    rcases Qt h with⟨M,h⟩|⟨M,h⟩
    ·obtain⟨d9,b8,h⟩:=Qc h
     refine Qa hC [.T,.n 9,.o (.row (QL d9)),.n 6] rfl ⟨⟨tt_,M⟩,(QJ b8)⟩ ?_
     refine bg_ h (fun N h=>Qa hC [.T,.n 8,.K [2] []] rfl ⟨tt_,N⟩ ?_) fun N h=>Qa hC [.F,.n 8,.K [1,3,7,8,9,10] [1,9]] rfl ⟨tt_,N⟩ ?_
     ·cases h
      exact Qal rfl (an_ rfl rfl)
     cases h
     exact QZ rfl rfl
    refine Qa hC [.F,.n 2,.K [1,3,7,8,9] [1,9]] rfl ⟨tt_,M⟩ ?_
    cases h
    exact Q1 rfl (an_ rfl rfl)
   rcases d8 with(_ | _)
   ·replace h:Qrc=some o:=h
    rintro e σ ⟨rfl,rfl⟩
    refine tg_ hC [.n 4,.K [2] []] rfl ?_
    cases h
    exact Qal rfl (an_ rfl rfl)
   replace h:QjS a f k=some o:=h
   rintro e σ ⟨rfl,rfl⟩
   obtain⟨e0,b9,h⟩:=Qc h
   refine Qa hC [.n 5,.v .no [] (.agg (Qp a.Guard)),.o (.c false [.d] (.b e0)),.n 10,.K [1,3,7,8,9,11,12] [1,9]] rfl ⟨⟨tt_,rfl⟩,(Qn2 _ b9)⟩ ?_
   obtain⟨c0,c1,h⟩:=Qc h
   refine AK.loop (body:=(fun st=>QjO a st.1 st.2)) (fun st σ=>σ=⟨[(1,.loc 1 0 0),(3,.I g),(7,.I (w64 ((w64 ((w64 ((w64 (f+(a.Vars.length:Int)))+(a.Ins.length:Int)))+(a.Outs.length:Int)))+(a.Cancel.length:Int)))),(8,.I k),(9,.loc 9 0 0),(11,.b st.1),(12,.I st.2)],[(1,.var (Qe i)),(9,.var (Qh a))]⟩) (fun q e σ=>e=.exit 10∧σ=⟨[(1,.loc 1 0 0),(3,.I g),(7,.I (w64 ((w64 ((w64 ((w64 (f+(a.Vars.length:Int)))+(a.Ins.length:Int)))+(a.Outs.length:Int)))+(a.Cancel.length:Int)))),(8,.I k),(9,.loc 9 0 0),(11,.b q)],[(1,.var (Qe i)),(9,.var (Qh a))]⟩) c1 rfl ?_ ?_
   ·rintro ⟨t,e1⟩ o σ rfl h
    refine Qa hC [.n 6,.o (.ln a.Ins.length),.n 3] rfl ⟨tt_,Qg⟩ ?_
    rcases Qt h with⟨P,h⟩|⟨P,h⟩
    ·obtain⟨c2,c3,h⟩:=Qc h
     obtain⟨X,c4,h⟩:=Qc h
     refine Qa hC [.T,.n 9,.o (.row (Q2 c2)),.n 1,.v .no [] (.agg (Qp c2.Expr)),.o (.c false [.d] (.b X)),.n 3] rfl ⟨⟨⟨⟨tt_,P⟩,(QJ c3)⟩,rfl⟩,(Qn2 _ c4)⟩ ?_
     refine AK.meetX (fun σ=>σ=⟨[(1,.loc 1 0 0),(3,.I g),(7,.I (w64 ((w64 ((w64 ((w64 (f+(a.Vars.length:Int)))+(a.Ins.length:Int)))+(a.Outs.length:Int)))+(a.Cancel.length:Int)))),(8,.I k),(9,.loc 9 0 0),(11,.b (t&&X)),(12,.I e1)],[(1,.var (Qe i)),(9,.var (Qh a))]⟩) ?_ ?_
     ·refine tg_ hC [.n 3] rfl ?_
      rcases Q0 t with p | p
      ·refine Qa hC [.S 176 (.b true),.n 4,.S 11 (.b (t&&X)),.K [1,3,7,8,9,11,12] [1,9]] rfl ⟨(tc_ p),(congrArg V.b (Qcy p rfl))⟩ ?_
       exact AK.met rfl
      refine Qa hC [.S 176 (.b false),.n 4,.S 11 (.b (t&&X)),.K [1,3,7,8,9,11,12] [1,9]] rfl ⟨(tc_ p),(congrArg V.b (QeJ p rfl))⟩ ?_
      exact AK.met rfl
     rintro σ rfl
     refine tg_ hC [.n 7,.K [1,3,7,8,9,11,12] [1,9]] rfl ?_
     cases h
     exact QZ rfl rfl
    refine Qa hC [.F,.n 2,.K [1,3,7,8,9,11] [1,9]] rfl ⟨tt_,P⟩ ?_
    cases h
    exact Q1 rfl (an_ rfl rfl)
   replace h:QjR a f k c0=some o:=h
   rintro e σ ⟨rfl,rfl⟩
   refine tg_ hC [.n 9,.K [1,3,7,8,9,11,14] [1,9]] rfl ?_
   obtain⟨c5,c6,h⟩:=Qc h
   refine AK.loop (body:=(fun st=>QjP a st.1 st.2)) (fun st σ=>σ=⟨[(1,.loc 1 0 0),(3,.I g),(7,.I (w64 ((w64 ((w64 ((w64 (f+(a.Vars.length:Int)))+(a.Ins.length:Int)))+(a.Outs.length:Int)))+(a.Cancel.length:Int)))),(8,.I k),(9,.loc 9 0 0),(11,.b st.1),(14,.I st.2)],[(1,.var (Qe i)),(9,.var (Qh a))]⟩) (fun q e σ=>e=.exit 12∧σ=⟨[(1,.loc 1 0 0),(3,.I g),(7,.I (w64 ((w64 ((w64 ((w64 (f+(a.Vars.length:Int)))+(a.Ins.length:Int)))+(a.Outs.length:Int)))+(a.Cancel.length:Int)))),(8,.I k),(11,.b q)],[(1,.var (Qe i))]⟩) c6 rfl ?_ ?_
   ·rintro ⟨u,e2⟩ o σ rfl h
    refine Qa hC [.n 6,.o (.ln a.Outs.length),.n 3] rfl ⟨tt_,Qg⟩ ?_
    rcases Qt h with⟨U,h⟩|⟨U,h⟩
    ·obtain⟨c7,c8,h⟩:=Qc h
     obtain⟨Y,c9,h⟩:=Qc h
     refine Qa hC [.T,.n 9,.o (.row (Q2 c7)),.n 1,.v .no [] (.agg (Qp c7.Expr)),.o (.c false [.d] (.b Y)),.n 3] rfl ⟨⟨⟨⟨tt_,U⟩,(QJ c8)⟩,rfl⟩,(Qn2 _ c9)⟩ ?_
     refine AK.meetX (fun σ=>σ=⟨[(1,.loc 1 0 0),(3,.I g),(7,.I (w64 ((w64 ((w64 ((w64 (f+(a.Vars.length:Int)))+(a.Ins.length:Int)))+(a.Outs.length:Int)))+(a.Cancel.length:Int)))),(8,.I k),(9,.loc 9 0 0),(11,.b (u&&Y)),(14,.I e2)],[(1,.var (Qe i)),(9,.var (Qh a))]⟩) ?_ ?_
     ·refine tg_ hC [.n 3] rfl ?_
      rcases Q0 u with s | s
      ·refine Qa hC [.S 194 (.b true),.n 4,.S 11 (.b (u&&Y)),.K [1,3,7,8,9,11,14] [1,9]] rfl ⟨(tc_ s),(congrArg V.b (Qcy s rfl))⟩ ?_
       exact AK.met rfl
      refine Qa hC [.S 194 (.b false),.n 4,.S 11 (.b (u&&Y)),.K [1,3,7,8,9,11,14] [1,9]] rfl ⟨(tc_ s),(congrArg V.b (QeJ s rfl))⟩ ?_
      exact AK.met rfl
     rintro σ rfl
     refine tg_ hC [.n 7,.K [1,3,7,8,9,11,14] [1,9]] rfl ?_
     cases h
     exact QZ rfl rfl
    refine Qa hC [.F,.n 2,.K [1,3,7,8,11] [1]] rfl ⟨tt_,U⟩ ?_
    cases h
    exact Q1 rfl (an_ rfl rfl)
   replace h:QjQ f a k c5=some o:=h
   rintro e σ ⟨rfl,rfl⟩
   refine tg_ hC [.n 8] rfl ?_
   refine bg_ h (fun W h=>Qa hC [.T,.n 8,.K [2] []] rfl ⟨tt_,W⟩ ?_) fun W h=>Qa hC [.F,.n 8,.K [1,3,7,8] [1]] rfl ⟨tt_,W⟩ ?_
   ·cases h
    exact Qal rfl (an_ rfl rfl)
   cases h
   exact QZ rfl rfl
  refine Qa hC [.F,.n 2,.K [3] []] rfl ⟨tt_,J⟩ ?_
  cases h
  exact Q1 rfl (an_ rfl rfl)
 rcases d7 with(_ | _)
 ·replace h:Qrd=some r:=h
  rintro e σ ⟨rfl,rfl⟩
  refine tg_ hC [.n 2] rfl ?_
  cases h
  exact d1_ rfl rfl tt_
 replace h:Qre g=some r:=h
 rintro e σ ⟨rfl,rfl⟩
 refine tg_ hC [.n 10] rfl ?_
 cases h
 exact d1_ rfl rfl tt_
def Qmw (a:Qk):Option Bool:=
 some ((decide ((a.Places.length:Int)≤64))&&(decide ((a.Tasks.length:Int)≤64)))
theorem Qwk (a){r}(h:Qmw a=some r):Qd prog 65 [.loc 615 0 0] [(615,.var (Qe a))] (Gives (.b r) [(615,.var (Qe a))]):=by
 refine Qd.walk 12 func65 rfl rfl rfl fun C hC=>?_
 refine tg_ hC [.n 6] rfl ?_
 refine AK.meetX (fun σ=>σ=⟨[(1,.b ((decide ((a.Places.length:Int)≤64))&&(decide ((a.Tasks.length:Int)≤64))))],[(615,.var (Qe a))]⟩) ?_ ?_
 ·refine Qa hC [.n 3,.o (.ln a.Places.length),.n 2] rfl ⟨tt_,Qg⟩ ?_
  rcases Q0 (decide ((a.Places.length:Int)≤64))with c | c
  ·refine Qa hC [.S 6 (.b true),.n 2,.o (.ln a.Tasks.length),.n 4,.S 1 (.b ((decide ((a.Places.length:Int)≤64))&&(decide ((a.Tasks.length:Int)≤64)))),.K [1] [615]] rfl ⟨⟨(tc_ c),Qg⟩,(congrArg V.b (Qcy c rfl))⟩ ?_
   exact AK.met rfl
  refine Qa hC [.S 6 (.b false),.n 7,.S 1 (.b ((decide ((a.Places.length:Int)≤64))&&(decide ((a.Tasks.length:Int)≤64)))),.K [1] [615]] rfl ⟨(tc_ c),(congrArg V.b (QeJ c rfl))⟩ ?_
  exact AK.met rfl
 rintro σ rfl
 refine tg_ hC [.n 2] rfl ?_
 cases h
 exact d1_ rfl rfl ⟨rfl,tt_⟩
def QaY (b:(List QW))(a:Int):Option Bool:=
 some ((decide (0≤a))&&(decide (a<(b.length:Int))))
theorem Qck (d c){r}(h:QaY d c=some r):Qd prog 67 [.sl 3 (d.map QC),.I c] [] (Gives (.b r) []):=by
 refine Qd.walk 13 func67 rfl rfl rfl fun C hC=>?_
 refine tg_ hC [.n 6] rfl ?_
 refine AK.meetX (fun σ=>σ=⟨[(4,.b ((decide (0≤c))&&(decide (c<(d.length:Int)))))],[]⟩) ?_ ?_
 ·refine tg_ hC [.n 4] rfl ?_
  rcases Q0 (decide (0≤c))with a | a
  ·refine Qa hC [.S 7 (.b true),.n 2,.o (.ln d.length),.n 4,.S 4 (.b ((decide (0≤c))&&(decide (c<(d.length:Int))))),.K [4] []] rfl ⟨⟨(tc_ a),Qg⟩,(congrArg V.b (Qcy a rfl))⟩ ?_
   exact AK.met rfl
  refine Qa hC [.S 7 (.b false),.n 7,.S 4 (.b ((decide (0≤c))&&(decide (c<(d.length:Int))))),.K [4] []] rfl ⟨(tc_ a),(congrArg V.b (QeJ a rfl))⟩ ?_
  exact AK.met rfl
 rintro σ rfl
 refine tg_ hC [.n 2] rfl ?_
 cases h
 exact d1_ rfl rfl tt_
def Qp9 (a:Qk):Option Bool:=
 (QaY a.Places a.From).bind fun b=>
 bif b then
 (QaY a.Places a.To).bind fun c=>
 some c
 else
 some false
def QiM (a:Bool):Option Bool:=
 some a
def Qmx (a:Qk):Option Bool:=
 (Qp9 a).bind (fun b=>QiM b)
theorem Qwl (e){r}(h:Qmx e=some r):Qd prog 66 [.loc 615 0 0] [(615,.var (Qe e))] (Gives (.b r) [(615,.var (Qe e))]):=by
 refine Qd.walk 14 func66 rfl rfl rfl fun C hC=>?_
 refine tg_ hC [.n 6] rfl ?_
 obtain⟨f,g,h⟩:=Qc h
 replace h:QiM f=some r:=h
 refine AK.meetX (fun σ=>σ=⟨[(1,.b f)],[(615,.var (Qe e))]⟩) ?_ ?_
 ·replace h:=g
  obtain⟨k,i,h⟩:=Qc h
  refine Qa hC [.n 5,.o (.c false [.d,.d] (.b k)),.n 1] rfl ⟨tt_,(Qck _ _ i)⟩ ?_
  rcases Qt h with⟨a,h⟩|⟨a,h⟩
  ·obtain⟨l,j,h⟩:=Qc h
   refine Qa hC [.S 7 (.b true),.n 4,.o (.c false [.d,.d] (.b l)),.n 3,.K [1] [615]] rfl ⟨(tc_ a),(Qck _ _ j)⟩ ?_
   cases h
   exact AK.met rfl
  refine Qa hC [.S 7 (.b false),.n 8,.K [1] [615]] rfl (tc_ a) ?_
  cases h
  exact AK.met rfl
 rintro σ rfl
 replace h:QiM f=some r:=h
 refine tg_ hC [.n 2] rfl ?_
 cases h
 exact d1_ rfl rfl ⟨rfl,tt_⟩
def Qmy (a:Qk):Option Bool:=
 some (a.From != a.To)
theorem Qwm (a){r}(h:Qmy a=some r):Qd prog 68 [.loc 615 0 0] [(615,.var (Qe a))] (Gives (.b r) [(615,.var (Qe a))]):=by
 refine Qd.walk 7 func68 rfl rfl rfl fun C hC=>?_
 refine tg_ hC [.n 16] rfl ?_
 cases h
 exact d1_ rfl rfl ⟨rfl,tt_⟩
def Qmz (a:Qk)(c:Int)(d:Int)(e:Int):Option Int:=
 (Qmw a).bind fun f=>
 bif (!f)then
 some c
 else
 (Qmx a).bind fun g=>
 bif (!g)then
 some d
 else
 (Qmy a).bind fun b=>
 bif (!b)then
 some e
 else
 some 0
theorem Qwn (g k l m){r}(h:Qmz g k l m=some r):Qd prog 64 [.own 615 3] [(615,.var [.clo (.func 65) [] [.loc 616 0 0],.I k,.clo (.func 66) [] [.loc 616 0 0],.I l,.clo (.func 68) [] [.loc 616 0 0],.I m]),(616,.var (Qe g))] (Gives (.I r) [(615,.var [.clo (.func 65) [] [.loc 616 0 0],.I k,.clo (.func 66) [] [.loc 616 0 0],.I l,.clo (.func 68) [] [.loc 616 0 0],.I m]),(616,.var (Qe g))]):=by
 refine Qd.walk 18 func64 rfl rfl rfl fun C hC=>?_
 refine tg_ hC [.n 14] rfl ?_
 refine AK.loopN 4 (AK.rnd ?_)
 obtain⟨t,p,h⟩:=Qc h
 refine Qa hC [.n 2,.v .no [] (.b true),.n 10,.o (.any (.loc 615 0 0) none),.n 3,.O 4 (.var [.clo (.func 65) [] [.loc 616 0 0],.I k]),.n 6,.cm (.clo) [(615,616)] [(616,615)] [] [.d] [(615,.var (Qe g))] (.b t),.n 3] rfl ⟨⟨⟨⟨tt_,rfl⟩,(fun σ e i _=>Stp.idxV rfl rfl (QH hC.n rfl) (e _ _ rfl) (e _ _ rfl) (Qs.es rfl) (i _ _ rfl) (by decide))⟩,rfl⟩,(Qwk _ p)⟩ ?_
 refine bg_ h (fun f h=>Qa hC [.T,.n 13,.K [2] [615,616]] rfl ⟨tt_,f⟩ ?_) fun f h=>Qa hC [.F,.n 4,.v .no [] (.I 1),.n 2] rfl ⟨⟨tt_,f⟩,rfl⟩ ?_
 ·cases h
  exact d1_ rfl rfl ⟨rfl,rfl,tt_⟩
 refine AK.met (AK.rnd ?_)
 obtain⟨u,q,h⟩:=Qc h
 refine Qa hC [.n 2,.v .no [] (.b true),.n 10,.o (.any (.loc 615 0 2) none),.n 1,.kill 4,.n 2,.O 4 (.var [.clo (.func 66) [] [.loc 616 0 0],.I l]),.n 6,.cm (.clo) [(615,616)] [(616,615)] [] [.d] [(615,.var (Qe g))] (.b u),.n 3] rfl ⟨⟨⟨⟨tt_,rfl⟩,(fun σ e i _=>Stp.idxV rfl rfl (QH hC.n rfl) (e _ _ rfl) (e _ _ rfl) (Qs.es rfl) (i _ _ rfl) (by decide))⟩,rfl⟩,(Qwl _ q)⟩ ?_
 refine bg_ h (fun a h=>Qa hC [.T,.n 13,.K [2] [615,616]] rfl ⟨tt_,a⟩ ?_) fun a h=>Qa hC [.F,.n 4,.v .no [] (.I 2),.n 2] rfl ⟨⟨tt_,a⟩,rfl⟩ ?_
 ·cases h
  exact d1_ rfl rfl ⟨rfl,rfl,tt_⟩
 refine AK.met (AK.rnd ?_)
 obtain⟨s,j,h⟩:=Qc h
 refine Qa hC [.n 2,.v .no [] (.b true),.n 10,.o (.any (.loc 615 0 4) none),.n 1,.kill 4,.n 2,.O 4 (.var [.clo (.func 68) [] [.loc 616 0 0],.I m]),.n 6,.cm (.clo) [(615,616)] [(616,615)] [] [.d] [(615,.var (Qe g))] (.b s),.n 3] rfl ⟨⟨⟨⟨tt_,rfl⟩,(fun σ e i _=>Stp.idxV rfl rfl (QH hC.n rfl) (e _ _ rfl) (e _ _ rfl) (Qs.es rfl) (i _ _ rfl) (by decide))⟩,rfl⟩,(Qwm _ j)⟩ ?_
 refine bg_ h (fun c h=>Qa hC [.T,.n 13,.K [2] [615,616]] rfl ⟨tt_,c⟩ ?_) fun c h=>Qa hC [.F,.n 4,.v .no [] (.I 3),.n 2] rfl ⟨⟨tt_,c⟩,rfl⟩ ?_
 ·cases h
  exact d1_ rfl rfl ⟨rfl,rfl,tt_⟩
 refine AK.met (AK.rnd ?_)
 refine Qa hC [.n 2,.v .no [] (.b false),.n 15] rfl ⟨tt_,rfl⟩ ?_
 cases h
 exact d1_ rfl rfl ⟨rfl,rfl,tt_⟩
def QmA (a:Int)(b:Int):Option Int:=
 bif (decide (b<a))then
 some 0
 else
 some (w64 ((w64 (min2 (IntKind.u64.wrap ((IntKind.u64.wrap b)-(IntKind.u64.wrap a))) 1024))+1))
theorem Qwo (a b){r}(h:QmA a b=some r):Qd prog 243 [.I a,.I b] [] (Gives (.I r) []):=by
 refine Qd.walk 16 func243 rfl rfl rfl fun C hC=>?_
 refine tg_ hC [.n 13] rfl ?_
 refine bg_ h (fun c h=>Qa hC [.T,.n 7,.K [4] []] rfl ⟨tt_,c⟩ ?_) fun c h=>Qa hC [.F,.n 5,.o (.any (.i .u64 (IntKind.u64.wrap b)) none),.n 1,.o (.any (.i .u64 (IntKind.u64.wrap a)) none),.n 2,.o (.any (.I (w64 (min2 (IntKind.u64.wrap ((IntKind.u64.wrap b)-(IntKind.u64.wrap a))) 1024))) none),.n 5,.K [4] []] rfl ⟨⟨⟨⟨tt_,c⟩,(fun σ d e _=>Stp.convI rfl rfl (QH hC.n rfl) (d _ _ rfl) QzR Qus)⟩,(fun σ d e _=>Stp.convI rfl rfl (QH hC.n rfl) (d _ _ rfl) QzR Qus)⟩,(fun σ d e _=>Stp.convI rfl rfl (QH hC.n rfl) (d _ _ rfl) Qus QzR)⟩ ?_
 ·cases h
  exact d1_ rfl rfl tt_
 cases h
 exact d1_ rfl rfl tt_
def Qfn (a:Int):Option Bool:=
 some (bif (decide (97≤a))then((decide (a≤122))||((decide (65≤a))&&(decide (a≤90))))else((decide (65≤a))&&(decide (a≤90))))
theorem QoG (a){r}(h:Qfn a=some r):Qd prog 223 [.i .u8 a] [] (Gives (.b r) []):=by
 refine Qd.walk 17 func223 rfl rfl rfl fun C hC=>?_
 unfold Qfn at h
 refine tg_ hC [.n 6] rfl ?_
 refine AK.meetX (fun σ=>σ=⟨[(2,.b (bif (decide (97≤a))then((decide (a≤122))||((decide (65≤a))&&(decide (a≤90))))else((decide (65≤a))&&(decide (a≤90)))))],[]⟩) ?_ ?_
 ·refine tg_ hC [.n 4] rfl ?_
  rcases Q0 (decide (97≤a))with c | c
  ·refine Qa hC [.S 5 (.b true),.n 4] rfl (tc_ c) ?_
   rcases Q0 (decide (a≤122))with d | d
   ·refine Qa hC [.S 9 (.b true),.n 9,.S 2 (.b (bif (decide (97≤a))then((decide (a≤122))||((decide (65≤a))&&(decide (a≤90))))else((decide (65≤a))&&(decide (a≤90))))),.K [2] []] rfl ⟨(tc_ d),(congrArg V.b (QCT c (orT d rfl)))⟩ ?_
    exact AK.met rfl
   refine Qa hC [.S 9 (.b false),.n 3] rfl (tc_ d) ?_
   rcases Q0 (decide (65≤a))with e | e
   ·refine Qa hC [.S 12 (.b true),.n 6,.S 2 (.b (bif (decide (97≤a))then((decide (a≤122))||((decide (65≤a))&&(decide (a≤90))))else((decide (65≤a))&&(decide (a≤90))))),.K [2] []] rfl ⟨(tc_ e),(congrArg V.b (QCT c (orF d (Qcy e rfl))))⟩ ?_
    exact AK.met rfl
   refine Qa hC [.S 12 (.b false),.n 6,.S 2 (.b (bif (decide (97≤a))then((decide (a≤122))||((decide (65≤a))&&(decide (a≤90))))else((decide (65≤a))&&(decide (a≤90))))),.K [2] []] rfl ⟨(tc_ e),(congrArg V.b (QCT c (orF d (QeJ e rfl))))⟩ ?_
   exact AK.met rfl
  refine Qa hC [.S 5 (.b false),.n 7] rfl (tc_ c) ?_
  rcases Q0 (decide (65≤a))with f | f
  ·refine Qa hC [.S 12 (.b true),.n 6,.S 2 (.b (bif (decide (97≤a))then((decide (a≤122))||((decide (65≤a))&&(decide (a≤90))))else((decide (65≤a))&&(decide (a≤90))))),.K [2] []] rfl ⟨(tc_ f),(congrArg V.b (QEu c (Qcy f rfl)))⟩ ?_
   exact AK.met rfl
  refine Qa hC [.S 12 (.b false),.n 6,.S 2 (.b (bif (decide (97≤a))then((decide (a≤122))||((decide (65≤a))&&(decide (a≤90))))else((decide (65≤a))&&(decide (a≤90))))),.K [2] []] rfl ⟨(tc_ f),(congrArg V.b (QEu c (QeJ f rfl)))⟩ ?_
  exact AK.met rfl
 rintro σ rfl
 refine tg_ hC [.n 2] rfl ?_
 cases h
 exact d1_ rfl rfl tt_
def Qqa (a:ByteArray):Option Bool:=
 bif (QiF a (⟨#[]⟩:ByteArray))then
 some true
 else
 bif (decide (32<(a.size:Int)))then
 some true
 else
 (sidx a 0).bind fun b=>
 (Qfn b).bind fun c=>
 some (!c)
def Qqb (a:Int):Option Bool:=
 (Qfn a).bind fun b=>
 bif (!b)then
 bif (decide (a<48))then
 some (a != 95)
 else
 bif (decide (57<a))then
 some (a != 95)
 else
 some false
 else
 some false
def QiN (a:Int)(b:Bool):Option (Int⊕(Unit⊕Unit)):=
 bif b then
 some (.inr (.inl ()))
 else
 some (.inl (w64 (a+1)))
def QiO (d:ByteArray)(a:Int):Option (Int⊕(Unit⊕Unit)):=
 bif (decide (a<(d.size:Int)))then
 (sidx d a).bind fun b=>
 (Qqb b).bind (fun c=>QiN a c)
 else
 some (.inr (.inr ()))
def QiP : Option Bool:=
 some false
def QiQ : Option Bool:=
 some true
def QiR (a:ByteArray)(b:Bool):Option Bool:=
 bif b then
 some false
 else
 (QE (fun st=>QiO a st) 0).bind (Sum.elim (fun q=>QiP) (fun q=>QiQ))
def Qha (a:ByteArray):Option Bool:=
 (Qqa a).bind (fun b=>QiR a b)
theorem QmW (l){r}(h:Qha l=some r):Qd prog 177 [.s l] [] (Gives (.b r) []):=by
 refine Qd.walk 42 func177 rfl rfl rfl fun C hC=>?_
 refine tg_ hC [.n 7] rfl ?_
 obtain⟨z,A,h⟩:=Qc h
 replace h:QiR l z=some r:=h
 refine AK.meetX (fun σ=>σ=⟨[(0,.s l),(17,.b z)],[]⟩) ?_ ?_
 ·replace h:=A
  refine tg_ hC [.n 4] rfl ?_
  refine bg_ h (fun m h=>Qa hC [.S 7 (.b true),.n 11,.K [0,17] []] rfl (tc_ m) ?_) fun m h=>Qa hC [.S 7 (.b false),.n 5] rfl (tc_ m) ?_
  ·cases h
   exact AK.met rfl
  rcases Qt h with⟨p,h⟩|⟨p,h⟩
  ·refine Qa hC [.S 12 (.b true),.n 6,.K [0,17] []] rfl (tc_ p) ?_
   cases h
   exact AK.met rfl
  obtain⟨J,B,h⟩:=Qc h
  obtain⟨L,D,h⟩:=Qc h
  refine Qa hC [.S 12 (.b false),.n 1,.o (.num J),.o (.c false [.d] (.b L)),.n 3,.K [0,17] []] rfl ⟨⟨(tc_ p),B⟩,(QoG _ D)⟩ ?_
  cases h
  exact AK.met rfl
 rintro σ rfl
 replace h:QiR l z=some r:=h
 refine tg_ hC [.n 1] rfl ?_
 refine bg_ h (fun a h=>Qa hC [.T,.n 7,.K [2] []] rfl ⟨tt_,a⟩ ?_) fun a h=>Qa hC [.F,.n 11,.K [0,19,20] []] rfl ⟨tt_,a⟩ ?_
 ·cases h
  exact d1_ rfl rfl tt_
 obtain⟨E,v,h⟩:=Qc h
 refine AK.loop (body:=(fun st=>QiO l st)) (fun st σ=>σ=⟨[(0,.s l),(19,.I (l.size:Int)),(20,.I st)],[]⟩) (Sum.elim (fun q e σ=>e=.ret∧σ=⟨[(2,.b false)],[]⟩) (fun q e σ=>e=.exit 0∧σ=⟨[],[]⟩)) v rfl ?_ ?_
 ·rintro t o σ rfl h
  refine tg_ hC [.n 6] rfl ?_
  rcases Qt h with⟨f,h⟩|⟨f,h⟩
  ·obtain⟨G,w,h⟩:=Qc h
   refine Qa hC [.T,.n 14,.o (.num G),.n 4] rfl ⟨⟨tt_,f⟩,w⟩ ?_
   obtain⟨u,x,h⟩:=Qc h
   replace h:QiN t u=some o:=h
   refine AK.meetX (fun σ=>σ=⟨[(0,.s l),(19,.I (l.size:Int)),(20,.I t),(40,.b u)],[]⟩) ?_ ?_
   ·replace h:=x
    obtain⟨H,y,h⟩:=Qc h
    refine Qa hC [.n 2,.o (.c false [.d] (.b H)),.n 2] rfl ⟨tt_,(QoG _ y)⟩ ?_
    refine bg_ h (fun g h=>Qa hC [.S 29 (.b true),.n 3] rfl (tc_ g) ?_) fun g h=>Qa hC [.S 29 (.b false),.n 12,.K [0,19,20,40] []] rfl (tc_ g) ?_
    ·refine bg_ h (fun i h=>Qa hC [.S 32 (.b true),.n 9,.K [0,19,20,40] []] rfl (tc_ i) ?_) fun i h=>Qa hC [.S 32 (.b false),.n 5] rfl (tc_ i) ?_
     ·cases h
      exact AK.met rfl
     refine bg_ h (fun j h=>Qa hC [.S 37 (.b true),.n 4,.K [0,19,20,40] []] rfl (tc_ j) ?_) fun j h=>Qa hC [.S 37 (.b false),.n 4,.K [0,19,20,40] []] rfl (tc_ j) ?_
     ·cases h
      exact AK.met rfl
     cases h
     exact AK.met rfl
    cases h
    exact AK.met rfl
   rintro σ rfl
   replace h:QiN t u=some o:=h
   refine tg_ hC [.n 1] rfl ?_
   refine bg_ h (fun k h=>Qa hC [.T,.n 8,.K [2] []] rfl ⟨tt_,k⟩ ?_) fun k h=>Qa hC [.F,.n 7,.K [0,19,20] []] rfl ⟨tt_,k⟩ ?_
   ·cases h
    exact Qal rfl (an_ rfl rfl)
   cases h
   exact QZ rfl rfl
  refine Qa hC [.F,.n 2,.K [] []] rfl ⟨tt_,f⟩ ?_
  cases h
  exact Q1 rfl (an_ rfl rfl)
 rcases E with(_ | _)
 ·replace h:QiP=some r:=h
  rintro e σ ⟨rfl,rfl⟩
  refine tg_ hC [.n 2] rfl ?_
  cases h
  exact d1_ rfl rfl tt_
 replace h:QiQ=some r:=h
 rintro e σ ⟨rfl,rfl⟩
 refine tg_ hC [.n 8] rfl ?_
 cases h
 exact d1_ rfl rfl tt_
def Qo7 (a:ByteArray)(c:QSB):Option Bool:=
 (Qha a).bind fun b=>
 bif (!b)then
 some true
 else
 some ((QR c a).getD false)
def QhY (c:Int)(d:QSB)(a:ByteArray)(b:Bool):Option ((Int×QSB)⊕(Unit⊕Unit)):=
 bif b then
 some (.inr (.inl ()))
 else
 some (.inl ((w64 (c+1)),(QaR ltS d a true)))
def QhZ (d:(List ByteArray))(b:Int)(e:QSB):Option ((Int×QSB)⊕(Unit⊕Unit)):=
 bif (decide (b<(d.length:Int)))then
 (idx d b).bind fun a=>
 (Qo7 a e).bind (fun c=>QhY b e a c)
 else
 some (.inr (.inr ()))
def Qh0 : Option Bool:=
 some false
def Qh1 : Option Bool:=
 some true
def Qlo (a:(List ByteArray)):Option Bool:=
 (QE (fun st=>QhZ a st.1 st.2) (0,([]:QSB))).bind (Sum.elim (fun q=>Qh0) (fun q=>Qh1))
theorem Qvz (j){r}(h:Qlo j=some r):Qd prog 244 [.sl 1 (j.map Qet)] [] (Gives (.b r) []):=by
 refine Qd.walk 24 func244 rfl rfl rfl fun C hC=>?_
 refine Qa hC [.n 8,.O 6 (.map (QB V.s V.b ([]:QSB))),.n 7,.o (.ln j.length),.n 4,.K [3,7,8,9] [6]] rfl ⟨⟨tt_,rfl⟩,Qg⟩ ?_
 obtain⟨B,u,h⟩:=Qc h
 refine AK.loop (body:=(fun st=>QhZ j st.1 st.2)) (fun st σ=>σ=⟨[(3,.map 6),(7,.sl 1 (j.map Qet)),(8,.I (j.length:Int)),(9,.I st.1)],[(6,.map (QB V.s V.b st.2))]⟩) (Sum.elim (fun q e σ=>e=.ret∧σ=⟨[(2,.b false)],[]⟩) (fun q e σ=>e=.exit 0∧σ=⟨[],[]⟩)) u rfl ?_ ?_
 ·rintro ⟨D,m⟩ o σ rfl h
  refine tg_ hC [.n 6] rfl ?_
  rcases Qt h with⟨p,h⟩|⟨p,h⟩
  ·obtain⟨a,w,h⟩:=Qc h
   refine Qa hC [.T,.n 6,.o (.row (Qet a)),.n 6] rfl ⟨⟨tt_,p⟩,(QJ w)⟩ ?_
   obtain⟨t,y,h⟩:=Qc h
   replace h:QhY D m a t=some o:=h
   refine AK.meetX (fun σ=>σ=⟨[(3,.map 6),(5,.s a),(7,.sl 1 (j.map Qet)),(8,.I (j.length:Int)),(9,.I D),(20,.b t)],[(6,.map (QB V.s V.b m))]⟩) ?_ ?_
   ·replace h:=y
    obtain⟨E,A,h⟩:=Qc h
    refine Qa hC [.n 2,.o (.c false [.d] (.b E)),.n 2] rfl ⟨tt_,(QmW _ A)⟩ ?_
    refine bg_ h (fun g h=>Qa hC [.S 16 (.b true),.n 5,.K [3,5,7,8,9,20] [6]] rfl (tc_ g) ?_) fun g h=>Qa hC [.S 16 (.b false),.n 2,.o (.any (.b ((QR m a).getD false)) none),.n 2,.K [3,5,7,8,9,20] [6]] rfl ⟨(tc_ g),(fun σ G H _=>Stp.lookup (e:=V.s) (f:=V.b) (l:=m) (k:=a) (z:=false) rfl rfl (QH hC.n rfl) (G _ _ rfl) (H _ _ rfl) (G _ _ rfl) Qxa QBz QEF rfl)⟩ ?_
    ·cases h
     exact AK.met rfl
    cases h
    exact AK.met rfl
   rintro σ rfl
   replace h:QhY D m a t=some o:=h
   refine tg_ hC [.n 1] rfl ?_
   refine bg_ h (fun i h=>Qa hC [.T,.n 9,.K [2] []] rfl ⟨tt_,i⟩ ?_) fun i h=>Qa hC [.F,.n 5,.x (fun σ=>σ.set 6 (.map (QB V.s V.b (QaR ltS m a true)))),.n 7,.K [3,7,8,9] [6]] rfl ⟨⟨tt_,i⟩,(Stp.mapUpdate (e:=V.s) (f:=V.b) (l:=m) (k:=a) (v:=true) ltS rfl rfl rfl rfl rfl rfl Qxa QBz rfl)⟩ ?_
   ·cases h
    exact Qal rfl (an_ rfl rfl)
   cases h
   exact QZ rfl rfl
  refine Qa hC [.F,.n 2,.K [] []] rfl ⟨tt_,p⟩ ?_
  cases h
  exact Q1 rfl (an_ rfl rfl)
 rcases B with(_ | _)
 ·replace h:Qh0=some r:=h
  rintro e σ ⟨rfl,rfl⟩
  refine tg_ hC [.n 2] rfl ?_
  cases h
  exact d1_ rfl rfl tt_
 replace h:Qh1=some r:=h
 rintro e σ ⟨rfl,rfl⟩
 refine tg_ hC [.n 8] rfl ?_
 cases h
 exact d1_ rfl rfl tt_
def Qdy : Option Int:=
 some 0
def QmB (b:QO)(a:(List Int)):Option Int:=
 bif (b.Kind==1)then
 (QmA b.Lo b.Hi).bind fun e=>
 some e
 else
 bif (b.Kind==2)then
 (Qlo b.Names).bind fun f=>
 bif f then
 some (b.Names.length:Int)
 else
 Qdy
 else
 bif (b.Kind==3)then
 bif ((decide (0≤(min2 b.First b.Then)))&&(decide ((max2 b.First b.Then)<(a.length:Int))))then
 (idx a b.First).bind fun c=>
 (idx a b.Then).bind fun d=>
 some (w64 (c*d))
 else
 Qdy
 else
 Qdy
theorem Qwp (f e){r}(h:QmB f e=some r):Qd prog 226 [.agg (QF f),.sl 1 (e.map Qb)] [] (Gives (.I r) []):=by
 refine Qd.walk 51 func226 rfl rfl rfl fun C hC=>?_
 refine tg_ hC [.n 6] rfl ?_
 refine AK.meet (fun σ=>σ=⟨[],[]⟩∧Qdy=some r) ?_ ?_
 ·refine tg_ hC [.n 13] rfl ?_
  rcases Qt h with⟨k,h⟩|⟨k,h⟩
  ·obtain⟨w,s,h⟩:=Qc h
   refine Qa hC [.T,.n 6,.o (.c false [.d,.d] (.I w)),.n 6] rfl ⟨⟨tt_,k⟩,(Qwo _ _ s)⟩ ?_
   cases h
   exact d1_ rfl rfl tt_
  refine Qa hC [.F,.n 6] rfl ⟨tt_,k⟩ ?_
  rcases Qt h with⟨l,h⟩|⟨l,h⟩
  ·obtain⟨x,t,h⟩:=Qc h
   refine Qa hC [.T,.n 4,.o (.c false [.d] (.b x)),.n 2] rfl ⟨⟨tt_,l⟩,(Qvz _ t)⟩ ?_
   refine bg_ h (fun m h=>Qa hC [.T,.n 4,.o (.ln f.Names.length),.n 6,.K [4] []] rfl ⟨⟨tt_,m⟩,Qg⟩ ?_) fun m h=>Qa hC [.F,.n 2,.K [] []] rfl ⟨tt_,m⟩ ?_
   ·cases h
    exact d1_ rfl rfl tt_
   exact AK.met (an_ rfl h)
  refine Qa hC [.F,.n 6] rfl ⟨tt_,l⟩ ?_
  refine bg_ h (fun i h=>Qa hC [.T,.n 1] rfl ⟨tt_,i⟩ ?_) fun i h=>Qa hC [.F,.n 2,.K [] []] rfl ⟨tt_,i⟩ ?_
  ·refine AK.meetX (fun σ=>σ=⟨[(1,.sl 1 (e.map Qb)),(2,.loc 2 0 0),(39,.b ((decide (0≤(min2 f.First f.Then)))&&(decide ((max2 f.First f.Then)<(e.length:Int)))))],[(2,.var (QF f))]⟩) ?_ ?_
   ·refine tg_ hC [.n 8] rfl ?_
    rcases Q0 (decide (0≤(min2 f.First f.Then)))with g | g
    ·refine Qa hC [.S 30 (.b true),.n 6,.o (.ln e.length),.n 3,.S 39 (.b ((decide (0≤(min2 f.First f.Then)))&&(decide ((max2 f.First f.Then)<(e.length:Int))))),.K [1,2,39] [2]] rfl ⟨⟨(tc_ g),Qg⟩,(congrArg V.b (Qcy g rfl))⟩ ?_
     exact AK.met rfl
    refine Qa hC [.S 30 (.b false),.n 10,.S 39 (.b ((decide (0≤(min2 f.First f.Then)))&&(decide ((max2 f.First f.Then)<(e.length:Int))))),.K [1,2,39] [2]] rfl ⟨(tc_ g),(congrArg V.b (QeJ g rfl))⟩ ?_
    exact AK.met rfl
   rintro σ rfl
   refine tg_ hC [.n 1] rfl ?_
   rcases Qt h with⟨j,h⟩|⟨j,h⟩
   ·obtain⟨u,p,h⟩:=Qc h
    obtain⟨v,q,h⟩:=Qc h
    refine Qa hC [.T,.n 1,.K [1,2] [2]] rfl ⟨tt_,j⟩ ?_
    refine AK.draw2 Qs hC mixed [.N,.N,.N,.a (.row (Qb u)) none false,.N,.N,.N,.N,.a (.row (Qb v)) none false,.N,.N,.N] [] [] [4] [] rfl rfl rfl ⟨⟨tt_,(QJ p)⟩,(QJ q)⟩ rfl (by kernel_rfl) rfl rfl rfl ?_
    refine tg_ hC [.n 4] rfl ?_
    cases h
    exact d1_ rfl rfl tt_
   refine Qa hC [.F,.n 2,.K [] []] rfl ⟨tt_,j⟩ ?_
   exact AK.met (an_ rfl h)
  exact AK.met (an_ rfl h)
 rintro σ ⟨rfl,h⟩
 refine tg_ hC [.n 6] rfl ?_
 cases h
 exact d1_ rfl rfl tt_
def Qo8 (a:QO)(d:QSB)(b:Int):Option Bool:=
 (Qha a.Name).bind fun c=>
 bif (!c)then
 some true
 else
 bif ((QR d a.Name).getD false)then
 some true
 else
 bif (decide (b<1))then
 some true
 else
 some (decide (1024<b))
def Qh2 (a:(List Int))(b:Int)(e:Int)(f:QSB)(c:QO)(d:Bool):Option ((Int×QSB×(List Int))⊕(Unit⊕(List Int))):=
 bif d then
 some (.inr (.inl ()))
 else
 (chk (decide (a.length+([b]:List Int).length≤4294967296))).bind fun _=>
 some (.inl ((w64 (e+1)),(QaR ltS f c.Name true),(a++([b]:List Int))))
def Qh3 (f:(List QO))(d:Int)(g:QSB)(a:(List Int)):Option ((Int×QSB×(List Int))⊕(Unit⊕(List Int))):=
 bif (decide (d<(f.length:Int)))then
 (idx f d).bind fun b=>
 (QmB b a).bind fun c=>
 (Qo8 b g c).bind (fun e=>Qh2 a c d g b e)
 else
 some (.inr (.inr a))
def Qo9 : Option ((List Int)×Bool):=
 some (([]:List Int),false)
def Qpa (a:(List Int)):Option ((List Int)×Bool):=
 some (a,true)
def Qii (a:(List QO)):Option ((List Int)×Bool):=
 bif (decide (32<(a.length:Int)))then
 some (([]:List Int),false)
 else
 (QE (fun st=>Qh3 a st.1 st.2.1 st.2.2) (0,([]:QSB),([]:List Int))).bind (Sum.elim (fun q=>Qo9) (fun q=>Qpa q))
theorem Qpb (w){r}(h:Qii w=some r):Qd prog 180 [.sl 7 (w.map QF)] [] (Gives (.tup [.sl 1 (r.1.map Qb),.b r.2]) []):=by
 refine Qd.walk 49 func180 rfl rfl rfl fun C hC=>?_
 refine Qa hC [.n 10,.o (.ln w.length),.n 3] rfl ⟨tt_,Qg⟩ ?_
 refine bg_ h (fun y h=>Qa hC [.T,.n 8,.denil 2 [some 1],.K [2,3] []] rfl ⟨tt_,y⟩ ?_) fun y h=>Qa hC [.F,.n 5,.O 12 (.map (QB V.s V.b ([]:QSB))),.n 12,.o (.ln w.length),.n 4,.adopt 5 43 1,.O 43 (.arr 1 (([]:List Int).map Qb)),.S 5 (.own 43 ([]:List Int).length),.K [4,5,13,14,15] [12,43]] rfl ⟨⟨⟨⟨⟨tt_,y⟩,rfl⟩,Qg⟩,rfl⟩,(congrArg (fun n=>V.own 43 n) (by simp))⟩ ?_
 ·cases h
  exact d2_ rfl rfl rfl tt_
 obtain⟨N,D,h⟩:=Qc h
 refine AK.loop (body:=(fun st=>Qh3 w st.1 st.2.1 st.2.2)) (fun st σ=>σ=⟨[(4,.map 12),(5,.own 43 st.2.2.length),(13,.sl 7 (w.map QF)),(14,.I (w.length:Int)),(15,.I st.1)],[(12,.map (QB V.s V.b st.2.1)),(43,.arr 1 (st.2.2.map Qb))]⟩) (Sum.elim (fun q e σ=>e=.ret∧σ=⟨[(2,.lit (.slice none 0 0)),(3,.b false)],[]⟩) (fun q e σ=>e=.exit 0∧σ=⟨[(5,.own 43 q.length)],[(43,.arr 1 (q.map Qb))]⟩)) D rfl ?_ ?_
 ·rintro ⟨P,A,g⟩ o σ rfl h
  refine tg_ hC [.n 6] rfl ?_
  rcases Qt h with⟨j,h⟩|⟨j,h⟩
  ·obtain⟨a,E,h⟩:=Qc h
   obtain⟨i,G,h⟩:=Qc h
   refine Qa hC [.T,.n 6,.o (.row (QF a)),.v .no [] (.agg (QF a)),.n 2,.O 7 (.var (QF a)),.n 4,.v .no [] (.agg (QF a)),.n 1,.o (.c true [.d,.o (g.map Qb)] (.I i)),.n 5] rfl ⟨⟨⟨⟨⟨⟨tt_,j⟩,(QJ E)⟩,rfl⟩,rfl⟩,rfl⟩,⟨(Qm2 rfl),(Qwp _ _ G)⟩⟩ ?_
   obtain⟨B,H,h⟩:=Qc h
   replace h:Qh2 g i P A a B=some o:=h
   refine AK.meetX (fun σ=>σ=⟨[(4,.map 12),(5,.own 43 g.length),(7,.loc 7 0 0),(8,.I i),(13,.sl 7 (w.map QF)),(14,.I (w.length:Int)),(15,.I P),(39,.b B)],[(7,.var (QF a)),(12,.map (QB V.s V.b A)),(43,.arr 1 (g.map Qb))]⟩) ?_ ?_
   ·replace h:=H
    obtain⟨U,J,h⟩:=Qc h
    refine Qa hC [.n 3,.o (.c false [.d] (.b U)),.n 2] rfl ⟨tt_,(QmW _ J)⟩ ?_
    refine bg_ h (fun m h=>Qa hC [.S 26 (.b true),.n 14,.K [4,5,7,8,13,14,15,39] [7,12,43]] rfl (tc_ m) ?_) fun m h=>Qa hC [.S 26 (.b false),.n 3,.o (.any (.b ((QR A a.Name).getD false)) none),.n 2] rfl ⟨(tc_ m),(fun σ W X _=>Stp.lookup (e:=V.s) (f:=V.b) (l:=A) (k:=a.Name) (z:=false) rfl rfl (QH hC.n rfl) (W _ _ rfl) (X _ _ rfl) (W _ _ rfl) Qxa QBz QEF rfl)⟩ ?_
    ·cases h
     exact AK.met rfl
    refine bg_ h (fun p h=>Qa hC [.S 32 (.b true),.n 8,.K [4,5,7,8,13,14,15,39] [7,12,43]] rfl (tc_ p) ?_) fun p h=>Qa hC [.S 32 (.b false),.n 4] rfl (tc_ p) ?_
    ·cases h
     exact AK.met rfl
    refine bg_ h (fun t h=>Qa hC [.S 36 (.b true),.n 4,.K [4,5,7,8,13,14,15,39] [7,12,43]] rfl (tc_ t) ?_) fun t h=>Qa hC [.S 36 (.b false),.n 4,.K [4,5,7,8,13,14,15,39] [7,12,43]] rfl (tc_ t) ?_
    ·cases h
     exact AK.met rfl
    cases h
    exact AK.met rfl
   rintro σ rfl
   replace h:Qh2 g i P A a B=some o:=h
   refine tg_ hC [.n 1] rfl ?_
   rcases Qt h with⟨u,h⟩|⟨u,h⟩
   ·refine Qa hC [.T,.n 10,.K [2,3] []] rfl ⟨tt_,u⟩ ?_
    cases h
    exact Qal rfl (an_ rfl rfl)
   obtain⟨L,h⟩:=QaE h
   refine Qa hC [.F,.n 7,.x (fun σ=>σ.set 12 (.map (QB V.s V.b (QaR ltS A a.Name true)))),.n 5,.v (.bd []) [] (.sl 1 (([i]:List Int).map Qb)),.app ((g++([i]:List Int)).map Qb) (g++([i]:List Int)).length,.n 8,.K [4,5,13,14,15] [12,43]] rfl ⟨⟨⟨⟨tt_,u⟩,(Stp.mapUpdate (e:=V.s) (f:=V.b) (l:=A) (k:=a.Name) (v:=true) ltS rfl rfl rfl rfl rfl rfl Qxa QBz rfl)⟩,rfl⟩,⟨Qg,Qgj L Qg,Qc1,QfN Qg⟩⟩ ?_
   cases h
   exact QZ rfl rfl
  refine Qa hC [.F,.n 2,.K [5] [43]] rfl ⟨tt_,j⟩ ?_
  cases h
  exact Q1 rfl (an_ rfl rfl)
 rcases N with(_ | M)
 ·replace h:Qo9=some r:=h
  rintro e σ ⟨rfl,rfl⟩
  refine tg_ hC [.n 2,.denil 2 [some 1]] rfl ?_
  cases h
  exact d2_ rfl rfl rfl tt_
 replace h:Qpa M=some r:=h
 rintro e σ ⟨rfl,rfl⟩
 refine Qa hC [.n 10,.frz 43 (M.map Qb) [2] []] rfl ⟨tt_,⟨tt_,(Qci Qg)⟩⟩ ?_
 cases h
 exact d2_ rfl rfl rfl tt_
def Qlp (a:(List QO)):Option Bool:=
 (Qii a).bind fun b=>
 some b.2
theorem QvA (e){r}(h:Qlp e=some r):Qd prog 110 [.sl 7 (e.map QF)] [] (Gives (.b r) []):=by
 refine Qd.walk 11 func110 rfl rfl rfl fun C hC=>?_
 obtain⟨f,a,h⟩:=Qc h
 refine Qa hC [.n 8,.o (.c false [.d] (.tup [.sl 1 (f.1.map Qb),.b f.2])),.n 14] rfl ⟨tt_,(Qpb _ a)⟩ ?_
 cases h
 exact d1_ rfl rfl tt_
def QgU (b:Qk)(a:Int):Option Bool:=
 (chk (decide (0≤(w64 (a+1)))&&decide (0≤(w64 (a+1)).toNat)&&decide ((w64 (a+1)).toNat≤b.Colours.length))).bind fun _=>
 (Qlp ((b.Colours.drop 0).take ((w64 (a+1)).toNat-0))).bind fun c=>
 some c
theorem QrP (e f){r}(h:QgU e f=some r):Qd prog 109 [.loc 615 0 0,.loc 616 0 0] [(615,.var (Qe e)),(616,.var (Qb f))] (Gives (.b r) [(615,.var (Qe e)),(616,.var (Qb f))]):=by
 refine Qd.walk 9 func109 rfl rfl rfl fun C hC=>?_
 obtain⟨a,h⟩:=QaE h
 obtain⟨j,g,h⟩:=Qc h
 refine Qa hC [.n 11,.o (.any (.sl 7 (((e.Colours.drop 0).take ((w64 (f+1)).toNat-0)).map QF)) none),.o (.c false [.d] (.b j)),.n 4] rfl ⟨⟨tt_,(fun σ i k _=>Stp.sliceD rfl rfl (QH hC.n rfl) (i _ _ rfl) (Qs.es rfl) Bnd.no (Bnd.val (i _ _ rfl) (QV (Qum a)) rfl) (QV (Qun a)) (Qaw (QV (Quo a)) (Nat.le_of_eq Qg.symm)) Qw7)⟩,(QvA _ g)⟩ ?_
 cases h
 exact d1_ rfl rfl ⟨rfl,rfl,tt_⟩
def Qqc (x:ByteArray):Option (List ByteArray):=(chk (QzN x)).bind fun _=>some (Qg9 x)
theorem QtQ (x){r}(h:Qqc x=some r):Qd prog 242 [.s x] [] (Gives (.own 600 r.length) [(600,.arr 1 (r.map Qet))]):=by
 obtain⟨_,a,h⟩:=Qc h
 cases h
 exact QyZ QCk (by kernel_rfl) (by kernel_rfl) x (Qzq a)
def Qjh  : Option (List ByteArray):=
 (Qqc (⟨#[99,111,108,111,117,114,32,112,108,97,99,101,32,116,97,115,107,32,118,97,114,32,119,104,101,110,32,106,111,105,110,32,115,112,108,105,116,32,105,110,32,111,117,116,32,99,97,110,99,101,108,32,97,102,116,101,114,32,109,97,110,121,32,102,114,111,109,32,116,111,32,105,110,116,32,101,110,117,109,32,112,97,105,114,32,97,110,100,32,120,111,114,32,111,114,32,105,102]⟩:ByteArray)).bind fun a=>
 some a
theorem Qwq  {r:(List ByteArray)}(h:Qjh  = some r):Qd prog 225 [] [] (Gives (.own 600 r.length) [(600,.arr 1 (r.map Qet))]):=by
 refine Qd.walk 2 func225 rfl rfl rfl fun C hC=>?_
 obtain⟨b,a,h⟩:=Qc h
 refine Qa hC [.n 7,.o (.co false [.d] 1 (b.map Qet) b.length),.n 4,.K [0] [1],.ren 1 600] rfl ⟨tt_,⟨(QtQ _ a),Qg,.inl rfl⟩⟩ ?_
 cases h
 exact d1_ rfl rfl ⟨rfl,tt_⟩
def Qcp (b:(List ByteArray))(c:ByteArray)(a:Int):Option (Int⊕(Int⊕Unit)):=
 bif (decide (a<(b.length:Int)))then
 (idx b a).bind fun d=>
 bif (QiF c d)then
 some (.inr (.inl a))
 else
 some (.inl (w64 (a+1)))
 else
 some (.inr (.inr ()))
def Qcq (a:Int):Option Int:=
 some a
def Qcr : Option Int:=
 some (-1)
def Qc3 (a:(List ByteArray))(b:ByteArray):Option Int:=
 (QE (fun st=>Qcp a b st) 0).bind (Sum.elim (fun q=>Qcq q) (fun q=>Qcr))
theorem Qm6 (c f){r}(h:Qc3 c f=some r):Qd prog 241 [.sl 1 (c.map Qet),.s f] [] (Gives (.I r) []):=by
 refine Qd.walk 19 func241 rfl rfl rfl fun C hC=>?_
 refine Qa hC [.n 9,.o (.ln c.length),.n 4,.K [0,1,7,8] []] rfl ⟨tt_,Qg⟩ ?_
 obtain⟨g,d,h⟩:=Qc h
 refine AK.loop (body:=(fun st=>Qcp c f st)) (fun st σ=>σ=⟨[(0,.sl 1 (c.map Qet)),(1,.s f),(7,.I (c.length:Int)),(8,.I st)],[]⟩) (Sum.elim (fun q e σ=>e=.ret∧σ=⟨[(4,.I q)],[]⟩) (fun q e σ=>e=.exit 0∧σ=⟨[],[]⟩)) d rfl ?_ ?_
 ·rintro l o σ rfl h
  refine tg_ hC [.n 6] rfl ?_
  rcases Qt h with⟨b,h⟩|⟨b,h⟩
  ·obtain⟨j,i,h⟩:=Qc h
   refine Qa hC [.T,.n 15,.o (.row (Qet j)),.n 4] rfl ⟨⟨tt_,b⟩,(QJ i)⟩ ?_
   refine bg_ h (fun a h=>Qa hC [.T,.n 9,.K [4] []] rfl ⟨tt_,a⟩ ?_) fun a h=>Qa hC [.F,.n 7,.K [0,1,7,8] []] rfl ⟨tt_,a⟩ ?_
   ·cases h
    exact Qal rfl (an_ rfl rfl)
   cases h
   exact QZ rfl rfl
  refine Qa hC [.F,.n 2,.K [] []] rfl ⟨tt_,b⟩ ?_
  cases h
  exact Q1 rfl (an_ rfl rfl)
 rcases g with(k | _)
 ·replace h:Qcq k=some r:=h
  rintro e σ ⟨rfl,rfl⟩
  refine tg_ hC [.n 2] rfl ?_
  cases h
  exact d1_ rfl rfl tt_
 replace h:Qcr=some r:=h
 rintro e σ ⟨rfl,rfl⟩
 refine tg_ hC [.n 8] rfl ?_
 cases h
 exact d1_ rfl rfl tt_
def Qcs (a:(List ByteArray))(b:ByteArray):Option Bool:=
 (Qc3 a b).bind fun c=>
 some (decide (0≤c))
theorem QlS (e f){r}(h:Qcs e f=some r):Qd prog 224 [.sl 1 (e.map Qet),.s f] [] (Gives (.b r) []):=by
 refine Qd.walk 9 func224 rfl rfl rfl fun C hC=>?_
 obtain⟨g,a,h⟩:=Qc h
 refine Qa hC [.n 9,.o (.c false [.d,.d] (.I g)),.n 5] rfl ⟨tt_,(Qm6 _ _ a)⟩ ?_
 cases h
 exact d1_ rfl rfl tt_
def Qnp (a:ByteArray):Option Bool:=
 (Qjh).bind fun b=>
 (Qcs b a).bind fun c=>
 some c
theorem Qxb (g){r}(h:Qnp g=some r):Qd prog 178 [.s g] [] (Gives (.b r) []):=by
 refine Qd.walk 6 func178 rfl rfl rfl fun C hC=>?_
 obtain⟨a,e,h⟩:=Qc h
 obtain⟨i,f,h⟩:=Qc h
 refine Qa hC [.n 7,.o (.co false [] 1 (a.map Qet) a.length),.n 1,.o (.c true [.o (a.map Qet),.d] (.b i)),.n 4] rfl ⟨⟨tt_,⟨(Qwq  e),Qg,.inl rfl⟩⟩,⟨(Qm2 rfl),(QlS _ _ f)⟩⟩ ?_
 cases h
 exact d1_ rfl rfl tt_
def Qrf (a:ByteArray):Option Bool:=
 (Qha a).bind fun b=>
 bif b then
 (Qnp a).bind fun c=>
 some (!c)
 else
 some false
def QjW (a:Bool):Option Bool:=
 some a
def Qfa (a:ByteArray):Option Bool:=
 (Qrf a).bind (fun b=>QjW b)
theorem Qho (j){r}(h:Qfa j=some r):Qd prog 106 [.s j] [] (Gives (.b r) []):=by
 refine Qd.walk 10 func106 rfl rfl rfl fun C hC=>?_
 refine tg_ hC [.n 6] rfl ?_
 obtain⟨e,f,h⟩:=Qc h
 replace h:QjW e=some r:=h
 refine AK.meetX (fun σ=>σ=⟨[(2,.b e)],[]⟩) ?_ ?_
 ·replace h:=f
  obtain⟨k,g,h⟩:=Qc h
  refine Qa hC [.n 2,.o (.c false [.d] (.b k)),.n 1] rfl ⟨tt_,(QmW _ g)⟩ ?_
  rcases Qt h with⟨a,h⟩|⟨a,h⟩
  ·obtain⟨l,i,h⟩:=Qc h
   refine Qa hC [.S 5 (.b true),.n 1,.o (.c false [.d] (.b l)),.n 4,.K [2] []] rfl ⟨(tc_ a),(Qxb _ i)⟩ ?_
   cases h
   exact AK.met rfl
  refine Qa hC [.S 5 (.b false),.n 6,.K [2] []] rfl (tc_ a) ?_
  cases h
  exact AK.met rfl
 rintro σ rfl
 replace h:QjW e=some r:=h
 refine tg_ hC [.n 2] rfl ?_
 cases h
 exact d1_ rfl rfl tt_
def Qfo (a:ByteArray):Option Bool:=
 (Qfa a).bind fun b=>
 some (!b)
theorem Qqd (e){r}(h:Qfo e=some r):Qd prog 108 [.s e] [] (Gives (.b r) []):=by
 refine Qd.walk 6 func108 rfl rfl rfl fun C hC=>?_
 obtain⟨f,a,h⟩:=Qc h
 refine Qa hC [.n 8,.o (.c false [.d] (.b f)),.n 5] rfl ⟨tt_,(Qho _ a)⟩ ?_
 cases h
 exact d1_ rfl rfl tt_
def QbC (b:(List ByteArray))(a:Int):Option (Int⊕(Int⊕Unit)):=
 bif (decide (a<(b.length:Int)))then
 (idx b a).bind fun c=>
 (Qfo c).bind fun d=>
 bif d then
 some (.inr (.inl a))
 else
 some (.inl (w64 (a+1)))
 else
 some (.inr (.inr ()))
def QbD (a:Int):Option Int:=
 some a
def QbE : Option Int:=
 some (-1)
def Qcd (a:(List ByteArray)):Option Int:=
 (QE (fun st=>QbC a st) 0).bind (Sum.elim (fun q=>QbD q) (fun q=>QbE))
theorem Qlq (g){r}(h:Qcd g=some r):Qd prog 179 [.sl 1 (g.map Qet),.clo (.func 108) [] []] [] (Gives (.I r) []):=by
 refine Qd.walk 19 func179 rfl rfl rfl fun C hC=>?_
 refine Qa hC [.n 9,.o (.ln g.length),.n 4,.K [0,1,7,8] []] rfl ⟨tt_,Qg⟩ ?_
 obtain⟨j,i,h⟩:=Qc h
 refine AK.loop (body:=(fun st=>QbC g st)) (fun st σ=>σ=⟨[(0,.sl 1 (g.map Qet)),(1,.clo (.func 108) [] []),(7,.I (g.length:Int)),(8,.I st)],[]⟩) (Sum.elim (fun q e σ=>e=.ret∧σ=⟨[(4,.I q)],[]⟩) (fun q e σ=>e=.exit 0∧σ=⟨[],[]⟩)) i rfl ?_ ?_
 ·rintro t o σ rfl h
  refine tg_ hC [.n 6] rfl ?_
  rcases Qt h with⟨f,h⟩|⟨f,h⟩
  ·obtain⟨m,k,h⟩:=Qc h
   obtain⟨p,l,h⟩:=Qc h
   refine Qa hC [.T,.n 15,.o (.row (Qet m)),.n 1,.o (.c false [.d] (.b p)),.n 2] rfl ⟨⟨⟨tt_,f⟩,(QJ k)⟩,(Qqd _ l)⟩ ?_
   refine bg_ h (fun a h=>Qa hC [.T,.n 9,.K [4] []] rfl ⟨tt_,a⟩ ?_) fun a h=>Qa hC [.F,.n 7,.K [0,1,7,8] []] rfl ⟨tt_,a⟩ ?_
   ·cases h
    exact Qal rfl (an_ rfl rfl)
   cases h
   exact QZ rfl rfl
  refine Qa hC [.F,.n 2,.K [] []] rfl ⟨tt_,f⟩ ?_
  cases h
  exact Q1 rfl (an_ rfl rfl)
 rcases j with(s | _)
 ·replace h:QbD s=some r:=h
  rintro e σ ⟨rfl,rfl⟩
  refine tg_ hC [.n 2] rfl ?_
  cases h
  exact d1_ rfl rfl tt_
 replace h:QbE=some r:=h
 rintro e σ ⟨rfl,rfl⟩
 refine tg_ hC [.n 8] rfl ?_
 cases h
 exact d1_ rfl rfl tt_
def QbF (a:(List ByteArray)):Option Bool:=
 (Qcd a).bind fun b=>
 some (decide (0≤b))
theorem Qjx (c){r}(h:QbF c=some r):Qd prog 107 [.sl 1 (c.map Qet),.clo (.func 108) [] []] [] (Gives (.b r) []):=by
 refine Qd.walk 9 func107 rfl rfl rfl fun C hC=>?_
 obtain⟨e,a,h⟩:=Qc h
 refine Qa hC [.n 9,.cm (.fn) [] [] [] [.d,.d] [] (.I e),.n 5] rfl ⟨tt_,(Qlq _ a)⟩ ?_
 cases h
 exact d1_ rfl rfl tt_
def Ql5 (a:QO):Option Bool:=
 (Qfa a.Name).bind fun b=>
 bif b then
 bif (a.Kind != 2)then
 some true
 else
 (QbF a.Names).bind fun c=>
 some (!c)
 else
 some false
def QeY (a:Bool):Option Bool:=
 some a
def QgV (a:QO):Option Bool:=
 (Ql5 a).bind (fun b=>QeY b)
theorem QrQ (f){r}(h:QgV f=some r):Qd prog 105 [.loc 615 0 0] [(615,.var (QF f))] (Gives (.b r) [(615,.var (QF f))]):=by
 refine Qd.walk 16 func105 rfl rfl rfl fun C hC=>?_
 refine tg_ hC [.n 6] rfl ?_
 obtain⟨g,i,h⟩:=Qc h
 replace h:QeY g=some r:=h
 refine AK.meetX (fun σ=>σ=⟨[(1,.b g)],[(615,.var (QF f))]⟩) ?_ ?_
 ·replace h:=i
  obtain⟨l,j,h⟩:=Qc h
  refine Qa hC [.n 3,.o (.c false [.d] (.b l)),.n 1] rfl ⟨tt_,(Qho _ j)⟩ ?_
  refine bg_ h (fun a h=>Qa hC [.S 5 (.b true),.n 4] rfl (tc_ a) ?_) fun a h=>Qa hC [.S 5 (.b false),.n 12,.K [1] [615]] rfl (tc_ a) ?_
  ·rcases Qt h with⟨e,h⟩|⟨e,h⟩
   ·refine Qa hC [.S 9 (.b true),.n 8,.K [1] [615]] rfl (tc_ e) ?_
    cases h
    exact AK.met rfl
   obtain⟨m,k,h⟩:=Qc h
   refine Qa hC [.S 9 (.b false),.n 2,.cm (.fn) [] [] [] [.d,.d] [] (.b m),.n 5,.K [1] [615]] rfl ⟨(tc_ e),(Qjx _ k)⟩ ?_
   cases h
   exact AK.met rfl
  cases h
  exact AK.met rfl
 rintro σ rfl
 replace h:QeY g=some r:=h
 refine tg_ hC [.n 2] rfl ?_
 cases h
 exact d1_ rfl rfl ⟨rfl,tt_⟩
def QiS (b:Qk)(c:Int)(d:Int)(e:QO)(f:Int):Option Int:=
 (QgU b c).bind fun g=>
 bif (!g)then
 some d
 else
 (QgV e).bind fun a=>
 bif (!a)then
 some f
 else
 some 0
theorem QtR (g i j k l){r}(h:QiS g i j k l=some r):Qd prog 64 [.own 615 2] [(615,.var [.clo (.func 109) [] [.loc 616 0 0,.loc 617 0 0],.I j,.clo (.func 105) [] [.loc 618 0 0],.I l]),(616,.var (Qe g)),(617,.var (Qb i)),(618,.var (QF k))] (Gives (.I r) [(615,.var [.clo (.func 109) [] [.loc 616 0 0,.loc 617 0 0],.I j,.clo (.func 105) [] [.loc 618 0 0],.I l]),(616,.var (Qe g)),(617,.var (Qb i)),(618,.var (QF k))]):=by
 refine Qd.walk 18 func64 rfl rfl rfl fun C hC=>?_
 refine tg_ hC [.n 14] rfl ?_
 refine AK.loopN 3 (AK.rnd ?_)
 obtain⟨s,m,h⟩:=Qc h
 refine Qa hC [.n 2,.v .no [] (.b true),.n 10,.o (.any (.loc 615 0 0) none),.n 3,.O 4 (.var [.clo (.func 109) [] [.loc 616 0 0,.loc 617 0 0],.I j]),.n 6,.cm (.clo) [(615,616),(616,617)] [(616,615),(617,616)] [] [.d,.d] [(615,.var (Qe g)),(616,.var (Qb i))] (.b s),.n 3] rfl ⟨⟨⟨⟨tt_,rfl⟩,(fun σ e p _=>Stp.idxV rfl rfl (QH hC.n rfl) (e _ _ rfl) (e _ _ rfl) (Qs.es rfl) (p _ _ rfl) (by decide))⟩,rfl⟩,(QrP _ _ m)⟩ ?_
 refine bg_ h (fun c h=>Qa hC [.T,.n 13,.K [2] [615,616,617,618]] rfl ⟨tt_,c⟩ ?_) fun c h=>Qa hC [.F,.n 4,.v .no [] (.I 1),.n 2] rfl ⟨⟨tt_,c⟩,rfl⟩ ?_
 ·cases h
  exact d1_ rfl rfl ⟨rfl,rfl,rfl,rfl,tt_⟩
 refine AK.met (AK.rnd ?_)
 obtain⟨q,f,h⟩:=Qc h
 refine Qa hC [.n 2,.v .no [] (.b true),.n 10,.o (.any (.loc 615 0 2) none),.n 1,.kill 4,.n 2,.O 4 (.var [.clo (.func 105) [] [.loc 618 0 0],.I l]),.n 6,.cm (.clo) [(615,618)] [(618,615)] [] [.d] [(615,.var (QF k))] (.b q),.n 3] rfl ⟨⟨⟨⟨tt_,rfl⟩,(fun σ e p _=>Stp.idxV rfl rfl (QH hC.n rfl) (e _ _ rfl) (e _ _ rfl) (Qs.es rfl) (p _ _ rfl) (by decide))⟩,rfl⟩,(QrQ _ f)⟩ ?_
 refine bg_ h (fun a h=>Qa hC [.T,.n 13,.K [2] [615,616,617,618]] rfl ⟨tt_,a⟩ ?_) fun a h=>Qa hC [.F,.n 4,.v .no [] (.I 2),.n 2] rfl ⟨⟨tt_,a⟩,rfl⟩ ?_
 ·cases h
  exact d1_ rfl rfl ⟨rfl,rfl,rfl,rfl,tt_⟩
 refine AK.met (AK.rnd ?_)
 refine Qa hC [.n 2,.v .no [] (.b false),.n 15] rfl ⟨tt_,rfl⟩ ?_
 cases h
 exact d1_ rfl rfl ⟨rfl,rfl,rfl,rfl,tt_⟩
def Qh4 (a:Int)(b:QO)(c:Qk):Option Int:=
 (QiS c a 8 b 8).bind fun d=>
 some d
theorem Qtb (b c a){r}(h:Qh4 b c a=some r):Qd prog 104 [.I b,.agg (QF c),.loc 615 0 0] [(615,.var (Qe a))] (Gives (.I r) [(615,.var (Qe a))]):=by
 refine Qd.walk 16 func104 rfl rfl rfl fun C hC=>?_
 obtain⟨f,e,h⟩:=Qc h
 refine Qa hC [.n 22,.v .no [] (.agg [.clo (.func 109) [] [.loc 615 0 0,.loc 3 0 0],.I 8]),.n 1,.v .no [] (.agg [.clo (.func 105) [] [.loc 4 0 0],.I 8]),.o (.any (.own 14 2) (some (.var [.clo (.func 109) [] [.loc 615 0 0,.loc 3 0 0],.I 8,.clo (.func 105) [] [.loc 4 0 0],.I 8]))),.cm (.fn) [(615,14),(616,615),(617,3),(618,4)] [(14,615),(615,616),(3,617),(4,618)] [] [.d] [(615,.var [.clo (.func 109) [] [.loc 616 0 0,.loc 617 0 0],.I 8,.clo (.func 105) [] [.loc 618 0 0],.I 8]),(616,.var (Qe a)),(617,.var (Qb b)),(618,.var (QF c))] (.I f),.n 4] rfl ⟨⟨⟨⟨tt_,rfl⟩,rfl⟩,(fun σ g i hf=>Stp.buildAny rfl rfl (QH hC.n rfl) (Qs.es rfl) QoB rfl (by decide) (by decide) (Qgi g rfl) rfl rfl (hf rfl))⟩,(QtR _ _ _ _ _ e)⟩ ?_
 cases h
 exact d1_ rfl rfl ⟨rfl,tt_⟩
def Qdq (d:(List QO))(e:Qk)(a:Int):Option (Int⊕((Int×Int)⊕Unit)):=
 bif (decide (a<(d.length:Int)))then
 (idx d a).bind fun c=>
 (Qh4 a c e).bind fun b=>
 bif (b != 0)then
 some (.inr (.inl (a,b)))
 else
 some (.inl (w64 (a+1)))
 else
 some (.inr (.inr ()))
def Qdr (b:Int)(a:Int):Option (Int×Int):=
 some (b,a)
def Qds : Option (Int×Int):=
 some (0,0)
def Qew (a:(List QO))(b:Qk):Option (Int×Int):=
 (QE (fun st=>Qdq a b st) 0).bind (Sum.elim (fun q=>Qdr q.1 q.2) (fun q=>Qds))
theorem QoQ (g f){r}(h:Qew g f=some r):Qd prog 103 [.sl 7 (g.map QF),.clo (.func 104) [] [.loc 615 0 0]] [(615,.var (Qe f))] (Gives (.tup [.I r.1,.I r.2]) [(615,.var (Qe f))]):=by
 refine Qd.walk 25 func103 rfl rfl rfl fun C hC=>?_
 refine Qa hC [.n 10,.o (.ln g.length),.n 4,.K [1,9,10,11] [615]] rfl ⟨tt_,Qg⟩ ?_
 obtain⟨l,i,h⟩:=Qc h
 refine AK.loop (body:=(fun st=>Qdq g f st)) (fun st σ=>σ=⟨[(1,.clo (.func 104) [] [.loc 615 0 0]),(9,.sl 7 (g.map QF)),(10,.I (g.length:Int)),(11,.I st)],[(615,.var (Qe f))]⟩) (Sum.elim (fun q e σ=>e=.ret∧σ=⟨[(4,.I q.1),(5,.I q.2)],[(615,.var (Qe f))]⟩) (fun q e σ=>e=.exit 0∧σ=⟨[],[(615,.var (Qe f))]⟩)) i rfl ?_ ?_
 ·rintro t o σ rfl h
  refine tg_ hC [.n 6] rfl ?_
  rcases Qt h with⟨a,h⟩|⟨a,h⟩
  ·obtain⟨c,j,h⟩:=Qc h
   obtain⟨m,k,h⟩:=Qc h
   refine Qa hC [.T,.n 7,.o (.row (QF c)),.v .no [] (.agg (QF c)),.n 3,.O 7 (.var (QF c)),.n 6,.v .no [] (.agg (QF c)),.cm (.clo) [(615,615)] [(615,615)] [] [.d,.d,.d] [(615,.var (Qe f))] (.I m),.n 9] rfl ⟨⟨⟨⟨⟨⟨tt_,a⟩,(QJ j)⟩,rfl⟩,rfl⟩,rfl⟩,(Qtb _ _ _ k)⟩ ?_
   refine bg_ h (fun b h=>Qa hC [.T,.n 11,.K [4,5] [615]] rfl ⟨tt_,b⟩ ?_) fun b h=>Qa hC [.F,.n 7,.K [1,9,10,11] [615]] rfl ⟨tt_,b⟩ ?_
   ·cases h
    exact Qal rfl (an_ rfl rfl)
   cases h
   exact QZ rfl rfl
  refine Qa hC [.F,.n 2,.K [] [615]] rfl ⟨tt_,a⟩ ?_
  cases h
  exact Q1 rfl (an_ rfl rfl)
 rcases l with(⟨s,p⟩|_)
 ·replace h:Qdr s p=some r:=h
  rintro e σ ⟨rfl,rfl⟩
  refine tg_ hC [.n 2] rfl ?_
  cases h
  exact d2_ rfl rfl rfl ⟨rfl,tt_⟩
 replace h:Qds=some r:=h
 rintro e σ ⟨rfl,rfl⟩
 refine tg_ hC [.n 9] rfl ?_
 cases h
 exact d2_ rfl rfl rfl ⟨rfl,tt_⟩
def Qhp (a:Qk):Option (Int×Int):=
 (Qew a.Colours a).bind fun b=>
 some (b.1,b.2)
theorem QoH (a){r}(h:Qhp a=some r):Qd prog 69 [.agg (Qe a)] [] (Gives (.tup [.I r.1,.I r.2]) []):=by
 refine Qd.walk 10 func69 rfl rfl rfl fun C hC=>?_
 obtain⟨c,b,h⟩:=Qc h
 refine Qa hC [.n 12,.cm (.fn) [(615,1)] [(1,615)] [] [.d,.d] [(615,.var (Qe a))] (.tup [.I c.1,.I c.2]),.n 7] rfl ⟨tt_,(QoQ _ _ b)⟩ ?_
 cases h
 exact d2_ rfl rfl rfl tt_
def QjX (a:QW):Option Bool:=
 (Qfa a.Name).bind fun b=>
 some b
theorem Qux (a){r}(h:QjX a=some r):Qd prog 112 [.loc 615 0 0] [(615,.var (QC a))] (Gives (.b r) [(615,.var (QC a))]):=by
 refine Qd.walk 5 func112 rfl rfl rfl fun C hC=>?_
 obtain⟨f,e,h⟩:=Qc h
 refine Qa hC [.n 9,.o (.c false [.d] (.b f)),.n 4] rfl ⟨tt_,(Qho _ e)⟩ ?_
 cases h
 exact d1_ rfl rfl ⟨rfl,tt_⟩
def QjY (a:QW)(b:QW):Option Bool:=
 some (QiF a.Name b.Name)
theorem Quy (c a){r}(h:QjY c a=some r):Qd prog 111 [.agg (QC c),.loc 615 0 0] [(615,.var (QC a))] (Gives (.b r) [(615,.var (QC a))]):=by
 refine Qd.walk 9 func111 rfl rfl rfl fun C hC=>?_
 refine tg_ hC [.n 17] rfl ?_
 cases h
 exact d1_ rfl rfl ⟨rfl,tt_⟩
def Qa0 (c:(List QW))(d:QW)(a:Int):Option (Int⊕(Int⊕Unit)):=
 bif (decide (a<(c.length:Int)))then
 (idx c a).bind fun e=>
 (QjY e d).bind fun b=>
 bif b then
 some (.inr (.inl a))
 else
 some (.inl (w64 (a+1)))
 else
 some (.inr (.inr ()))
def Qa1 (a:Int):Option Int:=
 some a
def Qa2 : Option Int:=
 some (-1)
def Qbm (a:(List QW))(b:QW):Option Int:=
 (QE (fun st=>Qa0 a b st) 0).bind (Sum.elim (fun q=>Qa1 q) (fun q=>Qa2))
theorem Qiv (g c){r}(h:Qbm g c=some r):Qd prog 181 [.sl 3 (g.map QC),.clo (.func 111) [] [.loc 615 0 0]] [(615,.var (QC c))] (Gives (.I r) [(615,.var (QC c))]):=by
 refine Qd.walk 19 func181 rfl rfl rfl fun C hC=>?_
 refine Qa hC [.n 9,.o (.ln g.length),.n 4,.K [0,1,7,8] [615]] rfl ⟨tt_,Qg⟩ ?_
 obtain⟨k,i,h⟩:=Qc h
 refine AK.loop (body:=(fun st=>Qa0 g c st)) (fun st σ=>σ=⟨[(0,.sl 3 (g.map QC)),(1,.clo (.func 111) [] [.loc 615 0 0]),(7,.I (g.length:Int)),(8,.I st)],[(615,.var (QC c))]⟩) (Sum.elim (fun q e σ=>e=.ret∧σ=⟨[(4,.I q)],[(615,.var (QC c))]⟩) (fun q e σ=>e=.exit 0∧σ=⟨[],[(615,.var (QC c))]⟩)) i rfl ?_ ?_
 ·rintro t o σ rfl h
  refine tg_ hC [.n 6] rfl ?_
  rcases Qt h with⟨f,h⟩|⟨f,h⟩
  ·obtain⟨p,l,h⟩:=Qc h
   obtain⟨m,j,h⟩:=Qc h
   refine Qa hC [.T,.n 15,.o (.row (QC p)),.v .no [] (.agg (QC p)),.cm (.clo) [(615,615)] [(615,615)] [] [.d,.d] [(615,.var (QC c))] (.b m),.n 2] rfl ⟨⟨⟨⟨tt_,f⟩,(QJ l)⟩,rfl⟩,(Quy _ _ j)⟩ ?_
   refine bg_ h (fun a h=>Qa hC [.T,.n 9,.K [4] [615]] rfl ⟨tt_,a⟩ ?_) fun a h=>Qa hC [.F,.n 7,.K [0,1,7,8] [615]] rfl ⟨tt_,a⟩ ?_
   ·cases h
    exact Qal rfl (an_ rfl rfl)
   cases h
   exact QZ rfl rfl
  refine Qa hC [.F,.n 2,.K [] [615]] rfl ⟨tt_,f⟩ ?_
  cases h
  exact Q1 rfl (an_ rfl rfl)
 rcases k with(s | _)
 ·replace h:Qa1 s=some r:=h
  rintro e σ ⟨rfl,rfl⟩
  refine tg_ hC [.n 2] rfl ?_
  cases h
  exact d1_ rfl rfl ⟨rfl,tt_⟩
 replace h:Qa2=some r:=h
 rintro e σ ⟨rfl,rfl⟩
 refine tg_ hC [.n 8] rfl ?_
 cases h
 exact d1_ rfl rfl ⟨rfl,tt_⟩
def Qa3 (a:(List QW))(b:QW):Option Bool:=
 (Qbm a b).bind fun c=>
 some (decide (0≤c))
theorem QhF (e a){r}(h:Qa3 e a=some r):Qd prog 114 [.sl 3 (e.map QC),.clo (.func 111) [] [.loc 615 0 0]] [(615,.var (QC a))] (Gives (.b r) [(615,.var (QC a))]):=by
 refine Qd.walk 9 func114 rfl rfl rfl fun C hC=>?_
 obtain⟨f,c,h⟩:=Qc h
 refine Qa hC [.n 9,.cm (.fn) [(615,615)] [(615,615)] [] [.d,.d] [(615,.var (QC a))] (.I f),.n 5] rfl ⟨tt_,(Qiv _ _ c)⟩ ?_
 cases h
 exact d1_ rfl rfl ⟨rfl,tt_⟩
def QjZ (b:Qk)(a:Int)(c:QW):Option Bool:=
 (chk (decide (0≤a)&&decide (0≤a.toNat)&&decide (a.toNat≤b.Places.length))).bind fun _=>
 (Qa3 ((b.Places.drop 0).take (a.toNat-0)) c).bind fun d=>
 some (!d)
theorem Quz (e f g){r}(h:QjZ e f g=some r):Qd prog 113 [.loc 615 0 0,.loc 616 0 0,.loc 617 0 0] [(615,.var (Qe e)),(616,.var (Qb f)),(617,.var [.clo (.func 111) [] [.loc 618 0 0]]),(618,.var (QC g))] (Gives (.b r) [(615,.var (Qe e)),(616,.var (Qb f)),(617,.var [.clo (.func 111) [] [.loc 618 0 0]]),(618,.var (QC g))]):=by
 refine Qd.walk 11 func113 rfl rfl rfl fun C hC=>?_
 obtain⟨c,h⟩:=QaE h
 obtain⟨k,j,h⟩:=Qc h
 refine tg_ hC [.n 6,.K [0,1,2,3] [615,616,617,618]] rfl ?_
 refine AK.draw2 Qs hC mixed [.N,.N,.N,.a (.any (.sl 3 (((e.Places.drop 0).take (f.toNat-0)).map QC)) none) none false,.N,.a (.any (.b k) none) none false,.N,.m .s] [] [] [3] [615,616,617,618] rfl rfl rfl ⟨⟨tt_,(fun σ i l _=>Stp.sliceD rfl rfl (QH hC.n rfl) (i _ _ rfl) (Qs.es rfl) Bnd.no (Bnd.val (i _ _ rfl) (QV (Qum c)) rfl) (QV (Qun c)) (Qaw (QV (Quo c)) (Nat.le_of_eq Qg.symm)) Qw7)⟩,(fun σ i l _=>Stp.callSame (md:=.cm (.fn) [(615,618)] [(618,615)] [] [.d,.d] [(615,.var (QC g))] (.b k) [618]) Qs hC i l rfl ⟨⟨tt_,(QhF _ _ j)⟩,⟨rfl,tt_⟩⟩)⟩ rfl (by kernel_rfl) rfl rfl rfl ?_
 refine tg_ hC [.n 2] rfl ?_
 cases h
 exact d1_ rfl rfl ⟨rfl,rfl,rfl,rfl,tt_⟩
def QcS (b:(List QO))(a:Int):Option Bool:=
 some ((decide (0≤a))&&(decide (a<(b.length:Int))))
theorem Qiz (d c){r}(h:QcS d c=some r):Qd prog 116 [.sl 7 (d.map QF),.I c] [] (Gives (.b r) []):=by
 refine Qd.walk 13 func116 rfl rfl rfl fun C hC=>?_
 refine tg_ hC [.n 6] rfl ?_
 refine AK.meetX (fun σ=>σ=⟨[(4,.b ((decide (0≤c))&&(decide (c<(d.length:Int)))))],[]⟩) ?_ ?_
 ·refine tg_ hC [.n 4] rfl ?_
  rcases Q0 (decide (0≤c))with a | a
  ·refine Qa hC [.S 7 (.b true),.n 2,.o (.ln d.length),.n 4,.S 4 (.b ((decide (0≤c))&&(decide (c<(d.length:Int))))),.K [4] []] rfl ⟨⟨(tc_ a),Qg⟩,(congrArg V.b (Qcy a rfl))⟩ ?_
   exact AK.met rfl
  refine Qa hC [.S 7 (.b false),.n 7,.S 4 (.b ((decide (0≤c))&&(decide (c<(d.length:Int))))),.K [4] []] rfl ⟨(tc_ a),(congrArg V.b (QeJ a rfl))⟩ ?_
  exact AK.met rfl
 rintro σ rfl
 refine tg_ hC [.n 2] rfl ?_
 cases h
 exact d1_ rfl rfl tt_
def Qj0 (a:Qk)(b:QW):Option Bool:=
 (QcS a.Colours b.Colour).bind fun c=>
 some c
theorem QuA (a e){r}(h:Qj0 a e=some r):Qd prog 115 [.loc 615 0 0,.loc 616 0 0] [(615,.var (Qe a)),(616,.var (QC e))] (Gives (.b r) [(615,.var (Qe a)),(616,.var (QC e))]):=by
 refine Qd.walk 8 func115 rfl rfl rfl fun C hC=>?_
 obtain⟨g,f,h⟩:=Qc h
 refine Qa hC [.n 11,.o (.c false [.d,.d] (.b g)),.n 4] rfl ⟨tt_,(Qiz _ _ f)⟩ ?_
 cases h
 exact d1_ rfl rfl ⟨rfl,rfl,tt_⟩
def Qj1 (a:QW):Option Bool:=
 (Qf1 a.First).bind fun b=>
 some b
theorem QuB (a){r}(h:Qj1 a=some r):Qd prog 117 [.loc 615 0 0] [(615,.var (QC a))] (Gives (.b r) [(615,.var (QC a))]):=by
 refine Qd.walk 5 func117 rfl rfl rfl fun C hC=>?_
 obtain⟨f,e,h⟩:=Qc h
 refine Qa hC [.n 9,.o (.c false [.d] (.b f)),.n 4] rfl ⟨tt_,(Qn1 _ e)⟩ ?_
 cases h
 exact d1_ rfl rfl ⟨rfl,tt_⟩
def Qf3 (a:(List QO))(b:Int):Option (Bool×Qa9):=
 (Qii a).bind fun c=>
 bif ((!c.2)||((decide (b<0))||(decide ((a.length:Int)≤b))))then
 some (false,(Qa9.mk ([]:(List QO)) ([]:(List Int)) 0))
 else
 some (true,(Qa9.mk a c.1 b))
theorem Qn3 (i e){r}(h:Qf3 i e=some r):Qd prog 162 [.sl 7 (i.map QF),.I e] [] (Gives (.tup [.agg (Q3 r.2),.b r.1]) []):=by
 refine Qd.walk 30 func162 rfl rfl rfl fun C hC=>?_
 obtain⟨j,k,h⟩:=Qc h
 refine Qa hC [.n 9,.o (.c false [.d] (.tup [.sl 1 (j.1.map Qb),.b j.2])),.n 9] rfl ⟨tt_,(Qpb _ k)⟩ ?_
 refine AK.meetX (fun σ=>σ=⟨[(0,.sl 7 (i.map QF)),(1,.I e),(4,.loc 4 0 0),(6,.sl 1 (j.1.map Qb)),(24,.b ((!j.2)||((decide (e<0))||(decide ((i.length:Int)≤e)))))],[(4,.var [.lit (.slice none 0 0),.lit (.slice none 0 0),.I 0])]⟩) ?_ ?_
 ·refine tg_ hC [.n 4] rfl ?_
  rcases Q0 (!j.2)with f | f
  ·refine Qa hC [.S 15 (.b true),.n 10,.S 24 (.b ((!j.2)||((decide (e<0))||(decide ((i.length:Int)≤e))))),.K [0,1,4,6,24] [4]] rfl ⟨(tc_ f),(congrArg V.b (orT f rfl))⟩ ?_
   exact AK.met rfl
  refine Qa hC [.S 15 (.b false),.n 4] rfl (tc_ f) ?_
  rcases Q0 (decide (e<0))with a | a
  ·refine Qa hC [.S 19 (.b true),.n 6,.S 24 (.b ((!j.2)||((decide (e<0))||(decide ((i.length:Int)≤e))))),.K [0,1,4,6,24] [4]] rfl ⟨(tc_ a),(congrArg V.b (orF f (orT a rfl)))⟩ ?_
   exact AK.met rfl
  refine Qa hC [.S 19 (.b false),.n 2,.o (.ln i.length),.n 3,.S 24 (.b ((!j.2)||((decide (e<0))||(decide ((i.length:Int)≤e))))),.K [0,1,4,6,24] [4]] rfl ⟨⟨(tc_ a),Qg⟩,(congrArg V.b (orF f (orF a rfl)))⟩ ?_
  exact AK.met rfl
 rintro σ rfl
 refine tg_ hC [.n 1] rfl ?_
 refine bg_ h (fun g h=>Qa hC [.T,.n 2,.v .no [some 7,some 1,none] (.agg (Q3 (Qa9.mk ([]:(List QO)) ([]:(List Int)) 0))),.n 1,.O 4 (.var (Q3 (Qa9.mk ([]:(List QO)) ([]:(List Int)) 0))),.n 5,.K [4,5] [4]] rfl ⟨⟨⟨tt_,g⟩,rfl⟩,rfl⟩ ?_) fun g h=>Qa hC [.F,.n 7,.v .no [] (.agg (Q3 (Qa9.mk i j.1 e))),.n 1,.O 4 (.var (Q3 (Qa9.mk i j.1 e))),.n 4,.K [4,5] [4]] rfl ⟨⟨⟨tt_,g⟩,rfl⟩,rfl⟩ ?_
 ·cases h
  exact AK.done (ex_ [_,_] (an_ (an_ (ex_ _ (ex_ _ (an_ rfl (an_ rfl (Or.inl (an_ (Qs.ag rfl) (an_ (Qs.sz rfl) rfl))))))) (an_ rfl tt_)) (gives tt_)))
 cases h
 exact AK.done (ex_ [_,_] (an_ (an_ (ex_ _ (ex_ _ (an_ rfl (an_ rfl (Or.inl (an_ (Qs.ag rfl) (an_ (Qs.sz rfl) rfl))))))) (an_ rfl tt_)) (gives tt_)))
def Qbd (c:(List QO))(a:Int):Option Int:=
 (Qf3 c a).bind fun b=>
 bif (!b.1)then
 some 0
 else
 (idx b.2.sizes a).bind fun d=>
 some d
theorem QiT (i j){r}(h:Qbd i j=some r):Qd prog 90 [.sl 7 (i.map QF),.I j] [] (Gives (.I r) []):=by
 refine Qd.walk 20 func90 rfl rfl rfl fun C hC=>?_
 obtain⟨e,f,h⟩:=Qc h
 refine Qa hC [.n 9,.o (.c false [.d,.d] (.tup [.agg (Q3 e.2),.b e.1])),.n 5,.O 5 (.var (Q3 e.2)),.n 10] rfl ⟨⟨tt_,(Qn3 _ _ f)⟩,rfl⟩ ?_
 rcases Qt h with⟨a,h⟩|⟨a,h⟩
 ·refine Qa hC [.T,.n 7] rfl ⟨tt_,a⟩ ?_
  cases h
  exact d1_ rfl rfl tt_
 obtain⟨k,g,h⟩:=Qc h
 refine Qa hC [.F,.n 7,.o (.row (Qb k)),.n 5] rfl ⟨⟨tt_,a⟩,(QJ g)⟩ ?_
 cases h
 exact d1_ rfl rfl tt_
def Qh5 (a:(Int×Int))(b:Int):Option Bool:=
 some (decide (b≤a.1))
theorem Qtc (a c){r}(h:Qh5 a c=some r):Qd prog 120 [.agg (QK a),.loc 615 0 0] [(615,.var (Qb c))] (Gives (.b r) [(615,.var (Qb c))]):=by
 refine Qd.walk 8 func120 rfl rfl rfl fun C hC=>?_
 refine tg_ hC [.n 16] rfl ?_
 cases h
 exact d1_ rfl rfl ⟨rfl,tt_⟩

end Go.Proofs
