/- What functions of the program do, as functions over plain data, and the walks that show it: printed by a program. -/
import Derived.Test.YtpijolohkdchcaaGreatDoorD1V3
import Derived.Test.YtpijolohkdchcaaGreatDoorD1V3
import Derived.Test.YtpijolohkdchcaaGreatDoorProg
set_option linter.unusedVariables false
set_option linter.unusedSimpArgs false
set_option linter.unusedSectionVars false
set_option linter.deprecated false
set_option maxRecDepth 100000
set_option maxHeartbeats 4000000
noncomputable section
namespace Go.Proofs
open Go Go.RowKit Go.Vm Go.Proofs.Tryz
structure QE where
 Name:ByteArray
 Kind:Int
 Lo:Int
 Hi:Int
 Names:(List ByteArray)
 First:Int
 Then:Int
structure QY where
 Name:ByteArray
 Colour:Int
 First:(List (Int×Int))
structure Qat where
 Name:ByteArray
 Colour:Int
structure Qh where
 Kind:Int
 Num:Int
 Kids:(List Qh)
structure Qap where
 Place:Int
 Expr:Qh
structure QG where
 Name:ByteArray
 Vars:(List Qat)
 Guard:Qh
 Join:Int
 Split:Int
 Ins:(List Qap)
 Outs:(List Qap)
 Cancel:(List Int)
 After:Int
 Many:(Int×Int×Int)
structure Qq where
 Colours:(List QE)
 Places:(List QY)
 Tasks:(List QG)
 From:Int
 To:Int
structure Qp where
 Task:Int
 Vars:(List Int)
 Ins:(List Int)
 Outs:(List Int)
structure QO where
 net:Qq
 m:(List (List (Int×Int)))
 task:QG
 env:(List Int)
structure Qaw where
 all:(List QE)
 sizes:(List Int)
 k:Int
structure Qfh where
 Kind:Int
 At:Int
def Qcq (x:ByteArray):List V:=[.s x]
def Qe (x:Int):List V:=[.i .i64 x]
theorem QBS (l:List Int):∀r∈l.map Qe,∀v∈r,v.sca=true:=QDh (fun _=>rfl) l
def QDU (x:(List ByteArray)):List V:=[.sl 1 (x.map Qcq)]
def Qs (x:QE):List V:=[.s x.Name,.i .i64 x.Kind,.i .i64 x.Lo,.i .i64 x.Hi,.sl 1 (x.Names.map Qcq),.i .i64 x.First,.i .i64 x.Then]
def QzG (x:(List QE)):List V:=[.sl 7 (x.map Qs)]
def Ql (x:(Int×Int)):List V:=[.i .i64 x.1,.i .i64 x.2]
def Qf (x:(List (Int×Int))):List V:=[.sl 2 (x.map Ql)]
def QC (x:QY):List V:=[.s x.Name,.i .i64 x.Colour,.sl 2 (x.First.map Ql)]
def QAm (x:(List QY)):List V:=[.sl 3 (x.map QC)]
def QL (x:Qat):List V:=[.s x.Name,.i .i64 x.Colour]
def Qcg (x:(List Qat)):List V:=[.sl 2 (x.map QL)]
mutual
def QsS : Qh->List V
 | ⟨x0,x1,x2⟩=>[.i .i64 x0,.i .i64 x1,.sl 3 (Qa6 x2)]
def Qa6 : List Qh->List (List V)
 | []=>[]
 | e::es=>QsS e::Qa6 es
end
def Qj (x:Qh):List V:=[.i .i64 x.Kind,.i .i64 x.Num,.sl 3 (Qa6 x.Kids)]
theorem QyR : ∀x:Qh,QsS x=Qj x
 | ⟨x0,x1,x2⟩=>by rw [QsS];rfl
theorem Qkm : ∀l:List Qh,Qa6 l=l.map Qj
 | []=>by rw [Qa6];rfl
 | e::es=>by rw [Qa6,Qkm es,QyR];rfl
theorem Qfi (l:List Qh):(Qa6 l).length=l.length:=by rw [Qkm,QqC]
theorem Qbl {l:List Qh}{j:Int}{x:Qh}(h:idx l j=some x):0<=j/\(Qa6 l)[j.toNat]? = some (Qj x):=by rw [Qkm];exact QF h
def Q2 (x:Qap):List V:=[.i .i64 x.Place,.i .i64 x.Expr.Kind,.i .i64 x.Expr.Num,.sl 3 (Qa6 x.Expr.Kids)]
def QBT (x:(List Qap)):List V:=[.sl 4 (x.map Q2)]
def Qz (x:(List Int)):List V:=[.sl 1 (x.map Qe)]
def Qx0 (x:(Int×Int×Int)):List V:=[.i .i64 x.1,.i .i64 x.2.1,.i .i64 x.2.2]
def Qm (x:QG):List V:=[.s x.Name,.sl 2 (x.Vars.map QL),.i .i64 x.Guard.Kind,.i .i64 x.Guard.Num,.sl 3 (Qa6 x.Guard.Kids),.i .i64 x.Join,.i .i64 x.Split,.sl 4 (x.Ins.map Q2),.sl 4 (x.Outs.map Q2),.sl 1 (x.Cancel.map Qe),.i .i64 x.After,.i .i64 x.Many.1,.i .i64 x.Many.2.1,.i .i64 x.Many.2.2]
def QBb (x:(List QG)):List V:=[.sl 14 (x.map Qm)]
def Qd (x:Qq):List V:=[.sl 7 (x.Colours.map Qs),.sl 3 (x.Places.map QC),.sl 14 (x.Tasks.map Qm),.i .i64 x.From,.i .i64 x.To]
def Qk (x:Qp):List V:=[.i .i64 x.Task,.sl 1 (x.Vars.map Qe),.sl 1 (x.Ins.map Qe),.sl 1 (x.Outs.map Qe)]
def Qak (x:(List (List (Int×Int)))):List V:=[.sl 1 (x.map Qf)]
def Qu (x:QO):List V:=[.sl 7 (x.net.Colours.map Qs),.sl 3 (x.net.Places.map QC),.sl 14 (x.net.Tasks.map Qm),.i .i64 x.net.From,.i .i64 x.net.To,.sl 1 (x.m.map Qf),.s x.task.Name,.sl 2 (x.task.Vars.map QL),.i .i64 x.task.Guard.Kind,.i .i64 x.task.Guard.Num,.sl 3 (Qa6 x.task.Guard.Kids),.i .i64 x.task.Join,.i .i64 x.task.Split,.sl 4 (x.task.Ins.map Q2),.sl 4 (x.task.Outs.map Q2),.sl 1 (x.task.Cancel.map Qe),.i .i64 x.task.After,.i .i64 x.task.Many.1,.i .i64 x.task.Many.2.1,.i .i64 x.task.Many.2.2,.sl 1 (x.env.map Qe)]
def Q3 (x:Qaw):List V:=[.sl 7 (x.all.map Qs),.sl 1 (x.sizes.map Qe),.i .i64 x.k]
def QT (x:(List (List Int))):List V:=[.sl 1 (x.map Qz)]
def QBc (x:(List Qp)):List V:=[.sl 4 (x.map Qk)]
def Qdw (x:Qfh):List V:=[.i .i64 x.Kind,.i .i64 x.At]
def QfE (fn:Nat):QgZ:=QDP Tryz.f201 0 fn
def QaI (fn:Nat):QgZ:=QDP Tryz.f88 0 fn
theorem QC9 (a0 a1 b0 b1:Int):EqT Tryz.prog 40 [.int .i64 a0,.int .i64 a1] [.int .i64 b0,.int .i64 b1] ((a0==b0)&&(a1==b1)):=by
 refine⟨by kernel_rfl,fun w=>?_⟩
 have u3:=Tryz.underlying3
 have g3:=Tryz.isAgg3
 have z3:=Tryz.sizeOf3
 show(Op.equalIn (9999+1) 40 (.agg #[.int .i64 a0,.int .i64 a1]) (.agg #[.int .i64 b0,.int .i64 b1])).run Tryz.prog w=_
 rw [Op.equalIn]
 simp only [Sem.run_bind,run_underlying Tryz.underlying40,Result.andThen_ok]
 simp only [Std.Legacy.Range.forIn_eq_forIn_range',Std.Legacy.Range.size,Nat.sub_zero,Nat.add_sub_cancel,Nat.div_one,List.range'_succ,List.range'_zero,List.forIn_cons,List.forIn_nil]
 go_simp
 by_cases h0:a0=b0<;>by_cases h1:a1=b1<;>simp [h0,h1]
theorem QEf (a0 a1 a2 b0 b1 b2:Int):EqT Tryz.prog 53 [.int .i64 a0,.int .i64 a1,.int .i64 a2] [.int .i64 b0,.int .i64 b1,.int .i64 b2] ((a0==b0)&&((a1==b1)&&(a2==b2))):=by
 refine⟨by kernel_rfl,fun w=>?_⟩
 have u3:=Tryz.underlying3
 have g3:=Tryz.isAgg3
 have z3:=Tryz.sizeOf3
 show(Op.equalIn (9999+1) 53 (.agg #[.int .i64 a0,.int .i64 a1,.int .i64 a2]) (.agg #[.int .i64 b0,.int .i64 b1,.int .i64 b2])).run Tryz.prog w=_
 rw [Op.equalIn]
 simp only [Sem.run_bind,run_underlying Tryz.underlying53,Result.andThen_ok]
 simp only [Std.Legacy.Range.forIn_eq_forIn_range',Std.Legacy.Range.size,Nat.sub_zero,Nat.add_sub_cancel,Nat.div_one,List.range'_succ,List.range'_zero,List.forIn_cons,List.forIn_nil]
 go_simp
 by_cases h0:a0=b0<;>by_cases h1:a1=b1<;>by_cases h2:a2=b2<;>simp [h0,h1,h2]
theorem QDk : Qug Tryz.prog 94 1=some (1,false,1):=by kernel_rfl
theorem QDl : Qug Tryz.prog 94 2=some (2,false,1):=by kernel_rfl
def QCQ : Go.Shelf.Ren:=⟨fun | 157=>238 | 199=>251 | 229=>250 | 261=>258 | 311=>261 | 312=>262 | n=>n,fun | 0=>0 | 3=>3 | 4=>4 | 5=>5 | 9=>9 | 21=>21 | 31=>92 | 40=>238 | 46=>196 | 49=>258 | 51=>219 | 119=>236 | 141=>250 | 152=>246 | 154=>248 | 193=>254 | 194=>255 | 196=>257 | 198=>260 | 201=>263 | 226=>265 | 227=>266 | n=>n,fun | 0=>0 | 6=>1 | n=>n⟩
theorem QBU : Lays.n157 Tryz.prog QCQ where
 mixed:=by kernel_rfl
 f157:=Tryz.func238.trans (congrArg some (by kernel_rfl))
 f199:=Tryz.func251.trans (congrArg some (by kernel_rfl))
 f229:=Tryz.func250.trans (congrArg some (by kernel_rfl))
 f261:=Tryz.func258.trans (congrArg some (by kernel_rfl))
 f311:=Tryz.func261.trans (congrArg some (by kernel_rfl))
 f312:=Tryz.func262.trans (congrArg some (by kernel_rfl))
 t0:=Tryz.underlying0
 a0:=Tryz.isAgg0
 z0:=Tryz.sizeOf0
 v0:=Tryz.zeroValue0
 t3:=Tryz.underlying3
 a3:=Tryz.isAgg3
 z3:=Tryz.sizeOf3
 v3:=Tryz.zeroValue3
 t4:=Tryz.underlying4
 a4:=Tryz.isAgg4
 z4:=Tryz.sizeOf4
 v4:=Tryz.zeroValue4
 t5:=Tryz.underlying5
 a5:=Tryz.isAgg5
 z5:=Tryz.sizeOf5
 v5:=Tryz.zeroValue5
 t9:=Tryz.underlying9
 a9:=Tryz.isAgg9
 z9:=Tryz.sizeOf9
 v9:=Tryz.zeroValue9
 t21:=Tryz.underlying21
 a21:=Tryz.isAgg21
 z21:=Tryz.sizeOf21
 v21:=Tryz.zeroValue21
 t31:=Tryz.underlying92
 a31:=Tryz.isAgg92
 z31:=Tryz.sizeOf92
 v31:=Tryz.zeroValue92
 t40:=Tryz.underlying238
 a40:=Tryz.isAgg238
 z40:=Tryz.sizeOf238
 v40:=Tryz.zeroValue238
 t46:=Tryz.underlying196
 a46:=Tryz.isAgg196
 z46:=Tryz.sizeOf196
 v46:=Tryz.zeroValue196
 t49:=Tryz.underlying258
 a49:=Tryz.isAgg258
 z49:=Tryz.sizeOf258
 v49:=Tryz.zeroValue258
 t51:=Tryz.underlying219
 a51:=Tryz.isAgg219
 z51:=Tryz.sizeOf219
 v51:=Tryz.zeroValue219
 t119:=Tryz.underlying236
 a119:=Tryz.isAgg236
 z119:=Tryz.sizeOf236
 t141:=Tryz.underlying250
 a141:=Tryz.isAgg250
 z141:=Tryz.sizeOf250
 v141:=Tryz.zeroValue250
 t152:=Tryz.underlying246
 a152:=Tryz.isAgg246
 z152:=Tryz.sizeOf246
 v152:=Tryz.zeroValue246
 t154:=Tryz.underlying248
 a154:=Tryz.isAgg248
 z154:=Tryz.sizeOf248
 v154:=Tryz.zeroValue248
 t193:=Tryz.underlying254
 a193:=Tryz.isAgg254
 z193:=Tryz.sizeOf254
 v193:=Tryz.zeroValue254
 t194:=Tryz.underlying255
 a194:=Tryz.isAgg255
 z194:=Tryz.sizeOf255
 v194:=Tryz.zeroValue255
 t196:=Tryz.underlying257
 a196:=Tryz.isAgg257
 z196:=Tryz.sizeOf257
 v196:=Tryz.zeroValue257
 t198:=Tryz.underlying260
 a198:=Tryz.isAgg260
 z198:=Tryz.sizeOf260
 v198:=Tryz.zeroValue260
 t201:=Tryz.underlying263
 a201:=Tryz.isAgg263
 z201:=Tryz.sizeOf263
 v201:=Tryz.zeroValue263
 t226:=Tryz.underlying265
 a226:=Tryz.isAgg265
 z226:=Tryz.sizeOf265
 v226:=Tryz.zeroValue265
 t227:=Tryz.underlying266
 a227:=Tryz.isAgg266
 z227:=Tryz.sizeOf266
 v227:=Tryz.zeroValue266
 g0:=by kernel_rfl
 g6:=by kernel_rfl
theorem Quh : QxX Tryz.prog 221 .u64=true:=by kernel_rfl
theorem QzH : QxX Tryz.prog 3 .i64=true:=by kernel_rfl
theorem QlT : Qgs Tryz.prog 3 (V.i .i64) (Value.int .i64):=Qgs.int (by kernel_rfl)
theorem QBd : Qgs Tryz.prog 9 V.s Value.string:=Qgs.str (by kernel_rfl)
theorem mixed : Tryz.prog.follows .mixedOrders=true:=by kernel_rfl
theorem Qw4 : QsE Tryz.prog 202=some (9,4):=by kernel_rfl
theorem QhP : QsE Tryz.prog 79=some (3,3):=by kernel_rfl
def QCR : Go.Shelf.Ren:=⟨fun | 125=>194 | 128=>221 | 129=>222 | 189=>143 | 215=>245 | 216=>218 | 257=>193 | 294=>212 | 295=>213 | 296=>214 | 297=>215 | 298=>216 | 299=>217 | 300=>219 | 301=>220 | 328=>240 | 329=>241 | 330=>242 | 331=>243 | 332=>244 | 343=>252 | n=>n,fun | 0=>0 | 3=>3 | 4=>4 | 5=>5 | 9=>9 | 28=>29 | 46=>196 | 51=>219 | 53=>221 | 131=>132 | 182=>211 | 183=>212 | 218=>229 | 222=>233 | 228=>239 | 229=>240 | n=>n,fun n=>n⟩
theorem QBV : Lays.n189 Tryz.prog QCR where
 mixed:=by kernel_rfl
 f125:=Tryz.func194.trans (congrArg some (by kernel_rfl))
 f128:=Tryz.func221.trans (congrArg some (by kernel_rfl))
 f129:=Tryz.func222.trans (congrArg some (by kernel_rfl))
 f189:=Tryz.func143.trans (congrArg some (by kernel_rfl))
 f215:=Tryz.func245.trans (congrArg some (by kernel_rfl))
 f216:=Tryz.func218.trans (congrArg some (by kernel_rfl))
 f257:=Tryz.func193.trans (congrArg some (by kernel_rfl))
 f294:=Tryz.func212.trans (congrArg some (by kernel_rfl))
 f295:=Tryz.func213.trans (congrArg some (by kernel_rfl))
 f296:=Tryz.func214.trans (congrArg some (by kernel_rfl))
 f297:=Tryz.func215.trans (congrArg some (by kernel_rfl))
 f298:=Tryz.func216.trans (congrArg some (by kernel_rfl))
 f299:=Tryz.func217.trans (congrArg some (by kernel_rfl))
 f300:=Tryz.func219.trans (congrArg some (by kernel_rfl))
 f301:=Tryz.func220.trans (congrArg some (by kernel_rfl))
 f328:=Tryz.func240.trans (congrArg some (by kernel_rfl))
 f329:=Tryz.func241.trans (congrArg some (by kernel_rfl))
 f330:=Tryz.func242.trans (congrArg some (by kernel_rfl))
 f331:=Tryz.func243.trans (congrArg some (by kernel_rfl))
 f332:=Tryz.func244.trans (congrArg some (by kernel_rfl))
 f343:=Tryz.func252.trans (congrArg some (by kernel_rfl))
 t0:=Tryz.underlying0
 a0:=Tryz.isAgg0
 z0:=Tryz.sizeOf0
 v0:=Tryz.zeroValue0
 t3:=Tryz.underlying3
 a3:=Tryz.isAgg3
 z3:=Tryz.sizeOf3
 v3:=Tryz.zeroValue3
 t4:=Tryz.underlying4
 a4:=Tryz.isAgg4
 z4:=Tryz.sizeOf4
 v4:=Tryz.zeroValue4
 t5:=Tryz.underlying5
 a5:=Tryz.isAgg5
 z5:=Tryz.sizeOf5
 v5:=Tryz.zeroValue5
 t9:=Tryz.underlying9
 a9:=Tryz.isAgg9
 z9:=Tryz.sizeOf9
 v9:=Tryz.zeroValue9
 t28:=Tryz.underlying29
 a28:=Tryz.isAgg29
 z28:=Tryz.sizeOf29
 v28:=Tryz.zeroValue29
 t46:=Tryz.underlying196
 a46:=Tryz.isAgg196
 z46:=Tryz.sizeOf196
 v46:=Tryz.zeroValue196
 t51:=Tryz.underlying219
 a51:=Tryz.isAgg219
 z51:=Tryz.sizeOf219
 v51:=Tryz.zeroValue219
 t53:=Tryz.underlying221
 a53:=Tryz.isAgg221
 z53:=Tryz.sizeOf221
 v53:=Tryz.zeroValue221
 t131:=Tryz.underlying132
 a131:=Tryz.isAgg132
 z131:=Tryz.sizeOf132
 v131:=Tryz.zeroValue132
 t182:=Tryz.underlying211
 a182:=Tryz.isAgg211
 z182:=Tryz.sizeOf211
 v182:=Tryz.zeroValue211
 t183:=Tryz.underlying212
 a183:=Tryz.isAgg212
 z183:=Tryz.sizeOf212
 v183:=Tryz.zeroValue212
 t218:=Tryz.underlying229
 a218:=Tryz.isAgg229
 z218:=Tryz.sizeOf229
 v218:=Tryz.zeroValue229
 t222:=Tryz.underlying233
 a222:=Tryz.isAgg233
 z222:=Tryz.sizeOf233
 v222:=Tryz.zeroValue233
 t228:=Tryz.underlying239
 a228:=Tryz.isAgg239
 z228:=Tryz.sizeOf239
 v228:=Tryz.zeroValue239
 t229:=Tryz.underlying240
 a229:=Tryz.isAgg240
 z229:=Tryz.sizeOf240
 v229:=Tryz.zeroValue240
theorem QDV : Tryz.prog.underlying 160=some (.slice 29):=by kernel_rfl
theorem QEg : Tryz.prog.underlying 28=some (.slice 35):=by kernel_rfl
theorem QEh : Tryz.prog.underlying 29=some (.slice 3):=by kernel_rfl
theorem QEi : Tryz.prog.underlying 35=some (.slice 40):=by kernel_rfl
theorem Qv4 : Qmp Tryz.prog 3 ((V.i .i64) 0):=Qmp.one (v:=.int .i64 0) (by kernel_rfl)
theorem QDW : Qmp Tryz.prog 4 (V.b false):=Qmp.one (v:=.bool false) (by kernel_rfl)
theorem QEU : Qaz Tryz.prog 3=some [.i .i64 0]:=by kernel_rfl
theorem QEj : Qaz Tryz.prog 26=some [.lit (.slice none 0 0),.lit (.slice none 0 0),.lit (.slice none 0 0),.i .i64 0,.i .i64 0]:=by kernel_rfl
theorem QDa : Qaz Tryz.prog 29=some [.lit (.slice none 0 0)]:=by kernel_rfl
theorem QEk : Qaz Tryz.prog 31=some [.i .i64 0,.lit (.slice none 0 0),.lit (.slice none 0 0),.lit (.slice none 0 0)]:=by kernel_rfl
theorem QEl : Qaz Tryz.prog 35=some [.lit (.slice none 0 0)]:=by kernel_rfl
theorem QEm : Qaz Tryz.prog 36=some [.i .i64 0]:=by kernel_rfl
theorem QEn : Qaz Tryz.prog 40=some [.i .i64 0,.i .i64 0]:=by kernel_rfl
theorem QEo : Qaz Tryz.prog 42=some [.lit (.slice none 0 0)]:=by kernel_rfl
theorem QEp : Qaz Tryz.prog 51=some [.i .i64 0,.i .i64 0,.lit (.slice none 0 0)]:=by kernel_rfl
theorem QEq : Qaz Tryz.prog 53=some [.i .i64 0,.i .i64 0,.i .i64 0]:=by kernel_rfl
theorem QEr : Qaz Tryz.prog 55=some [.s (⟨#[]⟩:ByteArray),.lit (.slice none 0 0),.i .i64 0,.i .i64 0,.lit (.slice none 0 0),.i .i64 0,.i .i64 0,.lit (.slice none 0 0),.lit (.slice none 0 0),.lit (.slice none 0 0),.i .i64 0,.i .i64 0,.i .i64 0,.i .i64 0]:=by kernel_rfl
theorem QEs : Qaz Tryz.prog 67=some [.i .i64 0,.i .i64 0]:=by kernel_rfl
theorem QEt : Qaz Tryz.prog 89=some [.s (⟨#[]⟩:ByteArray),.i .i64 0,.lit (.slice none 0 0)]:=by kernel_rfl
theorem QEu : Qaz Tryz.prog 94=some [.s (⟨#[]⟩:ByteArray),.i .i64 0,.i .i64 0,.i .i64 0,.lit (.slice none 0 0),.i .i64 0,.i .i64 0]:=by kernel_rfl
theorem QEv : Qaz Tryz.prog 96=some [.s (⟨#[]⟩:ByteArray),.i .i64 0]:=by kernel_rfl
theorem QEw : Qaz Tryz.prog 98=some [.i .i64 0,.i .i64 0,.i .i64 0,.lit (.slice none 0 0)]:=by kernel_rfl
theorem QnT : Qaz Tryz.prog 102=some [.lit (.nilFunc),.i .i64 0]:=by kernel_rfl
theorem QDX : Qaz Tryz.prog 113=some [.lit (.slice none 0 0),.lit (.slice none 0 0),.lit (.slice none 0 0),.i .i64 0,.i .i64 0,.lit (.slice none 0 0),.s (⟨#[]⟩:ByteArray),.lit (.slice none 0 0),.i .i64 0,.i .i64 0,.lit (.slice none 0 0),.i .i64 0,.i .i64 0,.lit (.slice none 0 0),.lit (.slice none 0 0),.lit (.slice none 0 0),.i .i64 0,.i .i64 0,.i .i64 0,.i .i64 0,.lit (.slice none 0 0)]:=by kernel_rfl
theorem QDY : Qaz Tryz.prog 136=some [.lit (.slice none 0 0),.lit (.slice none 0 0),.i .i64 0]:=by kernel_rfl
theorem QDZ : Qaz Tryz.prog 146=some [.lit (.nilFunc)]:=by kernel_rfl
theorem QD0 : Qaz Tryz.prog 151=some [.lit (.nilFunc)]:=by kernel_rfl
theorem QD1 : Qaz Tryz.prog 160=some [.lit (.slice none 0 0)]:=by kernel_rfl
theorem QD2 : Qaz Tryz.prog 183=some [.lit (.nilFunc)]:=by kernel_rfl
def tab : Tab:={ ag:=[(3,false),(9,false),(22,false),(23,false),(24,false),(26,true),(28,false),(29,false),(31,true),(32,false),(35,false),(36,false),(40,true),(42,false),(48,false),(49,false),(51,true),(52,false),(53,true),(55,true),(67,true),(79,false),(89,true),(92,false),(94,true),(96,true),(98,true),(102,true),(113,true),(116,false),(136,true),(146,false),(151,false),(154,false),(160,false),(183,false)],sz:=[(3,1),(26,5),(29,1),(31,4),(35,1),(36,1),(40,2),(42,1),(51,3),(53,3),(55,14),(67,2),(89,3),(94,7),(96,2),(98,4),(102,2),(113,21),(136,3),(146,1),(151,1),(160,1),(183,1)],fo:=[(26,[0,1,2,3,4]),(31,[0,1,2,3]),(51,[0,1,2]),(55,[0,1,2,5,6,7,8,9,10,11]),(89,[0,1,2]),(94,[0,1,2,3,4,5,6]),(96,[0,1]),(98,[0,1]),(102,[0,1]),(113,[0,5,6,20]),(136,[0,1,2])],sp:=[(26,[(0,1),(1,1),(2,1),(3,1),(4,1)]),(31,[(0,1),(1,1),(2,1),(3,1)]),(51,[(0,1),(1,1),(2,1)]),(55,[(0,1),(1,1),(2,3),(5,1),(6,1),(7,1),(8,1),(9,1),(10,1),(11,3)]),(67,[(0,1),(1,1)]),(89,[(0,1),(1,1),(2,1)]),(94,[(0,1),(1,1),(2,1),(3,1),(4,1),(5,1),(6,1)]),(96,[(0,1),(1,1)]),(98,[(0,1),(1,3)]),(102,[(0,1),(1,1)]),(113,[(0,5),(5,1),(6,14),(20,1)]),(136,[(0,1),(1,1),(2,1)])],es:=[(22,(94,7,80)),(23,(89,3,48)),(24,(55,14,200)),(28,(35,1,24)),(29,(3,1,8)),(35,(40,2,16)),(42,(31,4,80)),(48,(96,2,24)),(49,(51,3,40)),(52,(98,4,48)),(92,(9,1,16)),(140,(102,2,16)),(160,(29,1,24)),(174,(3,1,8))],ar:=[(40,(2,1)),(53,(3,1))],zv:=[(3,[.i .i64 0]),(26,[.lit (.slice none 0 0),.lit (.slice none 0 0),.lit (.slice none 0 0),.i .i64 0,.i .i64 0]),(29,[.lit (.slice none 0 0)]),(31,[.i .i64 0,.lit (.slice none 0 0),.lit (.slice none 0 0),.lit (.slice none 0 0)]),(35,[.lit (.slice none 0 0)]),(36,[.i .i64 0]),(40,[.i .i64 0,.i .i64 0]),(42,[.lit (.slice none 0 0)]),(51,[.i .i64 0,.i .i64 0,.lit (.slice none 0 0)]),(53,[.i .i64 0,.i .i64 0,.i .i64 0]),(55,[.s (⟨#[]⟩:ByteArray),.lit (.slice none 0 0),.i .i64 0,.i .i64 0,.lit (.slice none 0 0),.i .i64 0,.i .i64 0,.lit (.slice none 0 0),.lit (.slice none 0 0),.lit (.slice none 0 0),.i .i64 0,.i .i64 0,.i .i64 0,.i .i64 0]),(67,[.i .i64 0,.i .i64 0]),(89,[.s (⟨#[]⟩:ByteArray),.i .i64 0,.lit (.slice none 0 0)]),(94,[.s (⟨#[]⟩:ByteArray),.i .i64 0,.i .i64 0,.i .i64 0,.lit (.slice none 0 0),.i .i64 0,.i .i64 0]),(96,[.s (⟨#[]⟩:ByteArray),.i .i64 0]),(98,[.i .i64 0,.i .i64 0,.i .i64 0,.lit (.slice none 0 0)]),(102,[.lit (.nilFunc),.i .i64 0]),(113,[.lit (.slice none 0 0),.lit (.slice none 0 0),.lit (.slice none 0 0),.i .i64 0,.i .i64 0,.lit (.slice none 0 0),.s (⟨#[]⟩:ByteArray),.lit (.slice none 0 0),.i .i64 0,.i .i64 0,.lit (.slice none 0 0),.i .i64 0,.i .i64 0,.lit (.slice none 0 0),.lit (.slice none 0 0),.lit (.slice none 0 0),.i .i64 0,.i .i64 0,.i .i64 0,.i .i64 0,.lit (.slice none 0 0)]),(136,[.lit (.slice none 0 0),.lit (.slice none 0 0),.i .i64 0]),(146,[.lit (.nilFunc)]),(151,[.lit (.nilFunc)]),(160,[.lit (.slice none 0 0)]),(183,[.lit (.nilFunc)])],sb:=[9],bo:=[4],cc:=[],en:=[8,9,10,11,12,13,14,15,16,17,18,19,22,24,25,26,27,29,30,31,32,33,34,35,36,37,38,39,40,41,42,43,45,47,48,49,50,51,52,53,54,56,57,58,59,60,61,62,63,64,65,66,67,68,69,70,71,72,73,74,75,76,77,78,79,80,81,82,83,84,85,86,87,88,90,91,92,93,94,95,96,97,98,99,100,101,102,103,104,105,106,107,108,109,110,111,112,113,114,115,116,117,118,119,120,121,122,123,124,125,126,127,128,129,130,131,132,133,134,135,136,137,138,139,140,141,142,143,144,145,146,147,148,149,150,151,152,153,154,155,156,157,158,159,160,161,162,163,164,165,166,167,168,169,170,171,172,173,174,175,176,177,178,179,180,181,182,183,184,185,186,187,188,189,190,191,192,195,196,197,198,199,200,201,202,203,204,205,206,207,208,209,210,211,223,224,225,226,227,228,229,230,231,232,233,234,235,236,237,238,239,246,247,248,249,253,254,255,256,257,259,260] }
theorem Qr : QdE Tryz.prog tab:=Tab.ok (by kernel_rfl) (QdQ.2 ⟨QEU,QdQ.2 ⟨QEj,QdQ.2 ⟨QDa,QdQ.2 ⟨QEk,QdQ.2 ⟨QEl,QdQ.2 ⟨QEm,QdQ.2 ⟨QEn,QdQ.2 ⟨QEo,QdQ.2 ⟨QEp,QdQ.2 ⟨QEq,QdQ.2 ⟨QEr,QdQ.2 ⟨QEs,QdQ.2 ⟨QEt,QdQ.2 ⟨QEu,QdQ.2 ⟨QEv,QdQ.2 ⟨QEw,QdQ.2 ⟨QnT,QdQ.2 ⟨QDX,QdQ.2 ⟨QDY,QdQ.2 ⟨QDZ,QdQ.2 ⟨QD0,QdQ.2 ⟨QD1,QdQ.2 ⟨QD2,fun _ h=>(by cases h)⟩⟩⟩⟩⟩⟩⟩⟩⟩⟩⟩⟩⟩⟩⟩⟩⟩⟩⟩⟩⟩⟩⟩)
theorem Qa {C:Ctx}{Q:Exit->St->Prop}{n:Nat}{pt pt1:Pt}{ks ks1:List Fr}{σ σ1:St}{φ:Prop}(hC:Qdg Tryz.prog C n)(ds:List Dir)(e:Vm.go Tryz.prog C tab n ds pt ks σ True=some ⟨pt1,ks1,σ1,φ⟩)(hφ:φ)(h:AK Tryz.prog C Q pt1 ks1 σ1):AK Tryz.prog C Q pt ks σ:=AK.go Qr hC ds e hφ h
abbrev QBg := List (Int×Int)
abbrev QMk := List QBg
abbrev QLL := List (List Int)
abbrev QSB := List (ByteArray×Bool)
theorem tt_ : True:=trivial
theorem an_ {a b:Prop}(x:a)(y:b):a/\b:=⟨x,y⟩
theorem ex_ {α:Sort _}{p:α->Prop}(w:α)(h:p w):∃x,p x:=⟨w,h⟩
end Go.Proofs
namespace Go.Vm
open Go Go.RowKit
noncomputable abbrev Dir.K (a b:List Nat):Dir:=.keep a b
noncomputable abbrev Dir.S (a:Nat)(b:V):Dir:=.say a b
noncomputable abbrev Dir.O (a:Nat)(b:Ob):Dir:=.sayO a b
noncomputable abbrev Dir.T:Dir:=.br true
noncomputable abbrev Dir.F:Dir:=.br false
noncomputable abbrev Dw.N:Dw:=.a .no none false
noncomputable abbrev V.I (n:Int):V:=.i .i64 n
noncomputable abbrev V.L (n:Nat):V:=.loc n 0 0
noncomputable abbrev Dir.A (x:List V):Dir:=.v .no [] (.agg x)
noncomputable instance dn_ (n:Nat):OfNat Dir n:=⟨.n n⟩
noncomputable abbrev QcU.C1 (v:V):QcU:=.c false [.d] v
noncomputable abbrev QcU.C2 (v:V):QcU:=.c false [.d,.d] v
noncomputable abbrev QcU.C3 (v:V):QcU:=.c false [.d,.d,.d] v
noncomputable abbrev QcU.C4 (v:V):QcU:=.c false [.d,.d,.d,.d] v
noncomputable abbrev QcU.C5 (v:V):QcU:=.c false [.d,.d,.d,.d,.d] v
noncomputable abbrev QcU.C6 (v:V):QcU:=.c false [.d,.d,.d,.d,.d,.d] v
noncomputable abbrev QcU.C7 (v:V):QcU:=.c false [.d,.d,.d,.d,.d,.d,.d] v
noncomputable abbrev QcU.C8 (v:V):QcU:=.c false [.d,.d,.d,.d,.d,.d,.d,.d] v
end Go.Vm
namespace Go.Proofs
open Go Go.RowKit Go.Vm Go.Proofs.Tryz
theorem bg_ {α:Type}{c:Bool}{x y:Option α}{r:α}{G:Prop}(h:(bif c then x else y)=some r)(f:c=true->x=some r->G)(g:c=false->y=some r->G):G:=by
 cases c
 ·exact g rfl h
 exact f rfl h
noncomputable abbrev lk_ (n:Nat):Nat×V:=(n,.loc n 0 0)
theorem a1_ {x0:Prop}(h0:x0):True/\x0:=⟨trivial,h0⟩
theorem a2_ {x0 x1:Prop}(h0:x0)(h1:x1):(True/\x0)/\x1:=⟨⟨trivial,h0⟩,h1⟩
theorem a3_ {x0 x1 x2:Prop}(h0:x0)(h1:x1)(h2:x2):((True/\x0)/\x1)/\x2:=⟨⟨⟨trivial,h0⟩,h1⟩,h2⟩
theorem a4_ {x0 x1 x2 x3:Prop}(h0:x0)(h1:x1)(h2:x2)(h3:x3):(((True/\x0)/\x1)/\x2)/\x3:=⟨⟨⟨⟨trivial,h0⟩,h1⟩,h2⟩,h3⟩
theorem a5_ {x0 x1 x2 x3 x4:Prop}(h0:x0)(h1:x1)(h2:x2)(h3:x3)(h4:x4):((((True/\x0)/\x1)/\x2)/\x3)/\x4:=⟨⟨⟨⟨⟨trivial,h0⟩,h1⟩,h2⟩,h3⟩,h4⟩
theorem a6_ {x0 x1 x2 x3 x4 x5:Prop}(h0:x0)(h1:x1)(h2:x2)(h3:x3)(h4:x4)(h5:x5):(((((True/\x0)/\x1)/\x2)/\x3)/\x4)/\x5:=⟨⟨⟨⟨⟨⟨trivial,h0⟩,h1⟩,h2⟩,h3⟩,h4⟩,h5⟩
theorem a7_ {x0 x1 x2 x3 x4 x5 x6:Prop}(h0:x0)(h1:x1)(h2:x2)(h3:x3)(h4:x4)(h5:x5)(h6:x6):((((((True/\x0)/\x1)/\x2)/\x3)/\x4)/\x5)/\x6:=⟨⟨⟨⟨⟨⟨⟨trivial,h0⟩,h1⟩,h2⟩,h3⟩,h4⟩,h5⟩,h6⟩
theorem a8_ {x0 x1 x2 x3 x4 x5 x6 x7:Prop}(h0:x0)(h1:x1)(h2:x2)(h3:x3)(h4:x4)(h5:x5)(h6:x6)(h7:x7):(((((((True/\x0)/\x1)/\x2)/\x3)/\x4)/\x5)/\x6)/\x7:=⟨⟨⟨⟨⟨⟨⟨⟨trivial,h0⟩,h1⟩,h2⟩,h3⟩,h4⟩,h5⟩,h6⟩,h7⟩
theorem a9_ {x0 x1 x2 x3 x4 x5 x6 x7 x8:Prop}(h0:x0)(h1:x1)(h2:x2)(h3:x3)(h4:x4)(h5:x5)(h6:x6)(h7:x7)(h8:x8):((((((((True/\x0)/\x1)/\x2)/\x3)/\x4)/\x5)/\x6)/\x7)/\x8:=⟨⟨⟨⟨⟨⟨⟨⟨⟨trivial,h0⟩,h1⟩,h2⟩,h3⟩,h4⟩,h5⟩,h6⟩,h7⟩,h8⟩
theorem aA_ {x0 x1 x2 x3 x4 x5 x6 x7 x8 x9:Prop}(h0:x0)(h1:x1)(h2:x2)(h3:x3)(h4:x4)(h5:x5)(h6:x6)(h7:x7)(h8:x8)(h9:x9):(((((((((True/\x0)/\x1)/\x2)/\x3)/\x4)/\x5)/\x6)/\x7)/\x8)/\x9:=⟨⟨⟨⟨⟨⟨⟨⟨⟨⟨trivial,h0⟩,h1⟩,h2⟩,h3⟩,h4⟩,h5⟩,h6⟩,h7⟩,h8⟩,h9⟩
theorem aB_ {x0 x1 x2 x3 x4 x5 x6 x7 x8 x9 x10:Prop}(h0:x0)(h1:x1)(h2:x2)(h3:x3)(h4:x4)(h5:x5)(h6:x6)(h7:x7)(h8:x8)(h9:x9)(h10:x10):((((((((((True/\x0)/\x1)/\x2)/\x3)/\x4)/\x5)/\x6)/\x7)/\x8)/\x9)/\x10:=⟨⟨⟨⟨⟨⟨⟨⟨⟨⟨⟨trivial,h0⟩,h1⟩,h2⟩,h3⟩,h4⟩,h5⟩,h6⟩,h7⟩,h8⟩,h9⟩,h10⟩
theorem aC_ {x0 x1 x2 x3 x4 x5 x6 x7 x8 x9 x10 x11:Prop}(h0:x0)(h1:x1)(h2:x2)(h3:x3)(h4:x4)(h5:x5)(h6:x6)(h7:x7)(h8:x8)(h9:x9)(h10:x10)(h11:x11):(((((((((((True/\x0)/\x1)/\x2)/\x3)/\x4)/\x5)/\x6)/\x7)/\x8)/\x9)/\x10)/\x11:=⟨⟨⟨⟨⟨⟨⟨⟨⟨⟨⟨⟨trivial,h0⟩,h1⟩,h2⟩,h3⟩,h4⟩,h5⟩,h6⟩,h7⟩,h8⟩,h9⟩,h10⟩,h11⟩
theorem r1_ {α:Type}{a0:α}:a0=a0/\True:=⟨rfl,trivial⟩
theorem r2_ {α:Type}{a0 a1:α}:a0=a0/\a1=a1/\True:=⟨rfl,rfl,trivial⟩
theorem r3_ {α:Type}{a0 a1 a2:α}:a0=a0/\a1=a1/\a2=a2/\True:=⟨rfl,rfl,rfl,trivial⟩
theorem r4_ {α:Type}{a0 a1 a2 a3:α}:a0=a0/\a1=a1/\a2=a2/\a3=a3/\True:=⟨rfl,rfl,rfl,rfl,trivial⟩
theorem r5_ {α:Type}{a0 a1 a2 a3 a4:α}:a0=a0/\a1=a1/\a2=a2/\a3=a3/\a4=a4/\True:=⟨rfl,rfl,rfl,rfl,rfl,trivial⟩
theorem r6_ {α:Type}{a0 a1 a2 a3 a4 a5:α}:a0=a0/\a1=a1/\a2=a2/\a3=a3/\a4=a4/\a5=a5/\True:=⟨rfl,rfl,rfl,rfl,rfl,rfl,trivial⟩
theorem r7_ {α:Type}{a0 a1 a2 a3 a4 a5 a6:α}:a0=a0/\a1=a1/\a2=a2/\a3=a3/\a4=a4/\a5=a5/\a6=a6/\True:=⟨rfl,rfl,rfl,rfl,rfl,rfl,rfl,trivial⟩
theorem r8_ {α:Type}{a0 a1 a2 a3 a4 a5 a6 a7:α}:a0=a0/\a1=a1/\a2=a2/\a3=a3/\a4=a4/\a5=a5/\a6=a6/\a7=a7/\True:=⟨rfl,rfl,rfl,rfl,rfl,rfl,rfl,rfl,trivial⟩
theorem r9_ {α:Type}{a0 a1 a2 a3 a4 a5 a6 a7 a8:α}:a0=a0/\a1=a1/\a2=a2/\a3=a3/\a4=a4/\a5=a5/\a6=a6/\a7=a7/\a8=a8/\True:=⟨rfl,rfl,rfl,rfl,rfl,rfl,rfl,rfl,rfl,trivial⟩
theorem rA_ {α:Type}{a0 a1 a2 a3 a4 a5 a6 a7 a8 a9:α}:a0=a0/\a1=a1/\a2=a2/\a3=a3/\a4=a4/\a5=a5/\a6=a6/\a7=a7/\a8=a8/\a9=a9/\True:=⟨rfl,rfl,rfl,rfl,rfl,rfl,rfl,rfl,rfl,rfl,trivial⟩
theorem rB_ {α:Type}{a0 a1 a2 a3 a4 a5 a6 a7 a8 a9 a10:α}:a0=a0/\a1=a1/\a2=a2/\a3=a3/\a4=a4/\a5=a5/\a6=a6/\a7=a7/\a8=a8/\a9=a9/\a10=a10/\True:=⟨rfl,rfl,rfl,rfl,rfl,rfl,rfl,rfl,rfl,rfl,rfl,trivial⟩
theorem rC_ {α:Type}{a0 a1 a2 a3 a4 a5 a6 a7 a8 a9 a10 a11:α}:a0=a0/\a1=a1/\a2=a2/\a3=a3/\a4=a4/\a5=a5/\a6=a6/\a7=a7/\a8=a8/\a9=a9/\a10=a10/\a11=a11/\True:=⟨rfl,rfl,rfl,rfl,rfl,rfl,rfl,rfl,rfl,rfl,rfl,rfl,trivial⟩
theorem rD_ {α:Type}{a0 a1 a2 a3 a4 a5 a6 a7 a8 a9 a10 a11 a12:α}:a0=a0/\a1=a1/\a2=a2/\a3=a3/\a4=a4/\a5=a5/\a6=a6/\a7=a7/\a8=a8/\a9=a9/\a10=a10/\a11=a11/\a12=a12/\True:=⟨rfl,rfl,rfl,rfl,rfl,rfl,rfl,rfl,rfl,rfl,rfl,rfl,rfl,trivial⟩
theorem rE_ {α:Type}{a0 a1 a2 a3 a4 a5 a6 a7 a8 a9 a10 a11 a12 a13:α}:a0=a0/\a1=a1/\a2=a2/\a3=a3/\a4=a4/\a5=a5/\a6=a6/\a7=a7/\a8=a8/\a9=a9/\a10=a10/\a11=a11/\a12=a12/\a13=a13/\True:=⟨rfl,rfl,rfl,rfl,rfl,rfl,rfl,rfl,rfl,rfl,rfl,rfl,rfl,rfl,trivial⟩
theorem rF_ {α:Type}{a0 a1 a2 a3 a4 a5 a6 a7 a8 a9 a10 a11 a12 a13 a14:α}:a0=a0/\a1=a1/\a2=a2/\a3=a3/\a4=a4/\a5=a5/\a6=a6/\a7=a7/\a8=a8/\a9=a9/\a10=a10/\a11=a11/\a12=a12/\a13=a13/\a14=a14/\True:=⟨rfl,rfl,rfl,rfl,rfl,rfl,rfl,rfl,rfl,rfl,rfl,rfl,rfl,rfl,rfl,trivial⟩
theorem rG_ {α:Type}{a0 a1 a2 a3 a4 a5 a6 a7 a8 a9 a10 a11 a12 a13 a14 a15:α}:a0=a0/\a1=a1/\a2=a2/\a3=a3/\a4=a4/\a5=a5/\a6=a6/\a7=a7/\a8=a8/\a9=a9/\a10=a10/\a11=a11/\a12=a12/\a13=a13/\a14=a14/\a15=a15/\True:=⟨rfl,rfl,rfl,rfl,rfl,rfl,rfl,rfl,rfl,rfl,rfl,rfl,rfl,rfl,rfl,rfl,trivial⟩
theorem rH_ {α:Type}{a0 a1 a2 a3 a4 a5 a6 a7 a8 a9 a10 a11 a12 a13 a14 a15 a16:α}:a0=a0/\a1=a1/\a2=a2/\a3=a3/\a4=a4/\a5=a5/\a6=a6/\a7=a7/\a8=a8/\a9=a9/\a10=a10/\a11=a11/\a12=a12/\a13=a13/\a14=a14/\a15=a15/\a16=a16/\True:=⟨rfl,rfl,rfl,rfl,rfl,rfl,rfl,rfl,rfl,rfl,rfl,rfl,rfl,rfl,rfl,rfl,rfl,trivial⟩
theorem rI_ {α:Type}{a0 a1 a2 a3 a4 a5 a6 a7 a8 a9 a10 a11 a12 a13 a14 a15 a16 a17:α}:a0=a0/\a1=a1/\a2=a2/\a3=a3/\a4=a4/\a5=a5/\a6=a6/\a7=a7/\a8=a8/\a9=a9/\a10=a10/\a11=a11/\a12=a12/\a13=a13/\a14=a14/\a15=a15/\a16=a16/\a17=a17/\True:=⟨rfl,rfl,rfl,rfl,rfl,rfl,rfl,rfl,rfl,rfl,rfl,rfl,rfl,rfl,rfl,rfl,rfl,rfl,trivial⟩
theorem rJ_ {α:Type}{a0 a1 a2 a3 a4 a5 a6 a7 a8 a9 a10 a11 a12 a13 a14 a15 a16 a17 a18:α}:a0=a0/\a1=a1/\a2=a2/\a3=a3/\a4=a4/\a5=a5/\a6=a6/\a7=a7/\a8=a8/\a9=a9/\a10=a10/\a11=a11/\a12=a12/\a13=a13/\a14=a14/\a15=a15/\a16=a16/\a17=a17/\a18=a18/\True:=⟨rfl,rfl,rfl,rfl,rfl,rfl,rfl,rfl,rfl,rfl,rfl,rfl,rfl,rfl,rfl,rfl,rfl,rfl,rfl,trivial⟩
theorem rK_ {α:Type}{a0 a1 a2 a3 a4 a5 a6 a7 a8 a9 a10 a11 a12 a13 a14 a15 a16 a17 a18 a19:α}:a0=a0/\a1=a1/\a2=a2/\a3=a3/\a4=a4/\a5=a5/\a6=a6/\a7=a7/\a8=a8/\a9=a9/\a10=a10/\a11=a11/\a12=a12/\a13=a13/\a14=a14/\a15=a15/\a16=a16/\a17=a17/\a18=a18/\a19=a19/\True:=⟨rfl,rfl,rfl,rfl,rfl,rfl,rfl,rfl,rfl,rfl,rfl,rfl,rfl,rfl,rfl,rfl,rfl,rfl,rfl,rfl,trivial⟩
theorem wk_ {f:FuncId}{fn:Func}{c:Code}{args:List V}{hs:List (Nat×Ob)}{post:V->List (Nat×Ob)->Prop}(n:Nat)(hf:Tryz.prog.funcs[f]? = some fn)(h:∀C:Ctx,Qdg Tryz.prog C n->AK Tryz.prog C (Qsz Tryz.prog fn.results.toList post) (.c c) [] ⟨Qmn 0 args,hs⟩)(hb:fn.body=some c:=by rfl)(hn:fn.ntmps=n:=by rfl)(hle:(Nat.ble args.length n&&Nat.ble n 617)=true:=by rfl):Qc Tryz.prog f args hs post:=Qc.walk n hf hb hn hle h
theorem bq_ {C:Ctx}{Q:Exit->St->Prop}{n:Nat}{pt p1 p2:Pt}{ks k1 k2:List Fr}{σ s1 s2:St}{α:Type}{c:Bool}{x y:Option α}{r:α}(hC:Qdg Tryz.prog C n)(h:(bif c then x else y)=some r)(ds:List Dir)(e:Vm.go Tryz.prog C tab n ds pt ks σ True=some ⟨p1,k1,s1,True/\c=true⟩)(f:c=true->x=some r->AK Tryz.prog C Q p1 k1 s1)(dt:List Dir)(e2:Vm.go Tryz.prog C tab n dt pt ks σ True=some ⟨p2,k2,s2,True/\c=false⟩)(g:c=false->y=some r->AK Tryz.prog C Q p2 k2 s2):AK Tryz.prog C Q pt ks σ:=by
 cases c
 ·exact AK.go Qr hC dt e2 ⟨trivial,rfl⟩ (g rfl h)
 exact AK.go Qr hC ds e ⟨trivial,rfl⟩ (f rfl h)
theorem mt_ {C:Ctx}{Q:Exit->St->Prop}{ks:List Fr}{σ:St}:AK Tryz.prog C Q (.x .normal) (.cut (fun s=>s=σ)::ks) σ:=AK.met rfl
theorem cb_ {a b:Bool}(h:a=b):V.b a=V.b b:=congrArg V.b h
theorem tc_ {a b:Bool}(h:a=b):True/\V.b a=V.b b:=⟨trivial,congrArg V.b h⟩
def QD3 : Exit->Bool
 | .normal=>true
 | .ret=>true
 | _=>false
theorem d1_ {C:Ctx}{t:Nat}{r:V}{outs:List (Nat×Ob)}{σ:St}{e:Exit}(hs:Qg0 σ.hp outs)(he:QD3 e=true:=by rfl)(h:Go.Vm.look σ.fr t=some r:=by rfl):AK Tryz.prog C (Qsz Tryz.prog [.tmp t] (Gives r outs)) (.x e) [] σ:=by
 cases e<;>first | exact AK.done ⟨[r],⟨h,trivial⟩,gives hs⟩|cases he
theorem d2_ {C:Ctx}{t u:Nat}{r s:V}{outs:List (Nat×Ob)}{σ:St}{e:Exit}(hs:Qg0 σ.hp outs)(he:QD3 e=true:=by rfl)(h:Go.Vm.look σ.fr t=some r:=by rfl)(k:Go.Vm.look σ.fr u=some s:=by rfl):AK Tryz.prog C (Qsz Tryz.prog [.tmp t,.tmp u] (Gives (.tup [r,s]) outs)) (.x e) [] σ:=by
 cases e<;>first | exact AK.done ⟨[r,s],⟨h,k,trivial⟩,gives hs⟩|cases he
theorem tg_ {C:Ctx}{Q:Exit->St->Prop}{n:Nat}{pt pt1:Pt}{ks ks1:List Fr}{σ σ1:St}(hC:Qdg Tryz.prog C n)(ds:List Dir)(h:AK Tryz.prog C Q pt1 ks1 σ1)(e:Vm.go Tryz.prog C tab n ds pt ks σ True=some ⟨pt1,ks1,σ1,True⟩:=by rfl):AK Tryz.prog C Q pt ks σ:=AK.go Qr hC ds e trivial h
theorem Qaq {c:Bool}{β:Type}{f:Unit->Option β}{r:β}(h:(chk c).bind f=some r):c=true/\f ()=some r:=by
 obtain⟨_,k,h⟩:=Qb h
 exact⟨QAG k,h⟩
abbrev QEV (a0 a1:V):List V:=[.J,.J,a0,.J,.J,.J,.J,a1,.J,.J,.J,.J,.J]
abbrev QrC (a0:V):List V:=[.J,.J,a0,.J,.J,.J,.J,.J,.J,.J,.J,.J,.J]
abbrev QEW (a0 a1 a2 a3 a4 a5 a6 a7 a8:V):List V:=[.J,.J,.J,.J,a0,a1,a2,a3,a4,.J,a5,a6,a7,.J,.J,.J,.J,.J,.J,.J,.J,.J,.J,.J,.J,.J,.J,.J,.J,.J,.J,.J,.J,.J,.J,.J,.J,.J,.J,.J,.J,.J,.J,.J,.J,.J,.J,.J,.J,.J,.J,.J,.J,.J,a8,.J,.J,.J,.J,.J,.J,.J,.J,.J,.J,.J,.J,.J,.J,.J,.J,.J,.J,.J,.J,.J,.J,.J,.J,.J,.J,.J,.J,.J,.J,.J,.J,.J,.J,.J,.J,.J,.J,.J,.J,.J,.J,.J,.J,.J,.J,.J,.J,.J,.J,.J,.J,.J,.J]
abbrev Qeh (a0 a1 a2 a3 a4 a5 a6 a7:V):List V:=[.J,.J,.J,.J,a0,a1,a2,a3,a4,.J,a5,a6,a7,.J,.J,.J,.J,.J,.J,.J,.J,.J,.J,.J,.J,.J,.J,.J,.J,.J,.J,.J,.J,.J,.J,.J,.J,.J,.J,.J,.J,.J,.J,.J,.J,.J,.J,.J,.J,.J,.J,.J,.J,.J,.J,.J,.J,.J,.J,.J,.J,.J,.J,.J,.J,.J,.J,.J,.J,.J,.J,.J,.J,.J,.J,.J,.J,.J,.J,.J,.J,.J,.J,.J,.J,.J,.J,.J,.J,.J,.J,.J,.J,.J,.J,.J,.J,.J,.J,.J,.J,.J,.J,.J,.J,.J,.J,.J,.J]
def QvS  : Option Qq:=
 some (Qq.mk ([(QE.mk (⟨#[110]⟩:ByteArray) 1 0 3 ([]:(List ByteArray)) 0 0)]:List QE) ([(QY.mk (⟨#[97]⟩:ByteArray) 0 ([]:QBg)),(QY.mk (⟨#[98]⟩:ByteArray) 0 ([]:QBg)),(QY.mk (⟨#[99]⟩:ByteArray) 0 ([]:QBg))]:List QY) ([(QG.mk (⟨#[116]⟩:ByteArray) ([(Qat.mk (⟨#[120]⟩:ByteArray) 0)]:List Qat) (Qh.mk 1 1 ([]:(List Qh))) 1 1 ([(Qap.mk 0 (Qh.mk 2 0 ([]:(List Qh))))]:List Qap) ([(Qap.mk 1 (Qh.mk 5 1 ([(Qh.mk 2 0 ([]:(List Qh))),(Qh.mk 1 1 ([]:(List Qh)))]:List Qh)))]:List Qap) ([2]:List Int) 0 (0,0,0))]:List QG) 0 1)
theorem Qx1  {r:Qq}(h:QvS  = some r):Qc prog 29 [] [] (Gives (.agg (Qd r)) []):=by
 refine wk_ 29 func29 fun C a=>?_
 refine Qa a [7,.v .no [none,none,some 3] (.agg (Qj (Qh.mk 2 0 ([]:(List Qh))))),2,.O 1 (.var (Qj (Qh.mk 2 0 ([]:(List Qh))))),4,.v .no [none,none,some 3] (.agg (Qj (Qh.mk 1 1 ([]:(List Qh))))),2,.O 2 (.var (Qj (Qh.mk 1 1 ([]:(List Qh))))),4,.A (Qj (Qh.mk 2 0 ([]:(List Qh)))),.A (Qj (Qh.mk 1 1 ([]:(List Qh)))),.v (.bd []) [] (.sl 3 (Qa6 ([(Qh.mk 2 0 ([]:(List Qh))),(Qh.mk 1 1 ([]:(List Qh)))]:List Qh))),.A (Qj (Qh.mk 5 1 ([(Qh.mk 2 0 ([]:(List Qh))),(Qh.mk 1 1 ([]:(List Qh)))]:List Qh))),2,.O 3 (.var (Qj (Qh.mk 5 1 ([(Qh.mk 2 0 ([]:(List Qh))),(Qh.mk 1 1 ([]:(List Qh)))]:List Qh)))),4,.v .no [none,none,none,none,some 1,none,none] (.agg (Qs (QE.mk (⟨#[110]⟩:ByteArray) 1 0 3 ([]:(List ByteArray)) 0 0))),.v (.bd []) [] (.sl 7 (([(QE.mk (⟨#[110]⟩:ByteArray) 1 0 3 ([]:(List ByteArray)) 0 0)]:List QE).map Qs)),.v .no [none,none,some 2] (.agg (QC (QY.mk (⟨#[97]⟩:ByteArray) 0 ([]:QBg)))),.v .no [none,none,some 2] (.agg (QC (QY.mk (⟨#[98]⟩:ByteArray) 0 ([]:QBg)))),.v .no [none,none,some 2] (.agg (QC (QY.mk (⟨#[99]⟩:ByteArray) 0 ([]:QBg)))),.v (.bd []) [] (.sl 3 (([(QY.mk (⟨#[97]⟩:ByteArray) 0 ([]:QBg)),(QY.mk (⟨#[98]⟩:ByteArray) 0 ([]:QBg)),(QY.mk (⟨#[99]⟩:ByteArray) 0 ([]:QBg))]:List QY).map QC)),.A (QL (Qat.mk (⟨#[120]⟩:ByteArray) 0)),.v (.bd []) [] (.sl 2 (([(Qat.mk (⟨#[120]⟩:ByteArray) 0)]:List Qat).map QL)),.A (Qj (Qh.mk 1 1 ([]:(List Qh)))),.A (Qj (Qh.mk 2 0 ([]:(List Qh)))),.A (Q2 (Qap.mk 0 (Qh.mk 2 0 ([]:(List Qh))))),.v (.bd []) [] (.sl 4 (([(Qap.mk 0 (Qh.mk 2 0 ([]:(List Qh))))]:List Qap).map Q2)),.A (Qj (Qh.mk 5 1 ([(Qh.mk 2 0 ([]:(List Qh))),(Qh.mk 1 1 ([]:(List Qh)))]:List Qh))),.A (Q2 (Qap.mk 1 (Qh.mk 5 1 ([(Qh.mk 2 0 ([]:(List Qh))),(Qh.mk 1 1 ([]:(List Qh)))]:List Qh)))),.v (.bd []) [] (.sl 4 (([(Qap.mk 1 (Qh.mk 5 1 ([(Qh.mk 2 0 ([]:(List Qh))),(Qh.mk 1 1 ([]:(List Qh)))]:List Qh)))]:List Qap).map Q2)),.v (.bd []) [] (.sl 1 (([2]:List Int).map Qe)),.A (Qm (QG.mk (⟨#[116]⟩:ByteArray) ([(Qat.mk (⟨#[120]⟩:ByteArray) 0)]:List Qat) (Qh.mk 1 1 ([]:(List Qh))) 1 1 ([(Qap.mk 0 (Qh.mk 2 0 ([]:(List Qh))))]:List Qap) ([(Qap.mk 1 (Qh.mk 5 1 ([(Qh.mk 2 0 ([]:(List Qh))),(Qh.mk 1 1 ([]:(List Qh)))]:List Qh)))]:List Qap) ([2]:List Int) 0 (0,0,0))),.v (.bd []) [] (.sl 14 (([(QG.mk (⟨#[116]⟩:ByteArray) ([(Qat.mk (⟨#[120]⟩:ByteArray) 0)]:List Qat) (Qh.mk 1 1 ([]:(List Qh))) 1 1 ([(Qap.mk 0 (Qh.mk 2 0 ([]:(List Qh))))]:List Qap) ([(Qap.mk 1 (Qh.mk 5 1 ([(Qh.mk 2 0 ([]:(List Qh))),(Qh.mk 1 1 ([]:(List Qh)))]:List Qh)))]:List Qap) ([2]:List Int) 0 (0,0,0))]:List QG).map Qm)),.A (Qd (Qq.mk ([(QE.mk (⟨#[110]⟩:ByteArray) 1 0 3 ([]:(List ByteArray)) 0 0)]:List QE) ([(QY.mk (⟨#[97]⟩:ByteArray) 0 ([]:QBg)),(QY.mk (⟨#[98]⟩:ByteArray) 0 ([]:QBg)),(QY.mk (⟨#[99]⟩:ByteArray) 0 ([]:QBg))]:List QY) ([(QG.mk (⟨#[116]⟩:ByteArray) ([(Qat.mk (⟨#[120]⟩:ByteArray) 0)]:List Qat) (Qh.mk 1 1 ([]:(List Qh))) 1 1 ([(Qap.mk 0 (Qh.mk 2 0 ([]:(List Qh))))]:List Qap) ([(Qap.mk 1 (Qh.mk 5 1 ([(Qh.mk 2 0 ([]:(List Qh))),(Qh.mk 1 1 ([]:(List Qh)))]:List Qh)))]:List Qap) ([2]:List Int) 0 (0,0,0))]:List QG) 0 1)),1,.O 0 (.var (Qd (Qq.mk ([(QE.mk (⟨#[110]⟩:ByteArray) 1 0 3 ([]:(List ByteArray)) 0 0)]:List QE) ([(QY.mk (⟨#[97]⟩:ByteArray) 0 ([]:QBg)),(QY.mk (⟨#[98]⟩:ByteArray) 0 ([]:QBg)),(QY.mk (⟨#[99]⟩:ByteArray) 0 ([]:QBg))]:List QY) ([(QG.mk (⟨#[116]⟩:ByteArray) ([(Qat.mk (⟨#[120]⟩:ByteArray) 0)]:List Qat) (Qh.mk 1 1 ([]:(List Qh))) 1 1 ([(Qap.mk 0 (Qh.mk 2 0 ([]:(List Qh))))]:List Qap) ([(Qap.mk 1 (Qh.mk 5 1 ([(Qh.mk 2 0 ([]:(List Qh))),(Qh.mk 1 1 ([]:(List Qh)))]:List Qh)))]:List Qap) ([2]:List Int) 0 (0,0,0))]:List QG) 0 1))),3,.K [0] [0]] rfl ⟨⟨⟨⟨⟨⟨⟨⟨⟨⟨⟨⟨⟨⟨⟨⟨⟨⟨⟨⟨⟨⟨⟨⟨⟨⟨⟨⟨⟨tt_,rfl⟩,rfl⟩,rfl⟩,rfl⟩,rfl⟩,rfl⟩,rfl⟩,rfl⟩,rfl⟩,rfl⟩,rfl⟩,rfl⟩,rfl⟩,rfl⟩,rfl⟩,rfl⟩,rfl⟩,rfl⟩,rfl⟩,rfl⟩,rfl⟩,rfl⟩,rfl⟩,rfl⟩,rfl⟩,rfl⟩,rfl⟩,rfl⟩,rfl⟩ ?_
 cases h
 exact AK.done (ex_ [_] (an_ (an_ (ex_ _ (ex_ _ (an_ rfl (an_ rfl (Or.inl (an_ (Qr.ag rfl) (an_ (Qr.sz rfl) rfl))))))) tt_) (gives tt_)))
def Qgg (a:Int)(b:Int):Option Int:=
 bif (decide (b<a))then
 some 0
 else
 some (w64 ((w64 (min2 (IntKind.u64.wrap ((IntKind.u64.wrap b)-(IntKind.u64.wrap a))) 1024))+1))
theorem Qv5 (a b){r}(h:Qgg a b=some r):Qc prog 235 [.I a,.I b] [] (Gives (.I r) []):=by
 refine wk_ 16 func235 fun C d=>?_
 refine tg_ d [13] ?_
 refine bg_ h (fun c h=>Qa d [.T,7,.K [4] []] rfl (a1_ c) ?_) fun c h=>Qa d [.F,5,.o (.any (.i .u64 (IntKind.u64.wrap b)) none),1,.o (.any (.i .u64 (IntKind.u64.wrap a)) none),2,.o (.any (.I (w64 (min2 (IntKind.u64.wrap ((IntKind.u64.wrap b)-(IntKind.u64.wrap a))) 1024))) none),5,.K [4] []] rfl (a4_ c (fun σ e f _=>Stp.convI rfl rfl (QN d.n rfl) (e _ _ rfl) QzH Quh) (fun σ e f _=>Stp.convI rfl rfl (QN d.n rfl) (e _ _ rfl) QzH Quh) (fun σ e f _=>Stp.convI rfl rfl (QN d.n rfl) (e _ _ rfl) Quh QzH)) ?_
 ·cases h
  exact d1_ tt_
 cases h
 exact d1_ tt_
def QdT (a:Int):Option Bool:=
 some (bif (decide (97<=a))then((decide (a<=122))||((decide (65<=a))&&(decide (a<=90))))else((decide (65<=a))&&(decide (a<=90))))
theorem QnU (a){r}(h:QdT a=some r):Qc prog 204 [.i .u8 a] [] (Gives (.b r) []):=by
 refine wk_ 17 func204 fun C e=>?_
 unfold QdT at h
 refine tg_ e [6] ?_
 refine AK.meetX (fun σ=>σ=⟨[(2,.b (bif (decide (97<=a))then((decide (a<=122))||((decide (65<=a))&&(decide (a<=90))))else((decide (65<=a))&&(decide (a<=90)))))],[]⟩) ?_ ?_
 ·refine tg_ e [4] ?_
  rcases QD (decide (97<=a))with c | c
  ·refine Qa e [.S 5 (.b true),4] rfl (tc_ c) ?_
   rcases QD (decide (a<=122))with d | d
   ·refine Qa e [.S 9 (.b true),9,.S 2 (.b (bif (decide (97<=a))then((decide (a<=122))||((decide (65<=a))&&(decide (a<=90))))else((decide (65<=a))&&(decide (a<=90))))),.K [2] []] rfl ⟨(tc_ d),(congrArg V.b (QlQ c (orT d rfl)))⟩ ?_
    exact mt_
   refine Qa e [.S 9 (.b false),3] rfl (tc_ d) ?_
   rcases QD (decide (65<=a))with f | f
   ·refine Qa e [.S 12 (.b true),6,.S 2 (.b (bif (decide (97<=a))then((decide (a<=122))||((decide (65<=a))&&(decide (a<=90))))else((decide (65<=a))&&(decide (a<=90))))),.K [2] []] rfl ⟨(tc_ f),(congrArg V.b (QlQ c (orF d (Qah f rfl))))⟩ ?_
    exact mt_
   refine Qa e [.S 12 (.b false),6,.S 2 (.b (bif (decide (97<=a))then((decide (a<=122))||((decide (65<=a))&&(decide (a<=90))))else((decide (65<=a))&&(decide (a<=90))))),.K [2] []] rfl ⟨(tc_ f),(congrArg V.b (QlQ c (orF d (QaL f rfl))))⟩ ?_
   exact mt_
  refine Qa e [.S 5 (.b false),7] rfl (tc_ c) ?_
  rcases QD (decide (65<=a))with g | g
  ·refine Qa e [.S 12 (.b true),6,.S 2 (.b (bif (decide (97<=a))then((decide (a<=122))||((decide (65<=a))&&(decide (a<=90))))else((decide (65<=a))&&(decide (a<=90))))),.K [2] []] rfl ⟨(tc_ g),(congrArg V.b (Qrx c (Qah g rfl)))⟩ ?_
   exact mt_
  refine Qa e [.S 12 (.b false),6,.S 2 (.b (bif (decide (97<=a))then((decide (a<=122))||((decide (65<=a))&&(decide (a<=90))))else((decide (65<=a))&&(decide (a<=90))))),.K [2] []] rfl ⟨(tc_ g),(congrArg V.b (Qrx c (QaL g rfl)))⟩ ?_
  exact mt_
 rintro σ rfl
 refine tg_ e [2] ?_
 cases h
 exact d1_ tt_
def QhQ (a:ByteArray):Option Bool:=
 bif (QbT a (⟨#[]⟩:ByteArray))then
 some true
 else
 bif (decide (32<(a.size:Int)))then
 some true
 else
 (sidx a 0).bind fun b=>
 (QdT b).bind fun c=>
 some (!c)
def QlU (a:Int):Option Bool:=
 (QdT a).bind fun b=>
 bif (!b)then
 bif (decide (a<48))then
 some (a != 95)
 else
 bif (decide (57<a))then
 some (a != 95)
 else
 some false
 else
 some false
def QfF (a:Int)(b:Bool):Option (Int⊕(Unit⊕Unit)):=
 bif b then
 some (.inr (.inl ()))
 else
 some (.inl (w64 (a+1)))
def Qdp (d:ByteArray)(a:Int):Option (Int⊕(Unit⊕Unit)):=
 bif (decide (a<(d.size:Int)))then
 (sidx d a).bind fun b=>
 (QlU b).bind (fun c=>QfF a c)
 else
 some (.inr (.inr ()))
def QhR : Option Bool:=
 some false
def QhS : Option Bool:=
 some true
def QfG (a:ByteArray)(b:Bool):Option Bool:=
 bif b then
 some false
 else
 (Qy (fun st=>Qdp a st) 0).bind (Sum.elim (fun q=>QhR) (fun q=>QhS))
def Qdi (a:ByteArray):Option Bool:=
 (QhQ a).bind (fun b=>QfG a b)
theorem QlV (m){r}(h:Qdi m=some r):Qc prog 164 [.s m] [] (Gives (.b r) []):=by
 refine wk_ 42 func164 fun C a=>?_
 refine tg_ a [7] ?_
 obtain⟨A,B,h⟩:=Qb h
 replace h:QfG m A=some r:=h
 refine AK.meetX (fun σ=>σ=⟨[(0,.s m),(17,.b A)],[]⟩) ?_ ?_
 ·replace h:=B
  refine tg_ a [4] ?_
  refine bg_ h (fun p h=>Qa a [.S 7 (.b true),11,.K [0,17] []] rfl (tc_ p) ?_) fun p h=>Qa a [.S 7 (.b false),5] rfl (tc_ p) ?_
  ·cases h
   exact mt_
  rcases Qo h with⟨t,h⟩|⟨t,h⟩
  ·refine Qa a [.S 12 (.b true),6,.K [0,17] []] rfl (tc_ t) ?_
   cases h
   exact mt_
  obtain⟨L,D,h⟩:=Qb h
  obtain⟨M,E,h⟩:=Qb h
  refine Qa a [.S 12 (.b false),1,.o (.num L),.o (.C1 (.b M)),3,.K [0,17] []] rfl ⟨⟨(tc_ t),D⟩,(QnU _ E)⟩ ?_
  cases h
  exact mt_
 rintro σ rfl
 replace h:QfG m A=some r:=h
 refine tg_ a [1] ?_
 refine bq_ a h [.T,7,.K [2] []] rfl (fun f h=>?_) [.F,11,.K [0,19,20] []] rfl fun f h=>?_
 ·cases h
  exact d1_ tt_
 obtain⟨G,w,h⟩:=Qb h
 refine AK.loop (body:=(fun st=>Qdp m st)) (fun st σ=>σ=⟨[(0,.s m),(19,.I (m.size:Int)),(20,.I st)],[]⟩) (Sum.elim (fun q e σ=>e=.ret/\σ=⟨[(2,.b false)],[]⟩) (fun q e σ=>e=.exit 0/\σ=⟨[],[]⟩)) w rfl ?_ ?_
 ·rintro u o σ rfl h
  refine tg_ a [6] ?_
  rcases Qo h with⟨g,h⟩|⟨g,h⟩
  ·obtain⟨H,x,h⟩:=Qb h
   refine Qa a [.T,14,.o (.num H),4] rfl (a2_ g x) ?_
   obtain⟨v,y,h⟩:=Qb h
   replace h:QfF u v=some o:=h
   refine AK.meetX (fun σ=>σ=⟨[(0,.s m),(19,.I (m.size:Int)),(20,.I u),(40,.b v)],[]⟩) ?_ ?_
   ·replace h:=y
    obtain⟨J,z,h⟩:=Qb h
    refine Qa a [2,.o (.C1 (.b J)),2] rfl (a1_ (QnU _ z)) ?_
    refine bg_ h (fun i h=>Qa a [.S 29 (.b true),3] rfl (tc_ i) ?_) fun i h=>Qa a [.S 29 (.b false),12,.K [0,19,20,40] []] rfl (tc_ i) ?_
    ·refine bg_ h (fun j h=>Qa a [.S 32 (.b true),9,.K [0,19,20,40] []] rfl (tc_ j) ?_) fun j h=>Qa a [.S 32 (.b false),5] rfl (tc_ j) ?_
     ·cases h
      exact mt_
     refine bg_ h (fun k h=>Qa a [.S 37 (.b true),4,.K [0,19,20,40] []] rfl (tc_ k) ?_) fun k h=>Qa a [.S 37 (.b false),4,.K [0,19,20,40] []] rfl (tc_ k) ?_
     ·cases h
      exact mt_
     cases h
     exact mt_
    cases h
    exact mt_
   rintro σ rfl
   replace h:QfF u v=some o:=h
   refine tg_ a [1] ?_
   refine bq_ a h [.T,8,.K [2] []] rfl (fun l h=>?_) [.F,7,.K [0,19,20] []] rfl fun l h=>?_
   ·cases h
    exact Qab rfl (an_ rfl rfl)
   cases h
   exact QU rfl rfl
  refine Qa a [.F,2,.K [] []] rfl (a1_ g) ?_
  cases h
  exact QW rfl (an_ rfl rfl)
 rcases G with(_ | _)
 ·replace h:QhR=some r:=h
  rintro e σ ⟨rfl,rfl⟩
  refine tg_ a [2] ?_
  cases h
  exact d1_ tt_
 replace h:QhS=some r:=h
 rintro e σ ⟨rfl,rfl⟩
 refine tg_ a [8] ?_
 cases h
 exact d1_ tt_
def QkZ (a:ByteArray)(c:QSB):Option Bool:=
 (Qdi a).bind fun b=>
 bif (!b)then
 some true
 else
 some ((QV c a).getD false)
def Qe8 (c:Int)(d:QSB)(a:ByteArray)(b:Bool):Option ((Int×QSB)⊕(Unit⊕Unit)):=
 bif b then
 some (.inr (.inl ()))
 else
 some (.inl ((w64 (c+1)),(Qcv ltS d a true)))
def Qch (d:(List ByteArray))(b:Int)(e:QSB):Option ((Int×QSB)⊕(Unit⊕Unit)):=
 bif (decide (b<(d.length:Int)))then
 (idx d b).bind fun a=>
 (QkZ a e).bind (fun c=>Qe8 b e a c)
 else
 some (.inr (.inr ()))
def Qg2 : Option Bool:=
 some false
def Qg3 : Option Bool:=
 some true
def Qfs (a:(List ByteArray)):Option Bool:=
 (Qy (fun st=>Qch a st.1 st.2) (0,([]:QSB))).bind (Sum.elim (fun q=>Qg2) (fun q=>Qg3))
theorem Qvg (m){r}(h:Qfs m=some r):Qc prog 236 [.sl 1 (m.map Qcq)] [] (Gives (.b r) []):=by
 refine wk_ 24 func236 fun C g=>?_
 refine Qa g [8,.O 6 (.map (QP V.s V.b ([]:QSB))),7,.o (.ln m.length),4,.K [3,7,8,9] [6]] rfl (a2_ rfl Qg) ?_
 obtain⟨D,w,h⟩:=Qb h
 refine AK.loop (body:=(fun st=>Qch m st.1 st.2)) (fun st σ=>σ=⟨[(3,.map 6),(7,.sl 1 (m.map Qcq)),(8,.I (m.length:Int)),(9,.I st.1)],[(6,.map (QP V.s V.b st.2))]⟩) (Sum.elim (fun q e σ=>e=.ret/\σ=⟨[(2,.b false)],[]⟩) (fun q e σ=>e=.exit 0/\σ=⟨[],[]⟩)) w rfl ?_ ?_
 ·rintro ⟨E,p⟩ o σ rfl h
  refine tg_ g [6] ?_
  rcases Qo h with⟨t,h⟩|⟨t,h⟩
  ·obtain⟨a,y,h⟩:=Qb h
   refine Qa g [.T,6,.o (.row (Qcq a)),6] rfl (a2_ t (QF y)) ?_
   obtain⟨u,A,h⟩:=Qb h
   replace h:Qe8 E p a u=some o:=h
   refine AK.meetX (fun σ=>σ=⟨[(3,.map 6),(5,.s a),(7,.sl 1 (m.map Qcq)),(8,.I (m.length:Int)),(9,.I E),(20,.b u)],[(6,.map (QP V.s V.b p))]⟩) ?_ ?_
   ·replace h:=A
    obtain⟨G,B,h⟩:=Qb h
    refine Qa g [2,.o (.C1 (.b G)),2] rfl (a1_ (QlV _ B)) ?_
    refine bg_ h (fun i h=>Qa g [.S 16 (.b true),5,.K [3,5,7,8,9,20] [6]] rfl (tc_ i) ?_) fun i h=>Qa g [.S 16 (.b false),2,.o (.any (.b ((QV p a).getD false)) none),2,.K [3,5,7,8,9,20] [6]] rfl ⟨(tc_ i),(fun σ H J _=>Stp.lookup (e:=V.s) (f:=V.b) (l:=p) (k:=a) (z:=false) rfl rfl (QN g.n rfl) (H _ _ rfl) (J _ _ rfl) (H _ _ rfl) Qw4 QBd QDW rfl)⟩ ?_
    ·cases h
     exact mt_
    cases h
    exact mt_
   rintro σ rfl
   replace h:Qe8 E p a u=some o:=h
   refine tg_ g [1] ?_
   refine bg_ h (fun j h=>Qa g [.T,9,.K [2] []] rfl (a1_ j) ?_) fun j h=>Qa g [.F,5,.x (fun σ=>σ.set 6 (.map (QP V.s V.b (Qcv ltS p a true)))),7,.K [3,7,8,9] [6]] rfl (a2_ j (Stp.mapUpdate (e:=V.s) (f:=V.b) (l:=p) (k:=a) (v:=true) ltS rfl rfl rfl rfl rfl rfl Qw4 QBd rfl)) ?_
   ·cases h
    exact Qab rfl (an_ rfl rfl)
   cases h
   exact QU rfl rfl
  refine Qa g [.F,2,.K [] []] rfl (a1_ t) ?_
  cases h
  exact QW rfl (an_ rfl rfl)
 rcases D with(_ | _)
 ·replace h:Qg2=some r:=h
  rintro e σ ⟨rfl,rfl⟩
  refine tg_ g [2] ?_
  cases h
  exact d1_ tt_
 replace h:Qg3=some r:=h
 rintro e σ ⟨rfl,rfl⟩
 refine tg_ g [8] ?_
 cases h
 exact d1_ tt_
def Qdq : Option Int:=
 some 0
def Qgh (b:QE)(a:(List Int)):Option Int:=
 bif (b.Kind==1)then
 (Qgg b.Lo b.Hi).bind fun e=>
 some e
 else
 bif (b.Kind==2)then
 (Qfs b.Names).bind fun f=>
 bif f then
 some (b.Names.length:Int)
 else
 Qdq
 else
 bif (b.Kind==3)then
 bif ((decide (0<=(min2 b.First b.Then)))&&(decide ((max2 b.First b.Then)<(a.length:Int))))then
 (idx a b.First).bind fun c=>
 (idx a b.Then).bind fun d=>
 some (w64 (c*d))
 else
 Qdq
 else
 Qdq
theorem Qv6 (g e){r}(h:Qgh g e=some r):Qc prog 203 [.agg (Qs g),.sl 1 (e.map Qe)] [] (Gives (.I r) []):=by
 refine wk_ 51 func203 fun C f=>?_
 refine tg_ f [6] ?_
 refine AK.meet (fun σ=>σ=⟨[],[]⟩/\Qdq=some r) ?_ ?_
 ·refine tg_ f [13] ?_
  rcases Qo h with⟨l,h⟩|⟨l,h⟩
  ·obtain⟨x,t,h⟩:=Qb h
   refine Qa f [.T,6,.o (.C2 (.I x)),6] rfl (a2_ l (Qv5 _ _ t)) ?_
   cases h
   exact d1_ tt_
  refine Qa f [.F,6] rfl (a1_ l) ?_
  rcases Qo h with⟨m,h⟩|⟨m,h⟩
  ·obtain⟨y,u,h⟩:=Qb h
   refine Qa f [.T,4,.o (.C1 (.b y)),2] rfl (a2_ m (Qvg _ u)) ?_
   refine bg_ h (fun p h=>Qa f [.T,4,.o (.ln g.Names.length),6,.K [4] []] rfl (a2_ p Qg) ?_) fun p h=>Qa f [.F,2,.K [] []] rfl (a1_ p) ?_
   ·cases h
    exact d1_ tt_
   exact AK.met (an_ rfl h)
  refine Qa f [.F,6] rfl (a1_ m) ?_
  refine bq_ f h [.T,1] rfl (fun j h=>?_) [.F,2,.K [] []] rfl fun j h=>?_
  ·refine AK.meetX (fun σ=>σ=⟨[(1,.sl 1 (e.map Qe)),lk_ 2,(39,.b ((decide (0<=(min2 g.First g.Then)))&&(decide ((max2 g.First g.Then)<(e.length:Int)))))],[(2,.var (Qs g))]⟩) ?_ ?_
   ·refine tg_ f [8] ?_
    rcases QD (decide (0<=(min2 g.First g.Then)))with i | i
    ·refine Qa f [.S 30 (.b true),6,.o (.ln e.length),3,.S 39 (.b ((decide (0<=(min2 g.First g.Then)))&&(decide ((max2 g.First g.Then)<(e.length:Int))))),.K [1,2,39] [2]] rfl ⟨⟨(tc_ i),Qg⟩,(congrArg V.b (Qah i rfl))⟩ ?_
     exact mt_
    refine Qa f [.S 30 (.b false),10,.S 39 (.b ((decide (0<=(min2 g.First g.Then)))&&(decide ((max2 g.First g.Then)<(e.length:Int))))),.K [1,2,39] [2]] rfl ⟨(tc_ i),(congrArg V.b (QaL i rfl))⟩ ?_
    exact mt_
   rintro σ rfl
   refine tg_ f [1] ?_
   rcases Qo h with⟨k,h⟩|⟨k,h⟩
   ·obtain⟨v,q,h⟩:=Qb h
    obtain⟨w,s,h⟩:=Qb h
    refine Qa f [.T,1,.K [1,2] [2]] rfl (a1_ k) ?_
    refine AK.draw2 Qr f mixed [.N,.N,.N,.a (.row (Qe v)) none false,.N,.N,.N,.N,.a (.row (Qe w)) none false,.N,.N,.N] [] [] [4] [] rfl rfl rfl ⟨⟨tt_,(QF q)⟩,(QF s)⟩ rfl (by kernel_rfl) rfl rfl rfl ?_
    refine tg_ f [4] ?_
    cases h
    exact d1_ tt_
   refine Qa f [.F,2,.K [] []] rfl (a1_ k) ?_
   exact AK.met (an_ rfl h)
  exact AK.met (an_ rfl h)
 rintro σ ⟨rfl,h⟩
 refine tg_ f [6] ?_
 cases h
 exact d1_ tt_
def Qk0 (a:QE)(d:QSB)(b:Int):Option Bool:=
 (Qdi a.Name).bind fun c=>
 bif (!c)then
 some true
 else
 bif ((QV d a.Name).getD false)then
 some true
 else
 bif (decide (b<1))then
 some true
 else
 some (decide (1024<b))
def Qe9 (a:(List Int))(b:Int)(e:Int)(f:QSB)(c:QE)(d:Bool):Option ((Int×QSB×(List Int))⊕(Unit⊕(List Int))):=
 bif d then
 some (.inr (.inl ()))
 else
 (chk (decide (a.length+([b]:List Int).length<=4294967296))).bind fun _=>
 some (.inl ((w64 (e+1)),(Qcv ltS f c.Name true),(a++([b]:List Int))))
def Qci (f:(List QE))(d:Int)(g:QSB)(a:(List Int)):Option ((Int×QSB×(List Int))⊕(Unit⊕(List Int))):=
 bif (decide (d<(f.length:Int)))then
 (idx f d).bind fun b=>
 (Qgh b a).bind fun c=>
 (Qk0 b g c).bind (fun e=>Qe9 a c d g b e)
 else
 some (.inr (.inr a))
def Qon : Option ((List Int)×Bool):=
 some (([]:List Int),false)
def Qoo (a:(List Int)):Option ((List Int)×Bool):=
 some (a,true)
def Qew (a:(List QE)):Option ((List Int)×Bool):=
 bif (decide (32<(a.length:Int)))then
 some (([]:List Int),false)
 else
 (Qy (fun st=>Qci a st.1 st.2.1 st.2.2) (0,([]:QSB),([]:List Int))).bind (Sum.elim (fun q=>Qon) (fun q=>Qoo q))
theorem Qop (y){r}(h:Qew y=some r):Qc prog 163 [.sl 7 (y.map Qs)] [] (Gives (.tup [.sl 1 (r.1.map Qe),.b r.2]) []):=by
 refine wk_ 49 func163 fun C g=>?_
 refine Qa g [10,.o (.ln y.length),3] rfl (a1_ Qg) ?_
 refine bg_ h (fun A h=>Qa g [.T,8,.denil 2 [some 1],.K [2,3] []] rfl (a1_ A) ?_) fun A h=>Qa g [.F,5,.O 12 (.map (QP V.s V.b ([]:QSB))),12,.o (.ln y.length),4,.adopt 5 43 1,.O 43 (.arr 1 (([]:List Int).map Qe)),.S 5 (.own 43 ([]:List Int).length),.K [4,5,13,14,15] [12,43]] rfl (a5_ A rfl Qg rfl (congrArg (fun n=>V.own 43 n) (by simp))) ?_
 ·cases h
  exact d2_ tt_
 obtain⟨P,E,h⟩:=Qb h
 refine AK.loop (body:=(fun st=>Qci y st.1 st.2.1 st.2.2)) (fun st σ=>σ=⟨[(4,.map 12),(5,.own 43 st.2.2.length),(13,.sl 7 (y.map Qs)),(14,.I (y.length:Int)),(15,.I st.1)],[(12,.map (QP V.s V.b st.2.1)),(43,.arr 1 (st.2.2.map Qe))]⟩) (Sum.elim (fun q e σ=>e=.ret/\σ=⟨[(2,.lit (.slice none 0 0)),(3,.b false)],[]⟩) (fun q e σ=>e=.exit 0/\σ=⟨[(5,.own 43 q.length)],[(43,.arr 1 (q.map Qe))]⟩)) E rfl ?_ ?_
 ·rintro ⟨U,B,i⟩ o σ rfl h
  refine tg_ g [6] ?_
  rcases Qo h with⟨m,h⟩|⟨m,h⟩
  ·obtain⟨a,G,h⟩:=Qb h
   obtain⟨j,H,h⟩:=Qb h
   refine Qa g [.T,6,.o (.row (Qs a)),.A (Qs a),2,.O 7 (.var (Qs a)),4,.A (Qs a),1,.o (.c true [.d,.o (i.map Qe)] (.I j)),5] rfl (a6_ m (QF G) rfl rfl rfl ⟨(Qva rfl),(Qv6 _ _ H)⟩) ?_
   obtain⟨D,J,h⟩:=Qb h
   replace h:Qe9 i j U B a D=some o:=h
   refine AK.meetX (fun σ=>σ=⟨[(4,.map 12),(5,.own 43 i.length),lk_ 7,(8,.I j),(13,.sl 7 (y.map Qs)),(14,.I (y.length:Int)),(15,.I U),(39,.b D)],[(7,.var (Qs a)),(12,.map (QP V.s V.b B)),(43,.arr 1 (i.map Qe))]⟩) ?_ ?_
   ·replace h:=J
    obtain⟨W,L,h⟩:=Qb h
    refine Qa g [3,.o (.C1 (.b W)),2] rfl (a1_ (QlV _ L)) ?_
    refine bg_ h (fun p h=>Qa g [.S 26 (.b true),14,.K [4,5,7,8,13,14,15,39] [7,12,43]] rfl (tc_ p) ?_) fun p h=>Qa g [.S 26 (.b false),3,.o (.any (.b ((QV B a.Name).getD false)) none),2] rfl ⟨(tc_ p),(fun σ X Y _=>Stp.lookup (e:=V.s) (f:=V.b) (l:=B) (k:=a.Name) (z:=false) rfl rfl (QN g.n rfl) (X _ _ rfl) (Y _ _ rfl) (X _ _ rfl) Qw4 QBd QDW rfl)⟩ ?_
    ·cases h
     exact mt_
    refine bg_ h (fun t h=>Qa g [.S 32 (.b true),8,.K [4,5,7,8,13,14,15,39] [7,12,43]] rfl (tc_ t) ?_) fun t h=>Qa g [.S 32 (.b false),4] rfl (tc_ t) ?_
    ·cases h
     exact mt_
    refine bg_ h (fun u h=>Qa g [.S 36 (.b true),4,.K [4,5,7,8,13,14,15,39] [7,12,43]] rfl (tc_ u) ?_) fun u h=>Qa g [.S 36 (.b false),4,.K [4,5,7,8,13,14,15,39] [7,12,43]] rfl (tc_ u) ?_
    ·cases h
     exact mt_
    cases h
    exact mt_
   rintro σ rfl
   replace h:Qe9 i j U B a D=some o:=h
   refine tg_ g [1] ?_
   rcases Qo h with⟨w,h⟩|⟨w,h⟩
   ·refine Qa g [.T,10,.K [2,3] []] rfl (a1_ w) ?_
    cases h
    exact Qab rfl (an_ rfl rfl)
   obtain⟨M,h⟩:=Qaq h
   refine Qa g [.F,7,.x (fun σ=>σ.set 12 (.map (QP V.s V.b (Qcv ltS B a.Name true)))),5,.v (.bd []) [] (.sl 1 (([j]:List Int).map Qe)),.app ((i++([j]:List Int)).map Qe) (i++([j]:List Int)).length,8,.K [4,5,13,14,15] [12,43]] rfl (a4_ w (Stp.mapUpdate (e:=V.s) (f:=V.b) (l:=B) (k:=a.Name) (v:=true) ltS rfl rfl rfl rfl rfl rfl Qw4 QBd rfl) rfl ⟨Qg,Qba M Qg,Qao,Qbq Qg⟩) ?_
   cases h
   exact QU rfl rfl
  refine Qa g [.F,2,.K [5] [43]] rfl (a1_ m) ?_
  cases h
  exact QW rfl (an_ rfl rfl)
 rcases P with(_ | N)
 ·replace h:Qon=some r:=h
  rintro e σ ⟨rfl,rfl⟩
  refine tg_ g [2,.denil 2 [some 1]] ?_
  cases h
  exact d2_ tt_
 replace h:Qoo N=some r:=h
 rintro e σ ⟨rfl,rfl⟩
 refine Qa g [10,.frz 43 (N.map Qe) [2] []] rfl (a1_ (a1_ (QbU Qg))) ?_
 cases h
 exact d2_ tt_
def Qc7 (a:(List QE))(b:Int):Option (Bool×Qaw):=
 (Qew a).bind fun c=>
 bif ((!c.2)||((decide (b<0))||(decide ((a.length:Int)<=b))))then
 some (false,(Qaw.mk ([]:(List QE)) ([]:(List Int)) 0))
 else
 some (true,(Qaw.mk a c.1 b))
theorem Qnk (i e){r}(h:Qc7 i e=some r):Qc prog 98 [.sl 7 (i.map Qs),.I e] [] (Gives (.tup [.agg (Q3 r.2),.b r.1]) []):=by
 refine wk_ 30 func98 fun C k=>?_
 obtain⟨j,l,h⟩:=Qb h
 refine Qa k [9,.o (.C1 (.tup [.sl 1 (j.1.map Qe),.b j.2])),9] rfl (a1_ (Qop _ l)) ?_
 refine AK.meetX (fun σ=>σ=⟨[(0,.sl 7 (i.map Qs)),(1,.I e),lk_ 4,(6,.sl 1 (j.1.map Qe)),(24,.b ((!j.2)||((decide (e<0))||(decide ((i.length:Int)<=e)))))],[(4,.var [.lit (.slice none 0 0),.lit (.slice none 0 0),.I 0])]⟩) ?_ ?_
 ·refine tg_ k [4] ?_
  rcases QD (!j.2)with f | f
  ·refine Qa k [.S 15 (.b true),10,.S 24 (.b ((!j.2)||((decide (e<0))||(decide ((i.length:Int)<=e))))),.K [0,1,4,6,24] [4]] rfl ⟨(tc_ f),(congrArg V.b (orT f rfl))⟩ ?_
   exact mt_
  refine Qa k [.S 15 (.b false),4] rfl (tc_ f) ?_
  rcases QD (decide (e<0))with a | a
  ·refine Qa k [.S 19 (.b true),6,.S 24 (.b ((!j.2)||((decide (e<0))||(decide ((i.length:Int)<=e))))),.K [0,1,4,6,24] [4]] rfl ⟨(tc_ a),(congrArg V.b (orF f (orT a rfl)))⟩ ?_
   exact mt_
  refine Qa k [.S 19 (.b false),2,.o (.ln i.length),3,.S 24 (.b ((!j.2)||((decide (e<0))||(decide ((i.length:Int)<=e))))),.K [0,1,4,6,24] [4]] rfl ⟨⟨(tc_ a),Qg⟩,(congrArg V.b (orF f (orF a rfl)))⟩ ?_
  exact mt_
 rintro σ rfl
 refine tg_ k [1] ?_
 refine bg_ h (fun g h=>Qa k [.T,2,.v .no [some 7,some 1,none] (.agg (Q3 (Qaw.mk ([]:(List QE)) ([]:(List Int)) 0))),1,.O 4 (.var (Q3 (Qaw.mk ([]:(List QE)) ([]:(List Int)) 0))),5,.K [4,5] [4]] rfl (a3_ g rfl rfl) ?_) fun g h=>Qa k [.F,7,.A (Q3 (Qaw.mk i j.1 e)),1,.O 4 (.var (Q3 (Qaw.mk i j.1 e))),4,.K [4,5] [4]] rfl (a3_ g rfl rfl) ?_
 ·cases h
  exact AK.done (ex_ [_,_] (an_ (an_ (ex_ _ (ex_ _ (an_ rfl (an_ rfl (Or.inl (an_ (Qr.ag rfl) (an_ (Qr.sz rfl) rfl))))))) (an_ rfl tt_)) (gives tt_)))
 cases h
 exact AK.done (ex_ [_,_] (an_ (an_ (ex_ _ (ex_ _ (an_ rfl (an_ rfl (Or.inl (an_ (Qr.ag rfl) (an_ (Qr.sz rfl) rfl))))))) (an_ rfl tt_)) (gives tt_)))
def Qer (a:Int)(b:Qaw):Option Bool:=
 bif (decide (0<=a))then
 (idx b.sizes b.k).bind fun c=>
 some (decide (a<c))
 else
 some false
def QfT (a:Bool):Option Bool:=
 some a
def Qb1 (a:Qaw)(b:Int):Option Bool:=
 (Qer b a).bind (fun c=>QfT c)
theorem Qm8 (g i){r}(h:Qb1 g i=some r):Qc prog 160 [.agg (Q3 g),.I i] [] (Gives (.b r) []):=by
 refine wk_ 17 func160 fun C c=>?_
 refine tg_ c [7] ?_
 obtain⟨d,e,h⟩:=Qb h
 replace h:QfT d=some r:=h
 refine AK.meetX (fun σ=>σ=⟨[(4,.b d)],[]⟩) ?_ ?_
 ·replace h:=e
  refine tg_ c [4] ?_
  rcases Qo h with⟨a,h⟩|⟨a,h⟩
  ·obtain⟨j,f,h⟩:=Qb h
   refine Qa c [.S 7 (.b true),5,.o (.row (Qe j)),5,.K [4] []] rfl ⟨(tc_ a),(QF f)⟩ ?_
   cases h
   exact mt_
  refine Qa c [.S 7 (.b false),11,.K [4] []] rfl (tc_ a) ?_
  cases h
  exact mt_
 rintro σ rfl
 replace h:QfT d=some r:=h
 refine tg_ c [2] ?_
 cases h
 exact d1_ tt_
def QbB (a:Qaw):Option QE:=
 (idx a.all a.k).bind fun b=>
 some b
theorem QgM (c){r}(h:QbB c=some r):Qc prog 161 [.agg (Q3 c)] [] (Gives (.agg (Qs r)) []):=by
 refine wk_ 9 func161 fun C d=>?_
 obtain⟨a,b,h⟩:=Qb h
 refine Qa d [12,.o (.row (Qs a)),.A (Qs a),1,.O 2 (.var (Qs a)),3,.K [2] [2]] rfl (a3_ (QF b) rfl rfl) ?_
 cases h
 exact AK.done (ex_ [_] (an_ (an_ (ex_ _ (ex_ _ (an_ rfl (an_ rfl (Or.inl (an_ (Qr.ag rfl) (an_ (Qr.sz rfl) rfl))))))) tt_) (gives tt_)))
def Qgt (b:(Bool×Qaw))(c:Int):Option Bool:=
 bif (!b.1)then
 some true
 else
 (Qb1 b.2 c).bind fun a=>
 some (!a)
def Qdx (c:(Bool×Qaw))(d:Int)(e:Bool):Option (Int×Bool):=
 bif e then
 some (0,false)
 else
 (QbB c.2).bind fun a=>
 bif (a.Kind==1)then
 (QbB c.2).bind fun b=>
 some ((w64 (b.Lo+d)),true)
 else
 some (d,true)
def Qc4 (c:(List QE))(d:Int)(a:Int):Option (Int×Bool):=
 (Qc7 c d).bind fun b=>
 (Qgt b a).bind (fun e=>Qdx b a e)
theorem Qui (y z j){r}(h:Qc4 y z j=some r):Qc prog 94 [.sl 7 (y.map Qs),.I z,.I j] [] (Gives (.tup [.I r.1,.b r.2]) []):=by
 refine wk_ 36 func94 fun C a=>?_
 obtain⟨i,t,h⟩:=Qb h
 refine Qa a [10,.o (.C2 (.tup [.agg (Q3 i.2),.b i.1])),5,.O 8 (.var (Q3 i.2)),6] rfl (a2_ (Qnk _ _ t) rfl) ?_
 obtain⟨u,k,h⟩:=Qb h
 replace h:Qdx i j u=some r:=h
 refine AK.meetX (fun σ=>σ=⟨[(2,.I j),lk_ 8,(16,.b u)],[(8,.var (Q3 i.2))]⟩) ?_ ?_
 ·replace h:=k
  refine tg_ a [4] ?_
  rcases Qo h with⟨e,h⟩|⟨e,h⟩
  ·refine Qa a [.S 19 (.b true),7,.K [2,8,16] [8]] rfl (tc_ e) ?_
   cases h
   exact mt_
  obtain⟨w,l,h⟩:=Qb h
  refine Qa a [.S 19 (.b false),.A (Q3 i.2),1,.o (.C2 (.b w)),4,.K [2,8,16] [8]] rfl ⟨⟨(tc_ e),rfl⟩,(Qm8 _ _ l)⟩ ?_
  cases h
  exact mt_
 rintro σ rfl
 replace h:Qdx i j u=some r:=h
 refine tg_ a [1] ?_
 rcases Qo h with⟨f,h⟩|⟨f,h⟩
 ·refine Qa a [.T,9] rfl (a1_ f) ?_
  cases h
  exact d2_ tt_
 obtain⟨m,p,h⟩:=Qb h
 refine Qa a [.F,2,.A (Q3 i.2),.o (.C1 (.agg (Qs m))),.o (.any (.I m.Kind) none),4] rfl (a4_ f rfl (QgM _ p) (fun σ x A _=>Stp.field rfl rfl (QN a.n rfl) (x _ _ rfl) QDk rfl)) ?_
 rcases Qo h with⟨g,h⟩|⟨g,h⟩
 ·obtain⟨q,s,h⟩:=Qb h
  refine Qa a [.T,2,.A (Q3 i.2),.o (.C1 (.agg (Qs q))),.o (.any (.I q.Lo) none),9] rfl (a4_ g rfl (QgM _ s) (fun σ x A _=>Stp.field rfl rfl (QN a.n rfl) (x _ _ rfl) QDl rfl)) ?_
  cases h
  exact d2_ tt_
 refine Qa a [.F,11] rfl (a1_ g) ?_
 cases h
 exact d2_ tt_
def QcJ (d:QG)(b:(List Int))(h:Qq)(a:Int)(c:(List Int)):Option ((Int×(List Int))⊕(Unit⊕(List Int))):=
 bif (decide (a<(d.Vars.length:Int)))then
 (idx d.Vars a).bind fun f=>
 (idx b a).bind fun g=>
 (Qc4 h.Colours f.Colour g).bind fun e=>
 bif (!e.2)then
 some (.inr (.inl ()))
 else
 (idx c a).bind fun i=>
 some (.inl ((w64 (a+1)),(c.set a.toNat e.1)))
 else
 some (.inr (.inr c))
def Qtk : Option ((List Int)×Int):=
 some (([]:List Int),1)
def Qtl (a:(List Int)):Option ((List Int)×Int):=
 some (a,0)
def Qdj (d:Qq)(a:Int)(c:(List Int)):Option ((List Int)×Int):=
 bif ((decide (a<0))||(decide ((d.Tasks.length:Int)<=a)))then
 some (([]:List Int),3)
 else
 (idx d.Tasks a).bind fun b=>
 bif ((c.length:Int) != (b.Vars.length:Int))then
 some (([]:List Int),1)
 else
 (chk (decide (0<=(b.Vars.length:Int))&&decide ((b.Vars.length:Int)<=(b.Vars.length:Int))&&decide ((b.Vars.length:Int)<=4294967296))).bind fun _=>
 (Qy (fun st=>QcJ b c d st.1 st.2) (0,(List.replicate (b.Vars.length:Int).toNat (0:Int)))).bind (Sum.elim (fun q=>Qtk) (fun q=>Qtl q))
theorem Qn9 (t f g){r}(h:Qdj t f g=some r):Qc prog 51 [.agg (Qd t),.I f,.sl 1 (g.map Qe)] [] (Gives (.tup [.sl 1 (r.1.map Qe),.I r.2]) []):=by
 refine wk_ 64 func51 fun C j=>?_
 refine tg_ j [9] ?_
 refine AK.meetX (fun σ=>σ=⟨[(1,.I f),(2,.sl 1 (g.map Qe)),lk_ 3,(22,.b ((decide (f<0))||(decide ((t.Tasks.length:Int)<=f))))],[(3,.var (Qd t))]⟩) ?_ ?_
 ·refine tg_ j [4] ?_
  rcases QD (decide (f<0))with k | k
  ·refine Qa j [.S 16 (.b true),7,.S 22 (.b ((decide (f<0))||(decide ((t.Tasks.length:Int)<=f)))),.K [1,2,3,22] [3]] rfl ⟨(tc_ k),(congrArg V.b (orT k rfl))⟩ ?_
   exact mt_
  refine Qa j [.S 16 (.b false),3,.o (.ln t.Tasks.length),3,.S 22 (.b ((decide (f<0))||(decide ((t.Tasks.length:Int)<=f)))),.K [1,2,3,22] [3]] rfl ⟨⟨(tc_ k),Qg⟩,(congrArg V.b (orF k rfl))⟩ ?_
  exact mt_
 rintro σ rfl
 refine tg_ j [1] ?_
 rcases Qo h with⟨l,h⟩|⟨l,h⟩
 ·refine Qa j [.T,8,.denil 6 [some 1]] rfl (a1_ l) ?_
  cases h
  exact d2_ tt_
 obtain⟨i,y,h⟩:=Qb h
 refine Qa j [.F,7,.o (.row (Qm i)),9,.o (.ln g.length),1,.o (.ln i.Vars.length),3] rfl (a4_ l (QF y) Qg Qg) ?_
 rcases Qo h with⟨m,h⟩|⟨m,h⟩
 ·refine Qa j [.T,8,.denil 6 [some 1]] rfl (a1_ m) ?_
  cases h
  exact d2_ tt_
 obtain⟨z,h⟩:=Qaq h
 refine Qa j [.F,5,.o (.ln i.Vars.length),.o (.rows ((List.replicate (i.Vars.length:Int).toNat (0:Int)).map Qe)),.S 36 (.own 36 (List.replicate (i.Vars.length:Int).toNat (0:Int)).length),7,.o (.ln i.Vars.length),4,.K [2,3,9,37,38,39] [3,36]] rfl (a5_ m Qg ⟨z,QBz rfl⟩ (by simp) Qg) ?_
 obtain⟨L,A,h⟩:=Qb h
 refine AK.loop (body:=(fun st=>QcJ i g t st.1 st.2)) (fun st σ=>σ=⟨[(2,.sl 1 (g.map Qe)),lk_ 3,(9,.own 36 st.2.length),(37,.sl 2 (i.Vars.map QL)),(38,.I (i.Vars.length:Int)),(39,.I st.1)],[(3,.var (Qd t)),(36,.arr 1 (st.2.map Qe))]⟩) (Sum.elim (fun q e σ=>e=.ret/\σ=⟨[(6,.lit (.slice none 0 0)),(7,.I 1)],[]⟩) (fun q e σ=>e=.exit 0/\σ=⟨[(9,.own 36 q.length)],[(36,.arr 1 (q.map Qe))]⟩)) A rfl ?_ ?_
 ·rintro ⟨B,D⟩ o σ rfl h
  refine tg_ j [6] ?_
  rcases Qo h with⟨p,h⟩|⟨p,h⟩
  ·obtain⟨x,E,h⟩:=Qb h
   obtain⟨M,G,h⟩:=Qb h
   obtain⟨u,H,h⟩:=Qb h
   refine Qa j [.T,7,.o (.row (QL x)),.A (QL x),3,.O 11 (.var (QL x)),3,.K [2,3,9,10,11,37,38,39] [3,11,36]] rfl (a4_ p (QF E) rfl rfl) ?_
   refine AK.draw2 Qr j mixed [.N,.N,.N,.N,.N,.N,.a (.row (Qe M)) none false,.N,.a (.C3 (.tup [.I u.1,.b u.2])) none false,.N,.N,.N,.N,.N] [] [] [2,3,9,10,12,13,37,38,39] [3,36] rfl rfl rfl ⟨⟨tt_,(QF G)⟩,(Qui _ _ _ H)⟩ rfl (by kernel_rfl) rfl rfl rfl ?_
   refine tg_ j [8] ?_
   rcases Qo h with⟨s,h⟩|⟨s,h⟩
   ·refine Qa j [.T,10,.K [6,7] []] rfl (a1_ s) ?_
    cases h
    exact Qab rfl (an_ rfl rfl)
   obtain⟨P,w,h⟩:=Qb h
   refine Qa j [.F,7,.st (Qe P) ((D.set B.toNat u.1).map Qe),7,.S 9 (.own 36 (D.set B.toNat u.1).length),.K [2,3,9,37,38,39] [3,36]] rfl (a4_ s (Qc3 w rfl) ⟨(QbO (Qck w).2),Qin rfl⟩ (congrArg (fun n=>V.own 36 n) (by simp))) ?_
   cases h
   exact QU rfl rfl
  refine Qa j [.F,2,.K [9] [36]] rfl (a1_ p) ?_
  cases h
  exact QW rfl (an_ rfl rfl)
 rcases L with(_ | J)
 ·replace h:Qtk=some r:=h
  rintro e σ ⟨rfl,rfl⟩
  refine tg_ j [2,.denil 6 [some 1]] ?_
  cases h
  exact d2_ tt_
 replace h:Qtl J=some r:=h
 rintro e σ ⟨rfl,rfl⟩
 refine Qa j [10,.frz 36 (J.map Qe) [6] []] rfl (a1_ (a1_ (QbU Qg))) ?_
 cases h
 exact d2_ tt_
def QbQ (c:Qq)(f:QMk)(a:Int)(b:(List Int)):Option (Int×QO):=
 (Qdj c a b).bind fun d=>
 bif (d.2 != 0)then
 some (d.2,(QO.mk (Qq.mk ([]:(List QE)) ([]:(List QY)) ([]:(List QG)) 0 0) ([]:QMk) (QG.mk (⟨#[]⟩:ByteArray) ([]:(List Qat)) (Qh.mk 0 0 ([]:(List Qh))) 0 0 ([]:(List Qap)) ([]:(List Qap)) ([]:(List Int)) 0 (0,0,0)) ([]:(List Int))))
 else
 (idx c.Tasks a).bind fun e=>
 some (0,(QO.mk c f e d.1))
theorem QqJ (i l b e){r}(h:QbQ i l b e=some r):Qc prog 70 [.agg (Qd i),.sl 1 (l.map Qf),.I b,.sl 1 (e.map Qe)] [] (Gives (.tup [.agg (Qu r.2),.I r.1]) []):=by
 refine wk_ 32 func70 fun C j=>?_
 obtain⟨p,q,h⟩:=Qb h
 refine Qa j [9,.A (Qd i),2,.o (.C3 (.tup [.sl 1 (p.1.map Qe),.I p.2])),14] rfl (a2_ rfl (Qn9 _ _ _ q)) ?_
 rcases Qo h with⟨f,h⟩|⟨f,h⟩
 ·refine Qa j [.T,2,.v .no [some 7,some 3,some 14,none,none,some 1,none,some 2,none,none,some 3,none,none,some 4,some 4,some 1,none,none,none,none,some 1] (.agg (Qu (QO.mk (Qq.mk ([]:(List QE)) ([]:(List QY)) ([]:(List QG)) 0 0) ([]:QMk) (QG.mk (⟨#[]⟩:ByteArray) ([]:(List Qat)) (Qh.mk 0 0 ([]:(List Qh))) 0 0 ([]:(List Qap)) ([]:(List Qap)) ([]:(List Int)) 0 (0,0,0)) ([]:(List Int))))),2,.O 8 (.var (Qu (QO.mk (Qq.mk ([]:(List QE)) ([]:(List QY)) ([]:(List QG)) 0 0) ([]:QMk) (QG.mk (⟨#[]⟩:ByteArray) ([]:(List Qat)) (Qh.mk 0 0 ([]:(List Qh))) 0 0 ([]:(List Qap)) ([]:(List Qap)) ([]:(List Int)) 0 (0,0,0)) ([]:(List Int))))),5,.K [8,9] [8]] rfl (a3_ f rfl rfl) ?_
  cases h
  exact AK.done (ex_ [_,_] (an_ (an_ (ex_ _ (ex_ _ (an_ rfl (an_ rfl (Or.inl (an_ (Qr.ag rfl) (an_ (Qr.sz rfl) rfl))))))) (an_ rfl tt_)) (gives tt_)))
 obtain⟨g,k,h⟩:=Qb h
 refine Qa j [.F,3,.K [1,2,4,8,9,10] [4,8]] rfl (a1_ f) ?_
 refine AK.draw2 Qr j mixed [.a .no (some ([],.agg (Qd i))) false,.N,.N,.N,.N,.a (.row (Qm g)) none false,.a .no (some ([],.agg (Qm g))) false,.N,.a .no (some ([],.agg (Qu (QO.mk i l g p.1)))) false,.m .s,.m .s] [] [] [8,9] [8] rfl rfl rfl ⟨⟨⟨⟨tt_,rfl⟩,(QF k)⟩,rfl⟩,rfl⟩ rfl (by kernel_rfl) rfl rfl rfl ?_
 refine Qa j [.O 8 (.var (Qu (QO.mk i l g p.1))),2,.K [8,9] [8]] rfl (a1_ rfl) ?_
 cases h
 exact AK.done (ex_ [_,_] (an_ (an_ (ex_ _ (ex_ _ (an_ rfl (an_ rfl (Or.inl (an_ (Qr.ag rfl) (an_ (Qr.sz rfl) rfl))))))) (an_ rfl tt_)) (gives tt_)))
def QiZ (c:Qh)(rec_expr_Depth:Qh->Option Int)(d:Int)(a:Int):Option ((Int×Int)⊕Int):=
 bif (decide (a<(c.Kids.length:Int)))then
 (idx c.Kids a).bind fun e=>
 (rec_expr_Depth e).bind fun b=>
 some (.inl ((max2 d b),(w64 (a+1))))
 else
 some (.inr d)
def Qmv (a:Int):Option Int:=
 some (w64 (a+1))
def Qkn (rec_expr_Depth:Qh->Option Int)(a:Qh):Option Int:=
 (Qy (fun st=>QiZ a rec_expr_Depth st.1 st.2) (0,0)).bind (fun q=>Qmv q)
def Qce : Nat->Qh->Option Int
 | 0,_=>none
 | n+1,a=>Qkn (Qce n) a
def Qmw (a:Qh):Option Int:=Qce (SizeOf.sizeOf a) a
theorem Qvh (rec_expr_Depth:Qh->Option Int)(hrec_expr_Depth:∀(a:Qh) {r:Int},rec_expr_Depth a=some r->Qc prog 178 [.agg (Qj a)] [] (Gives (.I r) []))(a:Qh){r:Int}(h:Qkn rec_expr_Depth a=some r):Qc prog 178 [.agg (Qj a)] [] (Gives (.I r) []):=by
 refine wk_ 20 func178 fun C f=>?_
 refine Qa f [16,.o (.ln a.Kids.length),4,.K [3,7,8,9] []] rfl (a1_ (Qfi _)) ?_
 obtain⟨m,g,h⟩:=Qb h
 refine AK.loop (body:=(fun st=>QiZ a rec_expr_Depth st.1 st.2)) (fun st σ=>σ=⟨[(3,.I st.1),(7,.sl 3 (Qa6 a.Kids)),(8,.I (a.Kids.length:Int)),(9,.I st.2)],[]⟩) (fun q e σ=>e=.exit 0/\σ=⟨[(3,.I q)],[]⟩) g rfl ?_ ?_
 ·rintro ⟨p,s⟩ o σ rfl h
  refine tg_ f [6] ?_
  rcases Qo h with⟨b,h⟩|⟨b,h⟩
  ·obtain⟨j,k,h⟩:=Qb h
   obtain⟨l,i,h⟩:=Qb h
   refine Qa f [.T,6,.o (.row (Qj j)),.A (Qj j),2,.O 5 (.var (Qj j)),4,.A (Qj j),.o (.C1 (.I l)),9,.K [3,7,8,9] []] rfl (a6_ b (Qbl k) rfl rfl rfl (hrec_expr_Depth _ i)) ?_
   cases h
   exact QU rfl rfl
  refine Qa f [.F,2,.K [3] []] rfl (a1_ b) ?_
  cases h
  exact QW rfl (an_ rfl rfl)
 replace h:Qmv m=some r:=h
 rintro e σ ⟨rfl,rfl⟩
 refine tg_ f [10] ?_
 cases h
 exact d1_ tt_
theorem Qoq : ∀(fuel:Nat) (a:Qh) {r:Int},Qce fuel a=some r->Qc prog 178 [.agg (Qj a)] [] (Gives (.I r) [])
 | 0,_,_,h=>by cases h
 | n+1,a,_,h=>Qvh (Qce n) (fun _ _ h=>Qoq n _ h) a h
theorem Qw5 (a){r}(h:Qmw a=some r):Qc prog 178 [.agg (Qj a)] [] (Gives (.I r) []):=Qoq _ a h
def Qko (c:Qh)(rec_expr_Size:Qh->Option Int)(d:Int)(a:Int):Option ((Int×Int)⊕Int):=
 bif (decide (a<(c.Kids.length:Int)))then
 (idx c.Kids a).bind fun e=>
 (rec_expr_Size e).bind fun b=>
 some (.inl ((w64 (d+b)),(w64 (a+1))))
 else
 some (.inr d)
def Qnl (a:Int):Option Int:=
 some a
def Qly (rec_expr_Size:Qh->Option Int)(a:Qh):Option Int:=
 (Qy (fun st=>Qko a rec_expr_Size st.1 st.2) (1,0)).bind (fun q=>Qnl q)
def QcK : Nat->Qh->Option Int
 | 0,_=>none
 | n+1,a=>Qly (QcK n) a
def QnG (a:Qh):Option Int:=QcK (SizeOf.sizeOf a) a
theorem Qv7 (rec_expr_Size:Qh->Option Int)(hrec_expr_Size:∀(a:Qh) {r:Int},rec_expr_Size a=some r->Qc prog 179 [.agg (Qj a)] [] (Gives (.I r) []))(a:Qh){r:Int}(h:Qly rec_expr_Size a=some r):Qc prog 179 [.agg (Qj a)] [] (Gives (.I r) []):=by
 refine wk_ 19 func179 fun C f=>?_
 refine Qa f [16,.o (.ln a.Kids.length),4,.K [3,7,8,9] []] rfl (a1_ (Qfi _)) ?_
 obtain⟨m,g,h⟩:=Qb h
 refine AK.loop (body:=(fun st=>Qko a rec_expr_Size st.1 st.2)) (fun st σ=>σ=⟨[(3,.I st.1),(7,.sl 3 (Qa6 a.Kids)),(8,.I (a.Kids.length:Int)),(9,.I st.2)],[]⟩) (fun q e σ=>e=.exit 0/\σ=⟨[(3,.I q)],[]⟩) g rfl ?_ ?_
 ·rintro ⟨p,s⟩ o σ rfl h
  refine tg_ f [6] ?_
  rcases Qo h with⟨b,h⟩|⟨b,h⟩
  ·obtain⟨j,k,h⟩:=Qb h
   obtain⟨l,i,h⟩:=Qb h
   refine Qa f [.T,6,.o (.row (Qj j)),.A (Qj j),2,.O 5 (.var (Qj j)),4,.A (Qj j),.o (.C1 (.I l)),9,.K [3,7,8,9] []] rfl (a6_ b (Qbl k) rfl rfl rfl (hrec_expr_Size _ i)) ?_
   cases h
   exact QU rfl rfl
  refine Qa f [.F,2,.K [3] []] rfl (a1_ b) ?_
  cases h
  exact QW rfl (an_ rfl rfl)
 replace h:Qnl m=some r:=h
 rintro e σ ⟨rfl,rfl⟩
 refine tg_ f [9] ?_
 cases h
 exact d1_ tt_
theorem QpC : ∀(fuel:Nat) (a:Qh) {r:Int},QcK fuel a=some r->Qc prog 179 [.agg (Qj a)] [] (Gives (.I r) [])
 | 0,_,_,h=>by cases h
 | n+1,a,_,h=>Qv7 (QcK n) (fun _ _ h=>QpC n _ h) a h
theorem Qx2 (a){r}(h:QnG a=some r):Qc prog 179 [.agg (Qj a)] [] (Gives (.I r) []):=QpC _ a h
def Qft (a:Int)(b:Bool):Option Int:=
 bif b then
 some 1
 else
 bif (a==5)then
 some 2
 else
 bif (a==6)then
 some 3
 else
 some (-1)
def Qfu (a:Int)(b:Bool):Option Int:=
 bif b then
 some 0
 else
 bif (a==3)then
 Qft a (a==3)
 else
 Qft a (a==4)
def Qlb (a:Int):Option Int:=
 bif (a==1)then
 Qfu a (a==1)
 else
 Qfu a (a==2)
theorem Qx3 (a){r}(h:Qlb a=some r):Qc prog 208 [.I a] [] (Gives (.I r) []):=by
 refine wk_ 14 func208 fun C c=>?_
 refine tg_ c [12] ?_
 refine AK.meet (fun σ=>∃k:Bool,σ=⟨[(3,.I a),(4,.b k)],[]⟩/\Qfu a k=some r) ?_ ?_
 ·refine tg_ c [6] ?_
  refine bq_ c h [.T,1,.K [3,4] []] rfl (fun d h=>?_) [.F,4,.K [3,4] []] rfl fun d h=>?_
  ·exact AK.met (ex_ _ (an_ rfl h))
  exact AK.met (ex_ _ (an_ rfl h))
 rintro σ ⟨k,rfl,h⟩
 refine bq_ c h [.T,8,.K [2] []] rfl (fun f h=>?_) [.F] rfl fun f h=>?_
 ·cases h
  exact d1_ tt_
 refine AK.meet (fun σ=>∃l:Bool,σ=⟨[(3,.I a),(7,.b l)],[]⟩/\Qft a l=some r) ?_ ?_
 ·refine tg_ c [6] ?_
  refine bq_ c h [.T,1,.K [3,7] []] rfl (fun e h=>?_) [.F,4,.K [3,7] []] rfl fun e h=>?_
  ·exact AK.met (ex_ _ (an_ rfl h))
  exact AK.met (ex_ _ (an_ rfl h))
 rintro σ ⟨l,rfl,h⟩
 refine bq_ c h [.T,8,.K [2] []] rfl (fun g h=>?_) [.F,6] rfl fun g h=>?_
 ·cases h
  exact d1_ tt_
 refine bq_ c h [.T,8,.K [2] []] rfl (fun i h=>?_) [.F,6] rfl fun i h=>?_
 ·cases h
  exact d1_ tt_
 refine bq_ c h [.T,8,.K [2] []] rfl (fun j h=>?_) [.F,9,.K [2] []] rfl fun j h=>?_
 ·cases h
  exact d1_ tt_
 cases h
 exact d1_ tt_
def QjL (op1:Int):Option Bool:=
 some ((decide (1<=op1))&&(decide (op1<=11)))
theorem Qw6 (op1){r}(h:QjL op1=some r):Qc prog 209 [.I op1] [] (Gives (.b r) []):=by
 refine wk_ 9 func209 fun C c=>?_
 refine tg_ c [6] ?_
 refine AK.meetX (fun σ=>σ=⟨[(2,.b ((decide (1<=op1))&&(decide (op1<=11))))],[]⟩) ?_ ?_
 ·refine tg_ c [4] ?_
  rcases QD (decide (1<=op1))with a | a
  ·refine Qa c [.S 5 (.b true),5,.S 2 (.b ((decide (1<=op1))&&(decide (op1<=11)))),.K [2] []] rfl ⟨(tc_ a),(congrArg V.b (Qah a rfl))⟩ ?_
   exact mt_
  refine Qa c [.S 5 (.b false),5,.S 2 (.b ((decide (1<=op1))&&(decide (op1<=11)))),.K [2] []] rfl ⟨(tc_ a),(congrArg V.b (QaL a rfl))⟩ ?_
  exact mt_
 rintro σ rfl
 refine tg_ c [2] ?_
 cases h
 exact d1_ tt_
def Qkp (rec_expr_parts:Qh->Int->Option Bool)(a:Qh)(b:Int):Option Bool:=
 (rec_expr_parts a b).bind fun c=>
 some (!c)
theorem Qvi (rec_expr_parts:Qh->Int->Option Bool)(hrec_expr_parts:∀(i:Qh) (a:Int) {r:Bool},rec_expr_parts i a=some r->Qc prog 180 [.agg (Qj i),.I a] [] (Gives (.b r) []))(e:Qh)(f:Int){r:Bool}(h:Qkp rec_expr_parts e f=some r):Qc prog 211 [.agg (Qj e),.L 617] [(617,.var (Qe f))] (Gives (.b r) [(617,.var (Qe f))]):=by
 refine wk_ 8 func211 fun C j=>?_
 obtain⟨k,g,h⟩:=Qb h
 refine Qa j [8,.A (Qj e),1,.o (.C2 (.b k)),5] rfl (a2_ rfl (hrec_expr_parts _ _ g)) ?_
 cases h
 exact d1_ r1_
def Q1 (c:(List Qh))(rec_expr_parts:Qh->Int->Option Bool)(d:Int)(a:Int):Option (Int⊕(Int⊕Unit)):=
 bif (decide (a<(c.length:Int)))then
 (idx c a).bind fun e=>
 (Qkp rec_expr_parts e d).bind fun b=>
 bif b then
 some (.inr (.inl a))
 else
 some (.inl (w64 (a+1)))
 else
 some (.inr (.inr ()))
def Qd8 (a:Int):Option Int:=
 some a
def Qd9 : Option Int:=
 some (-1)
def Qbm (rec_expr_parts:Qh->Int->Option Bool)(a:(List Qh))(b:Int):Option Int:=
 (Qy (fun st=>Q1 a rec_expr_parts b st) 0).bind (Sum.elim (fun q=>Qd8 q) (fun q=>Qd9))
theorem Qio (rec_expr_parts:Qh->Int->Option Bool)(hrec_expr_parts:∀(t:Qh) (a:Int) {r:Bool},rec_expr_parts t a=some r->Qc prog 180 [.agg (Qj t),.I a] [] (Gives (.b r) []))(j:(List Qh))(f:Int){r:Int}(h:Qbm rec_expr_parts j f=some r):Qc prog 239 [.sl 3 (Qa6 j),.clo (.func 211) [] [.L 617]] [(617,.var (Qe f))] (Gives (.I r) [(617,.var (Qe f))]):=by
 refine wk_ 19 func239 fun C g=>?_
 refine Qa g [9,.o (.ln j.length),4,.K [0,1,7,8] [617]] rfl (a1_ (Qfi _)) ?_
 obtain⟨m,k,h⟩:=Qb h
 refine AK.loop (body:=(fun st=>Q1 j rec_expr_parts f st)) (fun st σ=>σ=⟨[(0,.sl 3 (Qa6 j)),(1,.clo (.func 211) [] [.L 617]),(7,.I (j.length:Int)),(8,.I st)],[(617,.var (Qe f))]⟩) (Sum.elim (fun q e σ=>e=.ret/\σ=⟨[(4,.I q)],[(617,.var (Qe f))]⟩) (fun q e σ=>e=.exit 0/\σ=⟨[],[(617,.var (Qe f))]⟩)) k rfl ?_ ?_
 ·rintro x o σ rfl h
  refine tg_ g [6] ?_
  rcases Qo h with⟨i,h⟩|⟨i,h⟩
  ·obtain⟨u,p,h⟩:=Qb h
   obtain⟨s,l,h⟩:=Qb h
   refine Qa g [.T,15,.o (.row (Qj u)),.A (Qj u),.cm (.clo) [(617,617)] [(617,617)] [] [.d,.d] [(617,.var (Qe f))] (.b s),2] rfl (a4_ i (Qbl p) rfl (Qvi rec_expr_parts hrec_expr_parts _ _ l)) ?_
   refine bq_ g h [.T,9,.K [4] [617]] rfl (fun c h=>?_) [.F,7,.K [0,1,7,8] [617]] rfl fun c h=>?_
   ·cases h
    exact Qab rfl (an_ rfl rfl)
   cases h
   exact QU rfl rfl
  refine Qa g [.F,2,.K [] [617]] rfl (a1_ i) ?_
  cases h
  exact QW rfl (an_ rfl rfl)
 rcases m with(w | _)
 ·replace h:Qd8 w=some r:=h
  rintro e σ ⟨rfl,rfl⟩
  refine tg_ g [2] ?_
  cases h
  exact d1_ r1_
 replace h:Qd9=some r:=h
 rintro e σ ⟨rfl,rfl⟩
 refine tg_ g [8] ?_
 cases h
 exact d1_ r1_
def Q8 (rec_expr_parts:Qh->Int->Option Bool)(a:(List Qh))(b:Int):Option Bool:=
 (Qbm rec_expr_parts a b).bind fun c=>
 some (decide (0<=c))
theorem Qhl (rec_expr_parts:Qh->Int->Option Bool)(hrec_expr_parts:∀(f:Qh) (a:Int) {r:Bool},rec_expr_parts f a=some r->Qc prog 180 [.agg (Qj f),.I a] [] (Gives (.b r) []))(g:(List Qh))(c:Int){r:Bool}(h:Q8 rec_expr_parts g c=some r):Qc prog 210 [.sl 3 (Qa6 g),.clo (.func 211) [] [.L 617]] [(617,.var (Qe c))] (Gives (.b r) [(617,.var (Qe c))]):=by
 refine wk_ 9 func210 fun C i=>?_
 obtain⟨j,e,h⟩:=Qb h
 refine Qa i [9,.cm (.fn) [(617,617)] [(617,617)] [] [.d,.d] [(617,.var (Qe c))] (.I j),5] rfl (a1_ (Qio rec_expr_parts hrec_expr_parts _ _ e)) ?_
 cases h
 exact d1_ r1_
def Qmx (b:Qh):Option Bool:=
 bif (b.Kind==5)then
 (QjL b.Num).bind fun a=>
 some (!a)
 else
 some false
def Qgu (rec_expr_parts:Qh->Int->Option Bool)(d:Qh)(a:Int)(b:Bool):Option Bool:=
 bif b then
 some false
 else
 (Q8 rec_expr_parts d.Kids a).bind fun c=>
 some (!c)
def Qhm (rec_expr_parts:Qh->Int->Option Bool)(b:Qh)(a:Int):Option Bool:=
 (Qlb b.Kind).bind fun d=>
 bif ((b.Kids.length:Int) != d)then
 some false
 else
 bif ((b.Kind==2)&&((decide (b.Num<0))||(decide (a<=b.Num))))then
 some false
 else
 (Qmx b).bind (fun c=>Qgu rec_expr_parts b a c)
def QaJ : Nat->Qh->Int->Option Bool
 | 0,_,_=>none
 | n+1,b,a=>Qhm (QaJ n) b a
def Qmy (b:Qh)(a:Int):Option Bool:=QaJ (SizeOf.sizeOf b) b a
theorem Qvj (rec_expr_parts:Qh->Int->Option Bool)(hrec_expr_parts:∀(f:Qh) (e:Int) {r:Bool},rec_expr_parts f e=some r->Qc prog 180 [.agg (Qj f),.I e] [] (Gives (.b r) []))(f:Qh)(e:Int){r:Bool}(h:Qhm rec_expr_parts f e=some r):Qc prog 180 [.agg (Qj f),.I e] [] (Gives (.b r) []):=by
 refine wk_ 43 func180 fun C g=>?_
 obtain⟨y,v,h⟩:=Qb h
 refine tg_ g [10,.K [2,3] [2,3]] ?_
 refine AK.draw2 Qr g mixed [.N,.N,.a (.ln f.Kids.length) none false,.N,.N,.a (.C1 (.I y)) none false,.N,.N] [] [] [2,3,5] [2,3] rfl rfl rfl ⟨⟨tt_,Qfi _⟩,(Qx3 _ v)⟩ rfl (by kernel_rfl) rfl rfl rfl ?_
 refine tg_ g [1] ?_
 refine bq_ g h [.T,8,.K [4] []] rfl (fun p h=>?_) [.F,1] rfl fun p h=>?_
 ·cases h
  exact d1_ tt_
 refine AK.meetX (fun σ=>σ=⟨[lk_ 2,lk_ 3,(13,.b ((f.Kind==2)&&((decide (f.Num<0))||(decide (e<=f.Num)))))],[(2,.var (Qj f)),(3,.var (Qe e))]⟩) ?_ ?_
 ·refine tg_ g [5] ?_
  rcases QD (f.Kind==2)with i | i
  ·refine Qa g [.S 17 (.b true),4] rfl (tc_ i) ?_
   rcases QD (decide (f.Num<0))with j | j
   ·refine Qa g [.S 21 (.b true),8,.S 13 (.b ((f.Kind==2)&&((decide (f.Num<0))||(decide (e<=f.Num))))),.K [2,3,13] [2,3]] rfl ⟨(tc_ j),(congrArg V.b (Qah i (orT j rfl)))⟩ ?_
    exact mt_
   refine Qa g [.S 21 (.b false),8,.S 13 (.b ((f.Kind==2)&&((decide (f.Num<0))||(decide (e<=f.Num))))),.K [2,3,13] [2,3]] rfl ⟨(tc_ j),(congrArg V.b (Qah i (orF j rfl)))⟩ ?_
   exact mt_
  refine Qa g [.S 17 (.b false),12,.S 13 (.b ((f.Kind==2)&&((decide (f.Num<0))||(decide (e<=f.Num))))),.K [2,3,13] [2,3]] rfl ⟨(tc_ i),(congrArg V.b (QaL i rfl))⟩ ?_
  exact mt_
 rintro σ rfl
 refine tg_ g [1] ?_
 refine bq_ g h [.T,8,.K [4] []] rfl (fun k h=>?_) [.F,1] rfl fun k h=>?_
 ·cases h
  exact d1_ tt_
 obtain⟨q,s,h⟩:=Qb h
 replace h:Qgu rec_expr_parts f e q=some r:=h
 refine AK.meetX (fun σ=>σ=⟨[lk_ 2,lk_ 3,(28,.b q)],[(2,.var (Qj f)),(3,.var (Qe e))]⟩) ?_ ?_
 ·replace h:=s
  refine tg_ g [5] ?_
  rcases Qo h with⟨l,h⟩|⟨l,h⟩
  ·obtain⟨w,t,h⟩:=Qb h
   refine Qa g [.S 32 (.b true),2,.o (.C1 (.b w)),4,.K [2,3,28] [2,3]] rfl ⟨(tc_ l),(Qw6 _ t)⟩ ?_
   cases h
   exact mt_
  refine Qa g [.S 32 (.b false),7,.K [2,3,28] [2,3]] rfl (tc_ l) ?_
  cases h
  exact mt_
 rintro σ rfl
 replace h:Qgu rec_expr_parts f e q=some r:=h
 refine tg_ g [1] ?_
 rcases Qo h with⟨m,h⟩|⟨m,h⟩
 ·refine Qa g [.T,8] rfl (a1_ m) ?_
  cases h
  exact d1_ tt_
 obtain⟨x,u,h⟩:=Qb h
 refine Qa g [.F,8,.cm (.fn) [(617,3)] [(3,617)] [] [.d,.d] [(617,.var (Qe e))] (.b x),5] rfl (a2_ m (Qhl rec_expr_parts hrec_expr_parts _ _ u)) ?_
 cases h
 exact d1_ tt_
theorem Qor : ∀(fuel:Nat) (c:Qh) (a:Int) {r:Bool},QaJ fuel c a=some r->Qc prog 180 [.agg (Qj c),.I a] [] (Gives (.b r) [])
 | 0,_,_,_,h=>by cases h
 | n+1,c,a,_,h=>Qvj (QaJ n) (fun _ _ _ h=>Qor n _ _ h) c a h
theorem Qw7 (c a){r}(h:Qmy c a=some r):Qc prog 180 [.agg (Qj c),.I a] [] (Gives (.b r) []):=Qor _ c a h
def Qmz (b:Qh)(a:Int):Option Bool:=
 (Qmw b).bind fun d=>
 bif (decide (d<=40))then
 (QnG b).bind fun e=>
 bif (decide (e<=400))then
 (Qmy b a).bind fun c=>
 some c
 else
 some false
 else
 some false
def QmA (a:Bool):Option Bool:=
 some a
def QeL (b:Qh)(a:Int):Option Bool:=
 (Qmz b a).bind (fun c=>QmA c)
theorem QmB (i a){r}(h:QeL i a=some r):Qc prog 128 [.agg (Qj i),.I a] [] (Gives (.b r) []):=by
 refine wk_ 18 func128 fun C e=>?_
 refine tg_ e [7] ?_
 obtain⟨k,l,h⟩:=Qb h
 replace h:QmA k=some r:=h
 refine AK.meetX (fun σ=>σ=⟨[(4,.b k)],[]⟩) ?_ ?_
 ·replace h:=l
  obtain⟨s,m,h⟩:=Qb h
  refine Qa e [1,.A (Qj i),.o (.C1 (.I s)),2] rfl (a2_ rfl (Qw5 _ m)) ?_
  rcases Qo h with⟨f,h⟩|⟨f,h⟩
  ·obtain⟨t,p,h⟩:=Qb h
   refine Qa e [.S 8 (.b true),.A (Qj i),.o (.C1 (.I t)),3] rfl ⟨⟨(tc_ f),rfl⟩,(Qx2 _ p)⟩ ?_
   rcases Qo h with⟨g,h⟩|⟨g,h⟩
   ·obtain⟨q,j,h⟩:=Qb h
    refine Qa e [.S 13 (.b true),.A (Qj i),1,.o (.C2 (.b q)),3,.K [4] []] rfl ⟨⟨(tc_ g),rfl⟩,(Qw7 _ _ j)⟩ ?_
    cases h
    exact mt_
   refine Qa e [.S 13 (.b false),6,.K [4] []] rfl (tc_ g) ?_
   cases h
   exact mt_
  refine Qa e [.S 8 (.b false),11,.K [4] []] rfl (tc_ f) ?_
  cases h
  exact mt_
 rintro σ rfl
 replace h:QmA k=some r:=h
 refine tg_ e [2] ?_
 cases h
 exact d1_ tt_
def QbV (b:(List Int))(a:Int)(c:Bool):Option ((List Int)⊕((List Int)⊕((List Int)⊕((List Int)⊕(List Int))))):=
 bif c then
 some (.inr (.inr (.inl b)))
 else
 bif (a==5)then
 some (.inr (.inr (.inr (.inl b))))
 else
 some (.inr (.inr (.inr (.inr b))))
def Qcr (b:(List Int))(a:Int):Option ((List Int)⊕((List Int)⊕((List Int)⊕((List Int)⊕(List Int))))):=
 bif (a==1)then
 some (.inl b)
 else
 bif (a==2)then
 some (.inr (.inl b))
 else
 bif (a==3)then
 QbV b a (a==3)
 else
 QbV b a (a==4)
theorem QeM (k a){r}(h:Qcr k a=some r):Qc prog 202 [.sl 1 (k.map Qe),.I a] [] ((Sum.elim (fun q=>(Gives (.clo (.func 230) [.sl 1 (q.map Qe)] []) [])) (Sum.elim (fun q=>(Gives (.clo (.func 231) [.sl 1 (q.map Qe)] []) [])) (Sum.elim (fun q=>(Gives (.clo (.func 232) [.sl 1 (q.map Qe)] []) [])) (Sum.elim (fun q=>(Gives (.clo (.func 233) [.sl 1 (q.map Qe)] []) [])) (fun q=>(Gives (.clo (.func 234) [.sl 1 (q.map Qe)] []) [])))))) r):=by
 refine wk_ 25 func202 fun C c=>?_
 refine tg_ c [18] ?_
 refine bq_ c h [.T,10,.K [4] []] rfl (fun g h=>?_) [.F,6] rfl fun g h=>?_
 ·cases h
  exact AK.done (ex_ [_] (an_ (an_ rfl tt_) (gives tt_)))
 refine bq_ c h [.T,10,.K [4] []] rfl (fun i h=>?_) [.F] rfl fun i h=>?_
 ·cases h
  exact AK.done (ex_ [_] (an_ (an_ rfl tt_) (gives tt_)))
 refine AK.meet (fun σ=>∃j:Bool,σ=⟨[(0,.sl 1 (k.map Qe)),(5,.I a),(14,.b j)],[]⟩/\QbV k a j=some r) ?_ ?_
 ·refine tg_ c [6] ?_
  refine bq_ c h [.T,1,.K [0,5,14] []] rfl (fun d h=>?_) [.F,4,.K [0,5,14] []] rfl fun d h=>?_
  ·exact AK.met (ex_ _ (an_ rfl h))
  exact AK.met (ex_ _ (an_ rfl h))
 rintro σ ⟨j,rfl,h⟩
 refine bq_ c h [.T,10,.K [4] []] rfl (fun e h=>?_) [.F,6] rfl fun e h=>?_
 ·cases h
  exact AK.done (ex_ [_] (an_ (an_ rfl tt_) (gives tt_)))
 refine bq_ c h [.T,10,.K [4] []] rfl (fun f h=>?_) [.F,11,.K [4] []] rfl fun f h=>?_
 ·cases h
  exact AK.done (ex_ [_] (an_ (an_ rfl tt_) (gives tt_)))
 cases h
 exact AK.done (ex_ [_] (an_ (an_ rfl tt_) (gives tt_)))
def Qos (b:(List Int))(a:Qh):Option (Int×Int):=
 some (a.Num,0)
theorem QsT (a b){r}(h:Qos a b=some r):Qc prog 230 [.sl 1 (a.map Qe),.agg (Qj b)] [] (Gives (.tup [.I r.1,.I r.2]) []):=by
 refine wk_ 8 func230 fun C c=>?_
 refine tg_ c [16] ?_
 cases h
 exact d2_ tt_
def QfU (a:(List Int))(b:Qh):Option (Int×Int):=
 (idx a b.Num).bind fun c=>
 some (c,0)
theorem QrD (b c){r}(h:QfU b c=some r):Qc prog 231 [.sl 1 (b.map Qe),.agg (Qj c)] [] (Gives (.tup [.I r.1,.I r.2]) []):=by
 refine wk_ 11 func231 fun C d=>?_
 obtain⟨e,a,h⟩:=Qb h
 refine Qa d [12,.o (.row (Qe e)),6] rfl (a1_ (QF a)) ?_
 cases h
 exact d2_ tt_
def QhT (a:Int)(b:Int):Option (Int×Int):=
 bif (((decide (a<0))==(decide (b<0)))&&((decide ((w64 (a+b))<0)) != (decide (a<0))))then
 some (0,6)
 else
 some ((w64 (a+b)),0)
theorem QyS (a d){r}(h:QhT a d=some r):Qc prog 253 [.I a,.I d] [] (Gives (.tup [.I r.1,.I r.2]) []):=by
 refine wk_ 23 func253 fun C e=>?_
 refine tg_ e [16] ?_
 refine AK.meetX (fun σ=>σ=⟨[(6,.I (w64 (a+d))),(21,.b (((decide (a<0))==(decide (d<0)))&&((decide ((w64 (a+d))<0)) != (decide (a<0)))))],[]⟩) ?_ ?_
 ·refine tg_ e [7] ?_
  rcases QD ((decide (a<0))==(decide (d<0)))with c | c
  ·refine Qa e [.S 15 (.b true),7,.S 21 (.b (((decide (a<0))==(decide (d<0)))&&((decide ((w64 (a+d))<0)) != (decide (a<0))))),.K [6,21] []] rfl ⟨(tc_ c),(congrArg V.b (Qah c rfl))⟩ ?_
   exact mt_
  refine Qa e [.S 15 (.b false),7,.S 21 (.b (((decide (a<0))==(decide (d<0)))&&((decide ((w64 (a+d))<0)) != (decide (a<0))))),.K [6,21] []] rfl ⟨(tc_ c),(congrArg V.b (QaL c rfl))⟩ ?_
  exact mt_
 rintro σ rfl
 refine tg_ e [1] ?_
 refine bq_ e h [.T,8,.K [4,5] []] rfl (fun f h=>?_) [.F,10,.K [4,5] []] rfl fun f h=>?_
 ·cases h
  exact d2_ tt_
 cases h
 exact d2_ tt_
def QcV (a:Int)(b:Int):Option (Int×Int):=
 bif (((decide (a<0)) != (decide (b<0)))&&((decide ((w64 (a-b))<0)) != (decide (a<0))))then
 some (0,6)
 else
 some ((w64 (a-b)),0)
theorem QsU (a d){r}(h:QcV a d=some r):Qc prog 254 [.I a,.I d] [] (Gives (.tup [.I r.1,.I r.2]) []):=by
 refine wk_ 23 func254 fun C e=>?_
 refine tg_ e [16] ?_
 refine AK.meetX (fun σ=>σ=⟨[(6,.I (w64 (a-d))),(21,.b (((decide (a<0)) != (decide (d<0)))&&((decide ((w64 (a-d))<0)) != (decide (a<0)))))],[]⟩) ?_ ?_
 ·refine tg_ e [7] ?_
  rcases QD ((decide (a<0)) != (decide (d<0)))with c | c
  ·refine Qa e [.S 15 (.b true),7,.S 21 (.b (((decide (a<0)) != (decide (d<0)))&&((decide ((w64 (a-d))<0)) != (decide (a<0))))),.K [6,21] []] rfl ⟨(tc_ c),(congrArg V.b (Qah c rfl))⟩ ?_
   exact mt_
  refine Qa e [.S 15 (.b false),7,.S 21 (.b (((decide (a<0)) != (decide (d<0)))&&((decide ((w64 (a-d))<0)) != (decide (a<0))))),.K [6,21] []] rfl ⟨(tc_ c),(congrArg V.b (QaL c rfl))⟩ ?_
  exact mt_
 rintro σ rfl
 refine tg_ e [1] ?_
 refine bq_ e h [.T,8,.K [4,5] []] rfl (fun f h=>?_) [.F,10,.K [4,5] []] rfl fun f h=>?_
 ·cases h
  exact d2_ tt_
 cases h
 exact d2_ tt_
def QgN (a:Int):Option Int:=
 bif (decide (a<0))then
 some (IntKind.u64.wrap (0-(IntKind.u64.wrap a)))
 else
 some (IntKind.u64.wrap a)
theorem QrS (c){r}(h:QgN c=some r):Qc prog 260 [.I c] [] (Gives (.i .u64 r) []):=by
 refine wk_ 10 func260 fun C b=>?_
 refine tg_ b [12] ?_
 refine bg_ h (fun a h=>Qa b [.T,3,.o (.any (.i .u64 (IntKind.u64.wrap c)) none),6,.K [2] []] rfl (a2_ a (fun σ d e _=>Stp.convI rfl rfl (QN b.n rfl) (d _ _ rfl) QzH Quh)) ?_) fun a h=>Qa b [.F,5,.o (.any (.i .u64 (IntKind.u64.wrap c)) none),4,.K [2] []] rfl (a2_ a (fun σ d e _=>Stp.convI rfl rfl (QN b.n rfl) (d _ _ rfl) QzH Quh)) ?_
 ·cases h
  exact d1_ tt_
 cases h
 exact d1_ tt_
def Qd5 (a:Int)(b:Int):Option (Int×Int):=
 some ((IntKind.u64.wrap ((IntKind.u64.wrap ((IntKind.u64.wrap ((Qeg .u64 a 32)*(Qeg .u64 b 32)))+(Qeg .u64 (IntKind.u64.wrap ((IntKind.u64.wrap ((Qeg .u64 a 32)*(QdK .u64 b 4294967295)))+(Qeg .u64 (IntKind.u64.wrap ((QdK .u64 a 4294967295)*(QdK .u64 b 4294967295))) 32))) 32)))+(Qeg .u64 (IntKind.u64.wrap ((QdK .u64 (IntKind.u64.wrap ((IntKind.u64.wrap ((Qeg .u64 a 32)*(QdK .u64 b 4294967295)))+(Qeg .u64 (IntKind.u64.wrap ((QdK .u64 a 4294967295)*(QdK .u64 b 4294967295))) 32))) 4294967295)+(IntKind.u64.wrap ((QdK .u64 a 4294967295)*(Qeg .u64 b 32))))) 32))),(IntKind.u64.wrap (a*b)))
theorem QsV (b c){r}(h:Qd5 b c=some r):Qc prog 259 [.i .u64 b,.i .u64 c] [] (Gives (.tup [.i .u64 r.1,.i .u64 r.2]) []):=by
 refine wk_ 51 func259 fun C d=>?_
 refine Qa d [9,.o (.any (.i .u64 (QdK .u64 b 4294967295)) none),6,.o (.any (.i .u64 (Qeg .u64 b 32)) none),6,.o (.any (.i .u64 (QdK .u64 c 4294967295)) none),6,.o (.any (.i .u64 (Qeg .u64 c 32)) none),17,.o (.any (.i .u64 (Qeg .u64 (IntKind.u64.wrap ((QdK .u64 b 4294967295)*(QdK .u64 c 4294967295))) 32)) none),7,.o (.any (.i .u64 (QdK .u64 (IntKind.u64.wrap ((IntKind.u64.wrap ((Qeg .u64 b 32)*(QdK .u64 c 4294967295)))+(Qeg .u64 (IntKind.u64.wrap ((QdK .u64 b 4294967295)*(QdK .u64 c 4294967295))) 32))) 4294967295)) none),6,.o (.any (.i .u64 (Qeg .u64 (IntKind.u64.wrap ((IntKind.u64.wrap ((Qeg .u64 b 32)*(QdK .u64 c 4294967295)))+(Qeg .u64 (IntKind.u64.wrap ((QdK .u64 b 4294967295)*(QdK .u64 c 4294967295))) 32))) 32)) none),21,.o (.any (.i .u64 (Qeg .u64 (IntKind.u64.wrap ((QdK .u64 (IntKind.u64.wrap ((IntKind.u64.wrap ((Qeg .u64 b 32)*(QdK .u64 c 4294967295)))+(Qeg .u64 (IntKind.u64.wrap ((QdK .u64 b 4294967295)*(QdK .u64 c 4294967295))) 32))) 4294967295)+(IntKind.u64.wrap ((QdK .u64 b 4294967295)*(Qeg .u64 c 32))))) 32)) none),13] rfl (a8_ (fun σ a e _=>Stp.andB rfl rfl (QN d.n rfl) (a _ _ rfl) (a _ _ rfl)) (fun σ a e _=>Stp.shr rfl rfl (QN d.n rfl) (a _ _ rfl) (a _ _ rfl) (by decide)) (fun σ a e _=>Stp.andB rfl rfl (QN d.n rfl) (a _ _ rfl) (a _ _ rfl)) (fun σ a e _=>Stp.shr rfl rfl (QN d.n rfl) (a _ _ rfl) (a _ _ rfl) (by decide)) (fun σ a e _=>Stp.shr rfl rfl (QN d.n rfl) (a _ _ rfl) (a _ _ rfl) (by decide)) (fun σ a e _=>Stp.andB rfl rfl (QN d.n rfl) (a _ _ rfl) (a _ _ rfl)) (fun σ a e _=>Stp.shr rfl rfl (QN d.n rfl) (a _ _ rfl) (a _ _ rfl) (by decide)) (fun σ a e _=>Stp.shr rfl rfl (QN d.n rfl) (a _ _ rfl) (a _ _ rfl) (by decide))) ?_
 cases h
 exact d2_ tt_
def QcW (b:(Int×Int))(c:Int)(d:Int)(a:Int):Option (Int×Int):=
 bif ((decide (0<b.1))||(decide (a<b.2)))then
 some (0,6)
 else
 some ((w64 (c*d)),0)
def Qfv (a:Int)(b:Int):Option (Int×Int):=
 (QgN a).bind fun d=>
 (QgN b).bind fun e=>
 (Qd5 d e).bind fun c=>
 bif ((decide (a<0)) != (decide (b<0)))then
 QcW c a b (IntKind.u64.wrap (9223372036854775807+1))
 else
 QcW c a b 9223372036854775807
theorem Qvk (l m){r}(h:Qfv l m=some r):Qc prog 255 [.I l,.I m] [] (Gives (.tup [.I r.1,.I r.2]) []):=by
 refine wk_ 34 func255 fun C g=>?_
 obtain⟨t,p,h⟩:=Qb h
 obtain⟨u,q,h⟩:=Qb h
 obtain⟨f,s,h⟩:=Qb h
 refine Qa g [9,.o (.C1 (.i .u64 t)),1,.o (.C1 (.i .u64 u)),.o (.C2 (.tup [.i .u64 f.1,.i .u64 f.2])),12] rfl (a3_ (QrS _ p) (QrS _ q) (QsV _ _ s)) ?_
 refine AK.meet (fun σ=>∃a:Int,σ=⟨[(0,.I l),(1,.I m),(6,.i .u64 f.1),(7,.i .u64 f.2),(8,.i .u64 a)],[]⟩/\QcW f l m a=some r) ?_ ?_
 ·refine tg_ g [9] ?_
  refine bq_ g h [.T,5,.K [0,1,6,7,8] []] rfl (fun j h=>?_) [.F,1,.K [0,1,6,7,8] []] rfl fun j h=>?_
  ·exact AK.met (ex_ _ (an_ rfl h))
  exact AK.met (ex_ _ (an_ rfl h))
 rintro σ ⟨a,rfl,h⟩
 refine tg_ g [2] ?_
 refine AK.meetX (fun σ=>σ=⟨[(0,.I l),(1,.I m),(30,.b ((decide (0<f.1))||(decide (a<f.2))))],[]⟩) ?_ ?_
 ·refine tg_ g [4] ?_
  rcases QD (decide (0<f.1))with e | e
  ·refine Qa g [.S 26 (.b true),5,.S 30 (.b ((decide (0<f.1))||(decide (a<f.2)))),.K [0,1,30] []] rfl ⟨(tc_ e),(congrArg V.b (orT e rfl))⟩ ?_
   exact mt_
  refine Qa g [.S 26 (.b false),5,.S 30 (.b ((decide (0<f.1))||(decide (a<f.2)))),.K [0,1,30] []] rfl ⟨(tc_ e),(congrArg V.b (orF e rfl))⟩ ?_
  exact mt_
 rintro σ rfl
 refine tg_ g [1] ?_
 refine bq_ g h [.T,8,.K [4,5] []] rfl (fun k h=>?_) [.F,12,.K [4,5] []] rfl fun k h=>?_
 ·cases h
  exact d2_ tt_
 cases h
 exact d2_ tt_
def Qcs (b:Int)(a:Int):Option (Int×Int×Int):=
 bif (a==0)then
 some (0,0,7)
 else
 bif ((b==(-9223372036854775808))&&(a==(-1)))then
 some (0,0,6)
 else
 (chk (a != 0)).bind fun _=>
 (chk (a != 0)).bind fun _=>
 some ((w64 (Int.tdiv b a)),(Int.tmod b a),0)
theorem QnV (e g){r}(h:Qcs e g=some r):Qc prog 256 [.I e,.I g] [] (Gives (.tup [.I r.1,.I r.2.1,.I r.2.2]) []):=by
 refine wk_ 23 func256 fun C c=>?_
 refine tg_ c [16] ?_
 refine bq_ c h [.T,10,.K [4,5,6] []] rfl (fun f h=>?_) [.F,1] rfl fun f h=>?_
 ·cases h
  exact AK.done (ex_ [_,_,_] (an_ (an_ rfl (an_ rfl (an_ rfl tt_))) (gives tt_)))
 refine AK.meetX (fun σ=>σ=⟨[(0,.I e),(1,.I g),(10,.b ((e==(-9223372036854775808))&&(g==(-1))))],[]⟩) ?_ ?_
 ·refine tg_ c [4] ?_
  rcases QD (e==(-9223372036854775808))with a | a
  ·refine Qa c [.S 13 (.b true),5,.S 10 (.b ((e==(-9223372036854775808))&&(g==(-1)))),.K [0,1,10] []] rfl ⟨(tc_ a),(congrArg V.b (Qah a rfl))⟩ ?_
   exact mt_
  refine Qa c [.S 13 (.b false),5,.S 10 (.b ((e==(-9223372036854775808))&&(g==(-1)))),.K [0,1,10] []] rfl ⟨(tc_ a),(congrArg V.b (QaL a rfl))⟩ ?_
  exact mt_
 rintro σ rfl
 refine tg_ c [1] ?_
 rcases Qo h with⟨d,h⟩|⟨d,h⟩
 ·refine Qa c [.T,10,.K [4,5,6] []] rfl (a1_ d) ?_
  cases h
  exact AK.done (ex_ [_,_,_] (an_ (an_ rfl (an_ rfl (an_ rfl tt_))) (gives tt_)))
 obtain⟨i,h⟩:=Qaq h
 obtain⟨j,h⟩:=Qaq h
 refine Qa c [.F,4,.K [0,1] []] rfl (a1_ d) ?_
 refine AK.draw2 Qr c mixed [.N,.N,.N,.N,.N,.N,.N,.N,.N] [] [] [4,5,6] [] rfl rfl rfl ⟨⟨tt_,(neZ i)⟩,(neZ j)⟩ rfl (by kernel_rfl) rfl rfl rfl ?_
 refine tg_ c [2,.K [4,5,6] []] ?_
 cases h
 exact AK.done (ex_ [_,_,_] (an_ (an_ rfl (an_ rfl (an_ rfl tt_))) (gives tt_)))
def QbJ (a:Bool):Option (Int×Int):=
 bif a then
 some (1,0)
 else
 some (0,0)
theorem Qea (c){r}(h:QbJ c=some r):Qc prog 257 [.b c] [] (Gives (.tup [.I r.1,.I r.2]) []):=by
 refine wk_ 5 func257 fun C d=>?_
 refine tg_ d [12] ?_
 refine bq_ d h [.T,8,.K [2,3] []] rfl (fun a h=>?_) [.F,9,.K [2,3] []] rfl fun a h=>?_
 ·cases h
  exact d2_ tt_
 cases h
 exact d2_ tt_
def QmC (c:Int)(d:Int):Option (Int×Int):=
 bif (c != 0)then
 (QbJ (d != 0)).bind fun a=>
 some (a.1,a.2)
 else
 (QbJ false).bind fun b=>
 some (b.1,b.2)
def QjM (a:Int)(b:Int):Option (Int×Int):=
 some (a,b)
def QmD (c:Int)(d:Int):Option (Int×Int):=
 bif (c != 0)then
 (QbJ true).bind fun a=>
 some (a.1,a.2)
 else
 (QbJ (d != 0)).bind fun b=>
 some (b.1,b.2)
def QjN (a:Int)(b:Int):Option (Int×Int):=
 some (a,b)
def QbC (op1:Int)(a:Int)(b:Int):Option (Int×Int):=
 bif (op1==1)then
 (QhT a b).bind fun k=>
 some (k.1,k.2)
 else
 bif (op1==2)then
 (QcV a b).bind fun c=>
 some (c.1,c.2)
 else
 bif (op1==3)then
 (Qfv a b).bind fun d=>
 some (d.1,d.2)
 else
 bif (op1==4)then
 (Qcs a b).bind fun e=>
 some (e.1,e.2.2)
 else
 bif (op1==5)then
 (Qcs a b).bind fun f=>
 some (f.2.1,f.2.2)
 else
 bif (op1==6)then
 (QbJ (a==b)).bind fun g=>
 some (g.1,g.2)
 else
 bif (op1==7)then
 (QbJ (a != b)).bind fun h=>
 some (h.1,h.2)
 else
 bif (op1==8)then
 (QbJ (decide (a<b))).bind fun i=>
 some (i.1,i.2)
 else
 bif (op1==9)then
 (QbJ (decide (a<=b))).bind fun j=>
 some (j.1,j.2)
 else
 bif (op1==10)then
 (QmC a b).bind (fun v=>QjM v.1 v.2)
 else
 bif (op1==11)then
 (QmD a b).bind (fun v=>QjN v.1 v.2)
 else
 some (0,1)
theorem QmE (op1 a2 b3){r}(h:QbC op1 a2 b3=some r):Qc prog 249 [.I op1,.I a2,.I b3] [] (Gives (.tup [.I r.1,.I r.2]) []):=by
 refine wk_ 112 func249 fun C a=>?_
 refine tg_ a [19] ?_
 rcases Qo h with⟨u,h⟩|⟨u,h⟩
 ·obtain⟨x9,a6,h⟩:=Qb h
  refine Qa a [.T,4,.o (.C2 (.tup [.I x9.1,.I x9.2])),9] rfl (a2_ u (QyS _ _ a6)) ?_
  cases h
  exact d2_ tt_
 refine Qa a [.F,6] rfl (a1_ u) ?_
 rcases Qo h with⟨e,h⟩|⟨e,h⟩
 ·obtain⟨y,z,h⟩:=Qb h
  refine Qa a [.T,4,.o (.C2 (.tup [.I y.1,.I y.2])),9] rfl (a2_ e (QsU _ _ z)) ?_
  cases h
  exact d2_ tt_
 refine Qa a [.F,6] rfl (a1_ e) ?_
 rcases Qo h with⟨f,h⟩|⟨f,h⟩
 ·obtain⟨A,B,h⟩:=Qb h
  refine Qa a [.T,4,.o (.C2 (.tup [.I A.1,.I A.2])),9] rfl (a2_ f (Qvk _ _ B)) ?_
  cases h
  exact d2_ tt_
 refine Qa a [.F,6] rfl (a1_ f) ?_
 rcases Qo h with⟨g,h⟩|⟨g,h⟩
 ·obtain⟨w,D,h⟩:=Qb h
  refine Qa a [.T,4,.o (.C2 (.tup [.I w.1,.I w.2.1,.I w.2.2])),20] rfl (a2_ g (QnV _ _ D)) ?_
  cases h
  exact d2_ tt_
 refine Qa a [.F,6] rfl (a1_ g) ?_
 rcases Qo h with⟨i,h⟩|⟨i,h⟩
 ·obtain⟨x,E,h⟩:=Qb h
  refine Qa a [.T,4,.o (.C2 (.tup [.I x.1,.I x.2.1,.I x.2.2])),20] rfl (a2_ i (QnV _ _ E)) ?_
  cases h
  exact d2_ tt_
 refine Qa a [.F,6] rfl (a1_ i) ?_
 rcases Qo h with⟨j,h⟩|⟨j,h⟩
 ·obtain⟨G,H,h⟩:=Qb h
  refine Qa a [.T,5,.o (.C1 (.tup [.I G.1,.I G.2])),9] rfl (a2_ j (Qea _ H)) ?_
  cases h
  exact d2_ tt_
 refine Qa a [.F,6] rfl (a1_ j) ?_
 rcases Qo h with⟨k,h⟩|⟨k,h⟩
 ·obtain⟨J,L,h⟩:=Qb h
  refine Qa a [.T,5,.o (.C1 (.tup [.I J.1,.I J.2])),9] rfl (a2_ k (Qea _ L)) ?_
  cases h
  exact d2_ tt_
 refine Qa a [.F,6] rfl (a1_ k) ?_
 rcases Qo h with⟨l,h⟩|⟨l,h⟩
 ·obtain⟨M,N,h⟩:=Qb h
  refine Qa a [.T,5,.o (.C1 (.tup [.I M.1,.I M.2])),9] rfl (a2_ l (Qea _ N)) ?_
  cases h
  exact d2_ tt_
 refine Qa a [.F,6] rfl (a1_ l) ?_
 rcases Qo h with⟨m,h⟩|⟨m,h⟩
 ·obtain⟨O,P,h⟩:=Qb h
  refine Qa a [.T,5,.o (.C1 (.tup [.I O.1,.I O.2])),9] rfl (a2_ m (Qea _ P)) ?_
  cases h
  exact d2_ tt_
 refine Qa a [.F,6] rfl (a1_ m) ?_
 refine bq_ a h [.T,1] rfl (fun p h=>?_) [.F,6] rfl fun p h=>?_
 ·obtain⟨v,U,h⟩:=Qb h
  replace h:QjM v.1 v.2=some r:=h
  refine AK.meetX (fun σ=>σ=⟨[(6,.I v.1),(7,.I v.2)],[]⟩) ?_ ?_
  ·replace h:=U
   refine tg_ a [4] ?_
   rcases Qo h with⟨q,h⟩|⟨q,h⟩
   ·obtain⟨W,X,h⟩:=Qb h
    refine Qa a [.S 94 (.b true),3,.o (.C1 (.tup [.I W.1,.I W.2])),5,.K [6,7] []] rfl ⟨(tc_ q),(Qea _ X)⟩ ?_
    cases h
    exact mt_
   obtain⟨Y,Z,h⟩:=Qb h
   refine Qa a [.S 94 (.b false),3,.o (.C1 (.tup [.I Y.1,.I Y.2])),5,.K [6,7] []] rfl ⟨(tc_ q),(Qea _ Z)⟩ ?_
   cases h
   exact mt_
  rintro σ rfl
  obtain⟨a7,a8⟩:=v
  replace h:QjM a7 a8=some r:=h
  refine tg_ a [4] ?_
  cases h
  exact d2_ tt_
 refine bq_ a h [.T,1] rfl (fun s h=>?_) [.F,10,.K [6,7] []] rfl fun s h=>?_
 ·obtain⟨v,a0,h⟩:=Qb h
  replace h:QjN v.1 v.2=some r:=h
  refine AK.meetX (fun σ=>σ=⟨[(6,.I v.1),(7,.I v.2)],[]⟩) ?_ ?_
  ·replace h:=a0
   refine tg_ a [4] ?_
   rcases Qo h with⟨t,h⟩|⟨t,h⟩
   ·obtain⟨a1,a3,h⟩:=Qb h
    refine Qa a [.S 105 (.b true),3,.o (.C1 (.tup [.I a1.1,.I a1.2])),5,.K [6,7] []] rfl ⟨(tc_ t),(Qea _ a3)⟩ ?_
    cases h
    exact mt_
   obtain⟨a4,a5,h⟩:=Qb h
   refine Qa a [.S 105 (.b false),3,.o (.C1 (.tup [.I a4.1,.I a4.2])),5,.K [6,7] []] rfl ⟨(tc_ t),(Qea _ a5)⟩ ?_
   cases h
   exact mt_
  rintro σ rfl
  obtain⟨a9,b0⟩:=v
  replace h:QjN a9 b0=some r:=h
  refine tg_ a [4] ?_
  cases h
  exact d2_ tt_
 cases h
 exact d2_ tt_
def QmF (b:Int):Option (Int×Int):=
 (QbC 2 0 b).bind fun a=>
 some (a.1,a.2)
theorem QyT (b){r}(h:QmF b=some r):Qc prog 248 [.I b] [] (Gives (.tup [.I r.1,.I r.2]) []):=by
 refine wk_ 8 func248 fun C f=>?_
 obtain⟨e,a,h⟩:=Qb h
 refine Qa f [9,.o (.C3 (.tup [.I e.1,.I e.2])),7] rfl (a1_ (QmE _ _ _ a)) ?_
 cases h
 exact d2_ tt_
def Qfa (rec_expr_env_eval:(List Int)->Qh->Option (Int×Int))(e:(List Int))(d:Qh):Option (Int×Int):=
 (idx d.Kids 0).bind fun f=>
 (rec_expr_env_eval e f).bind fun c=>
 bif (c.2 != 0)then
 some (0,c.2)
 else
 bif (d.Kind==3)then
 (QmF c.1).bind fun a=>
 some (a.1,a.2)
 else
 (QbC 6 c.1 0).bind fun b=>
 some (b.1,b.2)
theorem QsW (rec_expr_env_eval:(List Int)->Qh->Option (Int×Int))(hrec_expr_env_eval:∀(e:(List Int)) (f:Qh) {r:(Int×Int)},rec_expr_env_eval e f=some r->Qc prog 162 [.sl 1 (e.map Qe),.agg (Qj f)] [] (Gives (.tup [.I r.1,.I r.2]) []))(e:(List Int))(f:Qh){r:(Int×Int)}(h:Qfa rec_expr_env_eval e f=some r):Qc prog 232 [.sl 1 (e.map Qe),.agg (Qj f)] [] (Gives (.tup [.I r.1,.I r.2]) []):=by
 refine wk_ 33 func232 fun C g=>?_
 obtain⟨q,m,h⟩:=Qb h
 obtain⟨s,p,h⟩:=Qb h
 refine Qa g [12,.o (.row (Qj q)),.A (Qj q),.o (.C2 (.tup [.I s.1,.I s.2])),16] rfl (a3_ (Qbl m) rfl (hrec_expr_env_eval _ _ p)) ?_
 refine bq_ g h [.T,10,.K [4,5] []] rfl (fun b h=>?_) [.F,8] rfl fun b h=>?_
 ·cases h
  exact d2_ tt_
 rcases Qo h with⟨a,h⟩|⟨a,h⟩
 ·obtain⟨i,j,h⟩:=Qb h
  refine Qa g [.T,3,.o (.C1 (.tup [.I i.1,.I i.2])),9] rfl (a2_ a (QyT _ j)) ?_
  cases h
  exact d2_ tt_
 obtain⟨k,l,h⟩:=Qb h
 refine Qa g [.F,6,.o (.C3 (.tup [.I k.1,.I k.2])),7] rfl (a2_ a (QmE _ _ _ l)) ?_
 cases h
 exact d2_ tt_
def QcX (f:(Int×Int))(g:Qh)(rec_expr_env_eval:(List Int)->Qh->Option (Int×Int))(h:(List Int))(d:Bool):Option (Int×Int):=
 bif d then
 (QbC 7 f.1 0).bind fun b=>
 some (b.1,b.2)
 else
 (idx g.Kids 1).bind fun e=>
 (rec_expr_env_eval h e).bind fun a=>
 bif (a.2 != 0)then
 some (0,a.2)
 else
 (QbC g.Num f.1 a.1).bind fun c=>
 some (c.1,c.2)
def Qkq (rec_expr_env_eval:(List Int)->Qh->Option (Int×Int))(c:(List Int))(b:Qh):Option (Int×Int):=
 (idx b.Kids 0).bind fun d=>
 (rec_expr_env_eval c d).bind fun a=>
 bif (a.2 != 0)then
 some (0,a.2)
 else
 bif ((b.Num==10)&&(a.1==0))then
 QcX a b rec_expr_env_eval c ((b.Num==10)&&(a.1==0))
 else
 bif (b.Num==11)then
 QcX a b rec_expr_env_eval c (a.1 != 0)
 else
 QcX a b rec_expr_env_eval c false
theorem Qvl (rec_expr_env_eval:(List Int)->Qh->Option (Int×Int))(hrec_expr_env_eval:∀(l:(List Int)) (f:Qh) {r:(Int×Int)},rec_expr_env_eval l f=some r->Qc prog 162 [.sl 1 (l.map Qe),.agg (Qj f)] [] (Gives (.tup [.I r.1,.I r.2]) []))(l:(List Int))(f:Qh){r:(Int×Int)}(h:Qkq rec_expr_env_eval l f=some r):Qc prog 233 [.sl 1 (l.map Qe),.agg (Qj f)] [] (Gives (.tup [.I r.1,.I r.2]) []):=by
 refine wk_ 60 func233 fun C e=>?_
 obtain⟨E,B,h⟩:=Qb h
 obtain⟨m,D,h⟩:=Qb h
 refine Qa e [12,.o (.row (Qj E)),.A (Qj E),.o (.C2 (.tup [.I m.1,.I m.2])),16] rfl (a3_ (Qbl B) rfl (hrec_expr_env_eval _ _ D)) ?_
 refine bq_ e h [.T,10,.K [4,5] []] rfl (fun p h=>?_) [.F] rfl fun p h=>?_
 ·cases h
  exact d2_ tt_
 refine AK.meet (fun σ=>∃q:Bool,σ=⟨[(0,.sl 1 (l.map Qe)),lk_ 3,(6,.I m.1),(22,.b q)],[(3,.var (Qj f))]⟩/\QcX m f rec_expr_env_eval l q=some r) ?_ ?_
 ·refine tg_ e [1] ?_
  refine AK.meetX (fun σ=>σ=⟨[(0,.sl 1 (l.map Qe)),lk_ 3,(6,.I m.1),(22,.b ((f.Num==10)&&(m.1==0)))],[(3,.var (Qj f))]⟩) ?_ ?_
  ·refine tg_ e [5] ?_
   rcases QD (f.Num==10)with a | a
   ·refine Qa e [.S 26 (.b true),5,.S 22 (.b ((f.Num==10)&&(m.1==0))),.K [0,3,6,22] [3]] rfl ⟨(tc_ a),(congrArg V.b (Qah a rfl))⟩ ?_
    exact mt_
   refine Qa e [.S 26 (.b false),5,.S 22 (.b ((f.Num==10)&&(m.1==0))),.K [0,3,6,22] [3]] rfl ⟨(tc_ a),(congrArg V.b (QaL a rfl))⟩ ?_
   exact mt_
  rintro σ rfl
  refine tg_ e [1] ?_
  refine bq_ e h [.T,1,.K [0,3,6,22] [3]] rfl (fun g h=>?_) [.F,5] rfl fun g h=>?_
  ·exact AK.met (ex_ _ (an_ rfl h))
  refine bg_ h (fun i h=>Qa e [.S 33 (.b true),5,.K [0,3,6,22] [3]] rfl (tc_ i) ?_) fun i h=>Qa e [.S 33 (.b false),5,.K [0,3,6,22] [3]] rfl (tc_ i) ?_
  ·exact AK.met (ex_ _ (an_ rfl h))
  exact AK.met (ex_ _ (an_ rfl h))
 rintro σ ⟨q,rfl,h⟩
 rcases Qo h with⟨j,h⟩|⟨j,h⟩
 ·obtain⟨s,t,h⟩:=Qb h
  refine Qa e [.T,3,.o (.C3 (.tup [.I s.1,.I s.2])),9] rfl (a2_ j (QmE _ _ _ t)) ?_
  cases h
  exact d2_ tt_
 obtain⟨u,w,h⟩:=Qb h
 obtain⟨x,y,h⟩:=Qb h
 refine Qa e [.F,8,.o (.row (Qj u)),.A (Qj u),.o (.C2 (.tup [.I x.1,.I x.2])),14] rfl (a4_ j (Qbl w) rfl (hrec_expr_env_eval _ _ y)) ?_
 rcases Qo h with⟨k,h⟩|⟨k,h⟩
 ·refine Qa e [.T,9] rfl (a1_ k) ?_
  cases h
  exact d2_ tt_
 obtain⟨z,A,h⟩:=Qb h
 refine Qa e [.F,8,.o (.C3 (.tup [.I z.1,.I z.2])),7] rfl (a2_ k (QmE _ _ _ A)) ?_
 cases h
 exact d2_ tt_
def Qg4 (rec_expr_env_eval:(List Int)->Qh->Option (Int×Int))(c:(List Int))(d:Qh):Option (Int×Int):=
 (idx d.Kids 0).bind fun h=>
 (rec_expr_env_eval c h).bind fun e=>
 bif (e.2 != 0)then
 some (0,e.2)
 else
 bif (e.1 != 0)then
 (idx d.Kids 1).bind fun f=>
 (rec_expr_env_eval c f).bind fun a=>
 some (a.1,a.2)
 else
 (idx d.Kids 2).bind fun g=>
 (rec_expr_env_eval c g).bind fun b=>
 some (b.1,b.2)
theorem QsX (rec_expr_env_eval:(List Int)->Qh->Option (Int×Int))(hrec_expr_env_eval:∀(e:(List Int)) (f:Qh) {r:(Int×Int)},rec_expr_env_eval e f=some r->Qc prog 162 [.sl 1 (e.map Qe),.agg (Qj f)] [] (Gives (.tup [.I r.1,.I r.2]) []))(e:(List Int))(f:Qh){r:(Int×Int)}(h:Qg4 rec_expr_env_eval e f=some r):Qc prog 234 [.sl 1 (e.map Qe),.agg (Qj f)] [] (Gives (.tup [.I r.1,.I r.2]) []):=by
 refine wk_ 40 func234 fun C g=>?_
 obtain⟨w,t,h⟩:=Qb h
 obtain⟨x,u,h⟩:=Qb h
 refine Qa g [12,.o (.row (Qj w)),.A (Qj w),.o (.C2 (.tup [.I x.1,.I x.2])),16] rfl (a3_ (Qbl t) rfl (hrec_expr_env_eval _ _ u)) ?_
 refine bq_ g h [.T,10,.K [4,5] []] rfl (fun b h=>?_) [.F,7] rfl fun b h=>?_
 ·cases h
  exact d2_ tt_
 rcases Qo h with⟨a,h⟩|⟨a,h⟩
 ·obtain⟨i,j,h⟩:=Qb h
  obtain⟨k,l,h⟩:=Qb h
  refine Qa g [.T,5,.o (.row (Qj i)),.A (Qj i),.o (.C2 (.tup [.I k.1,.I k.2])),9] rfl (a4_ a (Qbl j) rfl (hrec_expr_env_eval _ _ l)) ?_
  cases h
  exact d2_ tt_
 obtain⟨m,p,h⟩:=Qb h
 obtain⟨q,s,h⟩:=Qb h
 refine Qa g [.F,8,.o (.row (Qj m)),.A (Qj m),.o (.C2 (.tup [.I q.1,.I q.2])),7] rfl (a4_ a (Qbl p) rfl (hrec_expr_env_eval _ _ s)) ?_
 cases h
 exact d2_ tt_
def QnW (b:Qh)(c:(List Int)):Option (Int×Int):=
 (Qos c b).bind fun a=>
 some (a.1,a.2)
def Qdy (b:Qh)(c:(List Int)):Option (Int×Int):=
 (QfU c b).bind fun a=>
 some (a.1,a.2)
def QbW (rec_expr_env_eval:(List Int)->Qh->Option (Int×Int))(c:Qh)(b:(List Int)):Option (Int×Int):=
 (Qfa rec_expr_env_eval b c).bind fun a=>
 some (a.1,a.2)
def Qdz (rec_expr_env_eval:(List Int)->Qh->Option (Int×Int))(c:Qh)(b:(List Int)):Option (Int×Int):=
 (Qkq rec_expr_env_eval b c).bind fun a=>
 some (a.1,a.2)
def QdA (rec_expr_env_eval:(List Int)->Qh->Option (Int×Int))(c:Qh)(b:(List Int)):Option (Int×Int):=
 (Qg4 rec_expr_env_eval b c).bind fun a=>
 some (a.1,a.2)
def Qfb (rec_expr_env_eval:(List Int)->Qh->Option (Int×Int))(b:(List Int))(a:Qh):Option (Int×Int):=
 (Qcr b a.Kind).bind fun c=>
 (Sum.elim (fun q=>QnW a q) (Sum.elim (fun q=>Qdy a q) (Sum.elim (fun q=>QbW rec_expr_env_eval a q) (Sum.elim (fun q=>Qdz rec_expr_env_eval a q) (fun q=>QdA rec_expr_env_eval a q))))) c
def Q5 : Nat->(List Int)->Qh->Option (Int×Int)
 | 0,_,_=>none
 | n+1,a,b=>Qfb (Q5 n) a b
def Qi0 (b:(List Int))(a:Qh):Option (Int×Int):=Q5 (SizeOf.sizeOf a) b a
theorem QsY (rec_expr_env_eval:(List Int)->Qh->Option (Int×Int))(hrec_expr_env_eval:∀(o:(List Int)) (e:Qh) {r:(Int×Int)},rec_expr_env_eval o e=some r->Qc prog 162 [.sl 1 (o.map Qe),.agg (Qj e)] [] (Gives (.tup [.I r.1,.I r.2]) []))(o:(List Int))(e:Qh){r:(Int×Int)}(h:Qfb rec_expr_env_eval o e=some r):Qc prog 162 [.sl 1 (o.map Qe),.agg (Qj e)] [] (Gives (.tup [.I r.1,.I r.2]) []):=by
 refine wk_ 14 func162 fun C b=>?_
 refine tg_ b [8] ?_
 obtain⟨E,f,h⟩:=Qb h
 rcases E with(B | (D | (j | (k | l))))
 ·replace h:QnW e B=some r:=h
  obtain⟨p,q,h⟩:=Qb h
  refine tg_ b [.K [0,3,4,5] [3]] ?_
  refine AK.draw2 Qr b mixed [.N,.N,.N,.a (.any (.clo (.func 230) [.sl 1 (B.map Qe)] []) none) none false,.a .no (some ([],.agg (Qj e))) false,.a (.C2 (.tup [.I p.1,.I p.2])) none false,.N,.N,.m .s,.m .s] [] [] [4,5] [] rfl rfl rfl ⟨⟨⟨tt_,(fun σ g i _=>Stp.callSame (md:=.cm (.fn) [] [] [] [.d,.d] [] (.clo (.func 230) [.sl 1 (B.map Qe)] []) []) Qr b g i rfl ⟨tt_,(QeM _ _ f)⟩)⟩,rfl⟩,(QsT _ _ q)⟩ rfl (by kernel_rfl) rfl rfl rfl ?_
  refine tg_ b [2] ?_
  cases h
  exact d2_ tt_
 ·replace h:Qdy e D=some r:=h
  obtain⟨t,u,h⟩:=Qb h
  refine tg_ b [.K [0,3,4,5] [3]] ?_
  refine AK.draw2 Qr b mixed [.N,.N,.N,.a (.any (.clo (.func 231) [.sl 1 (D.map Qe)] []) none) none false,.a .no (some ([],.agg (Qj e))) false,.a (.C2 (.tup [.I t.1,.I t.2])) none false,.N,.N,.m .s,.m .s] [] [] [4,5] [] rfl rfl rfl ⟨⟨⟨tt_,(fun σ g i _=>Stp.callSame (md:=.cm (.fn) [] [] [] [.d,.d] [] (.clo (.func 231) [.sl 1 (D.map Qe)] []) []) Qr b g i rfl ⟨tt_,(QeM _ _ f)⟩)⟩,rfl⟩,(QrD _ _ u)⟩ rfl (by kernel_rfl) rfl rfl rfl ?_
  refine tg_ b [2] ?_
  cases h
  exact d2_ tt_
 ·replace h:QbW rec_expr_env_eval e j=some r:=h
  obtain⟨v,w,h⟩:=Qb h
  refine tg_ b [.K [0,3,4,5] [3]] ?_
  refine AK.draw2 Qr b mixed [.N,.N,.N,.a (.any (.clo (.func 232) [.sl 1 (j.map Qe)] []) none) none false,.a .no (some ([],.agg (Qj e))) false,.a (.C2 (.tup [.I v.1,.I v.2])) none false,.N,.N,.m .s,.m .s] [] [] [4,5] [] rfl rfl rfl ⟨⟨⟨tt_,(fun σ g i _=>Stp.callSame (md:=.cm (.fn) [] [] [] [.d,.d] [] (.clo (.func 232) [.sl 1 (j.map Qe)] []) []) Qr b g i rfl ⟨tt_,(QeM _ _ f)⟩)⟩,rfl⟩,(QsW rec_expr_env_eval hrec_expr_env_eval _ _ w)⟩ rfl (by kernel_rfl) rfl rfl rfl ?_
  refine tg_ b [2] ?_
  cases h
  exact d2_ tt_
 ·replace h:Qdz rec_expr_env_eval e k=some r:=h
  obtain⟨x,y,h⟩:=Qb h
  refine tg_ b [.K [0,3,4,5] [3]] ?_
  refine AK.draw2 Qr b mixed [.N,.N,.N,.a (.any (.clo (.func 233) [.sl 1 (k.map Qe)] []) none) none false,.a .no (some ([],.agg (Qj e))) false,.a (.C2 (.tup [.I x.1,.I x.2])) none false,.N,.N,.m .s,.m .s] [] [] [4,5] [] rfl rfl rfl ⟨⟨⟨tt_,(fun σ g i _=>Stp.callSame (md:=.cm (.fn) [] [] [] [.d,.d] [] (.clo (.func 233) [.sl 1 (k.map Qe)] []) []) Qr b g i rfl ⟨tt_,(QeM _ _ f)⟩)⟩,rfl⟩,(Qvl rec_expr_env_eval hrec_expr_env_eval _ _ y)⟩ rfl (by kernel_rfl) rfl rfl rfl ?_
  refine tg_ b [2] ?_
  cases h
  exact d2_ tt_
 replace h:QdA rec_expr_env_eval e l=some r:=h
 obtain⟨z,A,h⟩:=Qb h
 refine tg_ b [.K [0,3,4,5] [3]] ?_
 refine AK.draw2 Qr b mixed [.N,.N,.N,.a (.any (.clo (.func 234) [.sl 1 (l.map Qe)] []) none) none false,.a .no (some ([],.agg (Qj e))) false,.a (.C2 (.tup [.I z.1,.I z.2])) none false,.N,.N,.m .s,.m .s] [] [] [4,5] [] rfl rfl rfl ⟨⟨⟨tt_,(fun σ g i _=>Stp.callSame (md:=.cm (.fn) [] [] [] [.d,.d] [] (.clo (.func 234) [.sl 1 (l.map Qe)] []) []) Qr b g i rfl ⟨tt_,(QeM _ _ f)⟩)⟩,rfl⟩,(QsX rec_expr_env_eval hrec_expr_env_eval _ _ A)⟩ rfl (by kernel_rfl) rfl rfl rfl ?_
 refine tg_ b [2] ?_
 cases h
 exact d2_ tt_
theorem QmG : ∀(fuel:Nat) (a:(List Int)) (b:Qh) {r:(Int×Int)},Q5 fuel a b=some r->Qc prog 162 [.sl 1 (a.map Qe),.agg (Qj b)] [] (Gives (.tup [.I r.1,.I r.2]) [])
 | 0,_,_,_,h=>by cases h
 | n+1,a,b,_,h=>QsY (Q5 n) (fun _ _ _ h=>QmG n _ _ h) a b h
theorem Quj (a b){r}(h:Qi0 a b=some r):Qc prog 162 [.sl 1 (a.map Qe),.agg (Qj b)] [] (Gives (.tup [.I r.1,.I r.2]) []):=QmG _ a b h
def QgO (b:Qh)(a:(List Int)):Option (Int×Int):=
 (QeL b (a.length:Int)).bind fun d=>
 bif (!d)then
 some (0,1)
 else
 (Qi0 a b).bind fun c=>
 some (c.1,c.2)
theorem QrT (f a){r}(h:QgO f a=some r):Qc prog 95 [.agg (Qj f),.sl 1 (a.map Qe)] [] (Gives (.tup [.I r.1,.I r.2]) []):=by
 refine wk_ 16 func95 fun C g=>?_
 obtain⟨l,i,h⟩:=Qb h
 refine Qa g [10,.A (Qj f),1,.o (.ln a.length),.o (.C2 (.b l)),3] rfl (a3_ rfl Qg (QmB _ _ i)) ?_
 rcases Qo h with⟨e,h⟩|⟨e,h⟩
 ·refine Qa g [.T,8] rfl (a1_ e) ?_
  cases h
  exact d2_ tt_
 obtain⟨k,j,h⟩:=Qb h
 refine Qa g [.F,5,.A (Qj f),.o (.C2 (.tup [.I k.1,.I k.2])),7] rfl (a3_ e rfl (Quj _ _ j)) ?_
 cases h
 exact d2_ tt_
def Qaf (b:QO):Option Int:=
 (QgO b.task.Guard b.env).bind fun a=>
 bif (a.2 != 0)then
 some a.2
 else
 bif (a.1==0)then
 some 9
 else
 some 0
theorem QjO (f){r}(h:Qaf f=some r):Qc prog 71 [.agg (Qu f)] [] (Gives (.I r) []):=by
 refine wk_ 21 func71 fun C e=>?_
 obtain⟨i,g,h⟩:=Qb h
 refine Qa e [10,.A (Qj f.task.Guard),2,.o (.C2 (.tup [.I i.1,.I i.2])),16] rfl (a2_ rfl (QrT _ _ g)) ?_
 refine bq_ e h [.T,9,.K [2] []] rfl (fun a h=>?_) [.F,7] rfl fun a h=>?_
 ·cases h
  exact d1_ tt_
 refine bq_ e h [.T,8,.K [2] []] rfl (fun b h=>?_) [.F,9,.K [2] []] rfl fun b h=>?_
 ·cases h
  exact d1_ tt_
 cases h
 exact d1_ tt_
def Qfc (a:QLL):Option QLL:=
 some a
def Qot (b:Int)(a:Int)(c:(List Int)):Option ((Int×(List Int))⊕(List Int)):=
 bif (decide (a<b))then
 (chk (decide (c.length+([a]:List Int).length<=4294967296))).bind fun _=>
 some (.inl ((w64 (a+1)),(c++([a]:List Int))))
 else
 some (.inr c)
def Qou (a:(List Int)):Option QLL:=
 some ([a]:List (List Int))
def Qov (b:Int)(a:Int)(c:QLL):Option ((Int×QLL)⊕QLL):=
 bif (decide (a<b))then
 (chk (decide (c.length+([([a]:List Int)]:List (List Int)).length<=4294967296))).bind fun _=>
 some (.inl ((w64 (a+1)),(c++([([a]:List Int)]:List (List Int)))))
 else
 some (.inr c)
def Qk1 (a:QLL):Option QLL:=
 Qfc a
def Qk2 (a:Int)(b:(List Int)):Option ((Int×(List Int))⊕(List Int)):=
 some (.inl ((w64 (a+1)),b))
def Qow (c:Int)(set_33:Int)(a:Int)(b:(List Int)):Option ((Int×(List Int))⊕(List Int)):=
 bif (decide (a<c))then
 (chk (decide (0<=a))).bind fun _=>
 bif ((QdK .i64 (Qeg .i64 set_33 a) 1)==1)then
 (chk (decide (b.length+([a]:List Int).length<=4294967296))).bind fun _=>
 Qk2 a (b++([a]:List Int))
 else
 Qk2 a b
 else
 some (.inr b)
def Qox (a:QLL)(set_33:Int)(b:(List Int)):Option ((Int×QLL)⊕QLL):=
 (chk (decide (a.length+([b]:List (List Int)).length<=4294967296))).bind fun _=>
 some (.inl ((w64 (set_33+1)),(a++([b]:List (List Int)))))
def Qoy (a:Int)(set_33:Int)(b:QLL):Option ((Int×QLL)⊕QLL):=
 (chk (decide (0<=a))).bind fun _=>
 bif (decide (set_33<(QA3 .i64 1 a)))then
 (Qy (fun st=>Qow a set_33 st.1 st.2) (0,([]:List Int))).bind (fun q=>Qox b set_33 q)
 else
 some (.inr b)
def QjP (a:QLL):Option QLL:=
 Qfc a
def QaC (b:Int)(a:Int):Option QLL:=
 bif ((decide (a<0))||((decide (16<a))||((b==3)&&(decide (4<a)))))then
 some ([]:List (List Int))
 else
 bif (b==1)then
 (Qy (fun st=>Qot a st.1 st.2) (0,([]:List Int))).bind (fun q=>Qou q)
 else
 bif (b==2)then
 (Qy (fun st=>Qov a st.1 st.2) (0,([]:List (List Int)))).bind (fun q=>Qk1 q)
 else
 bif (b==3)then
 (Qy (fun st=>Qoy a st.1 st.2) (1,([]:List (List Int)))).bind (fun q=>QjP q)
 else
 Qfc ([]:List (List Int))
theorem Qk3 (d a){r}(h:QaC d a=some r):Qc prog 137 [.I d,.I a] [] (Gives (.own 600 r.length) [(600,.arr 1 (r.map Qz))]):=by
 refine wk_ 79 func137 fun C c=>?_
 unfold QaC at h
 refine tg_ c [7] ?_
 refine AK.meetX (fun σ=>σ=⟨[(0,.I d),(1,.I a),(25,.b ((decide (a<0))||((decide (16<a))||((d==3)&&(decide (4<a))))))],[]⟩) ?_ ?_
 ·refine tg_ c [4] ?_
  rcases QD (decide (a<0))with g | g
  ·refine Qa c [.S 14 (.b true),12,.S 25 (.b ((decide (a<0))||((decide (16<a))||((d==3)&&(decide (4<a)))))),.K [0,1,25] []] rfl ⟨(tc_ g),(congrArg V.b (orT g rfl))⟩ ?_
   exact mt_
  refine Qa c [.S 14 (.b false),4] rfl (tc_ g) ?_
  rcases QD (decide (16<a))with j | j
  ·refine Qa c [.S 18 (.b true),8,.S 25 (.b ((decide (a<0))||((decide (16<a))||((d==3)&&(decide (4<a)))))),.K [0,1,25] []] rfl ⟨(tc_ j),(congrArg V.b (orF g (orT j rfl)))⟩ ?_
   exact mt_
  refine Qa c [.S 18 (.b false),3] rfl (tc_ j) ?_
  rcases QD (d==3)with k | k
  ·refine Qa c [.S 21 (.b true),5,.S 25 (.b ((decide (a<0))||((decide (16<a))||((d==3)&&(decide (4<a)))))),.K [0,1,25] []] rfl ⟨(tc_ k),(congrArg V.b (orF g (orF j (Qah k rfl))))⟩ ?_
   exact mt_
  refine Qa c [.S 21 (.b false),5,.S 25 (.b ((decide (a<0))||((decide (16<a))||((d==3)&&(decide (4<a)))))),.K [0,1,25] []] rfl ⟨(tc_ k),(congrArg V.b (orF g (orF j (QaL k rfl))))⟩ ?_
  exact mt_
 rintro σ rfl
 refine tg_ c [1] ?_
 refine bg_ h (fun G h=>Qa c [.T,7,.adopt 4 600 1,.O 600 (.arr 1 (([]:List (List Int)).map Qz)),.S 4 (.own 600 ([]:List (List Int)).length),.K [4] [600]] rfl (a3_ G rfl rfl) ?_) fun G h=>Qa c [.F,7] rfl (a1_ G) ?_
 ·cases h
  exact d1_ r1_
 refine AK.meet (fun σ=>∃z:QLL,σ=⟨[(5,.own 604 z.length)],[(604,.arr 1 (z.map Qz))]⟩/\Qfc z=some r) ?_ ?_
 ·refine tg_ c [12] ?_
  refine bg_ h (fun l h=>Qa c [.T,13,.adopt 6 33 1,.O 33 (.arr 1 (([]:List Int).map Qe)),.S 6 (.own 33 ([]:List Int).length),.K [6,29,30] [33]] rfl (a3_ l rfl (congrArg (fun n=>V.own 33 n) (by simp))) ?_) fun l h=>Qa c [.F,6] rfl (a1_ l) ?_
  ·obtain⟨A,J,h⟩:=Qb h
   refine AK.loop (body:=(fun st=>Qot a st.1 st.2)) (fun st σ=>σ=⟨[(6,.own 33 st.2.length),(29,.I a),(30,.I st.1)],[(33,.arr 1 (st.2.map Qe))]⟩) (fun q e σ=>e=.exit 1/\σ=⟨[(6,.own 33 q.length)],[(33,.arr 1 (q.map Qe))]⟩) J rfl ?_ ?_
   ·rintro ⟨H,L⟩ o σ rfl h
    refine tg_ c [6] ?_
    rcases Qo h with⟨m,h⟩|⟨m,h⟩
    ·obtain⟨M,h⟩:=Qaq h
     refine Qa c [.T,13,.v (.bd []) [] (.sl 1 (([H]:List Int).map Qe)),.app ((L++([H]:List Int)).map Qe) (L++([H]:List Int)).length,8,.K [6,29,30] [33]] rfl (a3_ m rfl ⟨Qg,Qba M Qg,Qao,Qbq Qg⟩) ?_
     cases h
     exact QU rfl rfl
    refine Qa c [.F,2,.K [6] [33]] rfl (a1_ m) ?_
    cases h
    exact QW rfl (an_ rfl rfl)
   replace h:Qou A=some r:=h
   rintro e σ ⟨rfl,rfl⟩
   refine Qa c [5,.frz 33 (A.map Qe) [6,38] [],1,.O 39 (.arr 1 (([A]:List (List Int)).map Qz)),.S 39 (.own 39 ([A]:List (List Int)).length),6,.K [4] [39],.ren 39 600] rfl (a3_ (a2_ (QbU Qg) (QbU Qg)) rfl rfl) ?_
   cases h
   exact d1_ r1_
  refine bg_ h (fun p h=>Qa c [.T,7,.adopt 5 46 1,.O 46 (.arr 1 (([]:List (List Int)).map Qz)),.S 5 (.own 46 ([]:List (List Int)).length),.K [5,42,43] [46]] rfl (a3_ p rfl (congrArg (fun n=>V.own 46 n) (by simp))) ?_) fun p h=>Qa c [.F,6] rfl (a1_ p) ?_
  ·obtain⟨a3,N,h⟩:=Qb h
   refine AK.loop (body:=(fun st=>Qov a st.1 st.2)) (fun st σ=>σ=⟨[(5,.own 46 st.2.length),(42,.I a),(43,.I st.1)],[(46,.arr 1 (st.2.map Qz))]⟩) (fun q e σ=>e=.exit 3/\σ=⟨[(5,.own 46 q.length)],[(46,.arr 1 (q.map Qz))]⟩) N rfl ?_ ?_
   ·rintro ⟨B,P⟩ o σ rfl h
    refine tg_ c [6] ?_
    rcases Qo h with⟨s,h⟩|⟨s,h⟩
    ·obtain⟨U,h⟩:=Qaq h
     refine Qa c [.T,13,.v (.bd []) [] (.sl 1 (([B]:List Int).map Qe)),.v (.bd []) [] (.sl 1 (([([B]:List Int)]:List (List Int)).map Qz)),.app ((P++([([B]:List Int)]:List (List Int))).map Qz) (P++([([B]:List Int)]:List (List Int))).length,8,.K [5,42,43] [46]] rfl (a4_ s rfl rfl ⟨Qg,Qba U Qg,Qao,Qbq Qg⟩) ?_
     cases h
     exact QU rfl rfl
    refine Qa c [.F,2,.K [5] [46]] rfl (a1_ s) ?_
    cases h
    exact QW rfl (an_ rfl rfl)
   replace h:Qk1 a3=some r:=h
   unfold Qk1 at h
   rintro e σ ⟨rfl,rfl⟩
   refine tg_ c [2,.ren 46 604,.K [5] [604]] ?_
   exact AK.met (ex_ _ (an_ rfl h))
  refine bg_ h (fun t h=>Qa c [.T,6,.adopt 5 74 1,.O 74 (.arr 1 (([]:List (List Int)).map Qz)),.S 5 (.own 74 ([]:List (List Int)).length),.K [1,5,9] [74]] rfl (a3_ t rfl (congrArg (fun n=>V.own 74 n) (by simp))) ?_) fun t h=>Qa c [.F,2,.adopt 5 604 1,.O 604 (.arr 1 (([]:List (List Int)).map Qz)),.S 5 (.own 604 ([]:List (List Int)).length),.K [5] [604]] rfl (a3_ t rfl (congrArg (fun n=>V.own 604 n) (by simp))) ?_
  ·obtain⟨a4,W,h⟩:=Qb h
   refine AK.loop (body:=(fun st=>Qoy a st.1 st.2)) (fun st σ=>σ=⟨[(1,.I a),(5,.own 74 st.2.length),(9,.I st.1)],[(74,.arr 1 (st.2.map Qz))]⟩) (fun q e σ=>e=.exit 5/\σ=⟨[(5,.own 74 q.length)],[(74,.arr 1 (q.map Qz))]⟩) W rfl ?_ ?_
   ·rintro ⟨set_33,f⟩ o σ rfl h
    obtain⟨X,h⟩:=Qaq h
    refine Qa c [5,.o (.any (.I (QA3 .i64 1 a)) none),3] rfl (a1_ (fun σ E h2 _=>Stp.shl rfl rfl (QN c.n rfl) (E _ _ rfl) (E _ _ rfl) (Qai X))) ?_
    refine bg_ h (fun u h=>Qa c [.T,17,.adopt 10 69 1,.O 69 (.arr 1 (([]:List Int).map Qe)),.S 10 (.own 69 ([]:List Int).length),.K [1,5,9,10,60,61] [69,74]] rfl (a3_ u rfl (congrArg (fun n=>V.own 69 n) (by simp))) ?_) fun u h=>Qa c [.F,2,.K [5] [74]] rfl (a1_ u) ?_
    ·obtain⟨w,Y,h⟩:=Qb h
     refine AK.loop (body:=(fun st=>Qow a set_33 st.1 st.2)) (fun st σ=>σ=⟨[(1,.I a),(5,.own 74 f.length),(9,.I set_33),(10,.own 69 st.2.length),(60,.I a),(61,.I st.1)],[(69,.arr 1 (st.2.map Qe)),(74,.arr 1 (f.map Qz))]⟩) (fun q e σ=>e=.exit 7/\σ=⟨[(1,.I a),(5,.own 74 f.length),(9,.I set_33),(10,.own 69 q.length)],[(69,.arr 1 (q.map Qe)),(74,.arr 1 (f.map Qz))]⟩) Y rfl ?_ ?_
     ·rintro ⟨i,Z⟩ o σ rfl h
      refine tg_ c [6] ?_
      refine bq_ c h [.T,2] rfl (fun x h=>?_) [.F,2,.K [1,5,9,10] [69,74]] rfl fun x h=>?_
      ·refine AK.meet (fun σ=>∃D:(List Int),σ=⟨[(1,.I a),(5,.own 74 f.length),(9,.I set_33),(10,.own 69 D.length),(60,.I a),(61,.I i)],[(69,.arr 1 (D.map Qe)),(74,.arr 1 (f.map Qz))]⟩/\Qk2 i D=some o) ?_ ?_
       ·obtain⟨a0,h⟩:=Qaq h
        refine Qa c [11,.o (.any (.I (Qeg .i64 set_33 i)) none),.o (.any (.I (QdK .i64 (Qeg .i64 set_33 i) 1)) none),3] rfl (a2_ (fun σ E h2 _=>Stp.shr rfl rfl (QN c.n rfl) (E _ _ rfl) (E _ _ rfl) (Qai a0)) (fun σ E h2 _=>Stp.andB rfl rfl (QN c.n rfl) (E _ _ rfl) (E _ _ rfl))) ?_
        rcases Qo h with⟨y,h⟩|⟨y,h⟩
        ·obtain⟨a1,h⟩:=Qaq h
         refine Qa c [.T,3,.v (.bd []) [] (.sl 1 (([i]:List Int).map Qe)),.app ((Z++([i]:List Int)).map Qe) (Z++([i]:List Int)).length,3,.K [1,5,9,10,60,61] [69,74]] rfl (a3_ y rfl ⟨Qg,Qba a1 Qg,Qao,Qbq Qg⟩) ?_
         exact AK.met (ex_ _ (an_ rfl h))
        refine Qa c [.F,2,.K [1,5,9,10,60,61] [69,74]] rfl (a1_ y) ?_
        exact AK.met (ex_ _ (an_ rfl h))
       rintro σ ⟨D,rfl,h⟩
       refine tg_ c [4,.K [1,5,9,10,60,61] [69,74]] ?_
       cases h
       exact QU rfl rfl
      cases h
      exact QW rfl (an_ rfl rfl)
     replace h:Qox f set_33 w=some o:=h
     rintro e σ ⟨rfl,rfl⟩
     obtain⟨a2,h⟩:=Qaq h
     refine Qa c [5,.frz 69 (w.map Qe) [10,75] [],.v (.bd []) [] (.sl 1 (([w]:List (List Int)).map Qz)),.app ((f++([w]:List (List Int))).map Qz) (f++([w]:List (List Int))).length,9,.K [1,5,9] [74]] rfl (a3_ (a2_ (QbU Qg) (QbU Qg)) rfl ⟨Qg,Qba a2 Qg,Qao,Qbq Qg⟩) ?_
     cases h
     exact QU rfl rfl
    cases h
    exact QW rfl (an_ rfl rfl)
   replace h:QjP a4=some r:=h
   unfold QjP at h
   rintro e σ ⟨rfl,rfl⟩
   refine tg_ c [2,.ren 74 604,.K [5] [604]] ?_
   exact AK.met (ex_ _ (an_ rfl h))
  exact AK.met (ex_ _ (an_ rfl h))
 rintro σ ⟨z,rfl,h⟩
 refine tg_ c [7,.K [4] [604],.ren 604 600] ?_
 cases h
 exact d1_ r1_
def Qbr (c:(List Int))(d:(List Int))(a:Int):Option (Int⊕(Unit⊕Unit)):=
 bif (decide (a<(c.length:Int)))then
 (idx c a).bind fun e=>
 (idx d a).bind fun b=>
 bif (e != b)then
 some (.inr (.inl ()))
 else
 some (.inl (w64 (a+1)))
 else
 some (.inr (.inr ()))
def Qi1 : Option Bool:=
 some false
def Qi2 : Option Bool:=
 some true
def Qbp (a:(List Int))(b:(List Int)):Option Bool:=
 bif ((a.length:Int) != (b.length:Int))then
 some false
 else
 (Qy (fun st=>Qbr a b st) 0).bind (Sum.elim (fun q=>Qi1) (fun q=>Qi2))
theorem Qpc (f j){r}(h:Qbp f j=some r):Qc prog 139 [.sl 1 (f.map Qe),.sl 1 (j.map Qe)] [] (Gives (.b r) []):=by
 refine wk_ 26 func139 fun C c=>?_
 refine Qa c [9,.o (.ln f.length),1,.o (.ln j.length),3] rfl (a2_ Qg Qg) ?_
 refine bg_ h (fun g h=>Qa c [.T,7,.K [4] []] rfl (a1_ g) ?_) fun g h=>Qa c [.F,6,.o (.ln f.length),4,.K [0,1,12,13] []] rfl (a2_ g Qg) ?_
 ·cases h
  exact d1_ tt_
 obtain⟨m,k,h⟩:=Qb h
 refine AK.loop (body:=(fun st=>Qbr f j st)) (fun st σ=>σ=⟨[(0,.sl 1 (f.map Qe)),(1,.sl 1 (j.map Qe)),(12,.I (f.length:Int)),(13,.I st)],[]⟩) (Sum.elim (fun q e σ=>e=.ret/\σ=⟨[(4,.b false)],[]⟩) (fun q e σ=>e=.exit 0/\σ=⟨[],[]⟩)) k rfl ?_ ?_
 ·rintro u o σ rfl h
  refine tg_ c [6] ?_
  rcases Qo h with⟨i,h⟩|⟨i,h⟩
  ·obtain⟨t,p,h⟩:=Qb h
   obtain⟨s,l,h⟩:=Qb h
   refine Qa c [.T,11,.K [0,1,5,12,13] []] rfl (a1_ i) ?_
   refine AK.draw2 Qr c mixed [.N,.N,.a (.row (Qe t)) none false,.N,.N,.N,.a (.row (Qe s)) none false,.N,.N] [] [] [0,1,12,13,24] [] rfl rfl rfl ⟨⟨tt_,(QF p)⟩,(QF l)⟩ rfl (by kernel_rfl) rfl rfl rfl ?_
   refine tg_ c [1] ?_
   refine bq_ c h [.T,8,.K [4] []] rfl (fun d h=>?_) [.F,7,.K [0,1,12,13] []] rfl fun d h=>?_
   ·cases h
    exact Qab rfl (an_ rfl rfl)
   cases h
   exact QU rfl rfl
  refine Qa c [.F,2,.K [] []] rfl (a1_ i) ?_
  cases h
  exact QW rfl (an_ rfl rfl)
 rcases m with(_ | _)
 ·replace h:Qi1=some r:=h
  rintro e σ ⟨rfl,rfl⟩
  refine tg_ c [2] ?_
  cases h
  exact d1_ tt_
 replace h:Qi2=some r:=h
 rintro e σ ⟨rfl,rfl⟩
 refine tg_ c [8] ?_
 cases h
 exact d1_ tt_
def Qi3 (a:(List Int))(b:(List Int)):Option Bool:=
 (Qbp a b).bind fun c=>
 some c
theorem Quk (f a){r}(h:Qi3 f a=some r):Qc prog 138 [.sl 1 (f.map Qe),.L 617] [(617,.var (Qz a))] (Gives (.b r) [(617,.var (Qz a))]):=by
 refine wk_ 7 func138 fun C g=>?_
 obtain⟨i,e,h⟩:=Qb h
 refine Qa g [9,.o (.C2 (.b i)),4] rfl (a1_ (Qpc _ _ e)) ?_
 cases h
 exact d1_ r1_
def Qav (c:QLL)(d:(List Int))(a:Int):Option (Int⊕(Int⊕Unit)):=
 bif (decide (a<(c.length:Int)))then
 (idx c a).bind fun e=>
 (Qi3 e d).bind fun b=>
 bif b then
 some (.inr (.inl a))
 else
 some (.inl (w64 (a+1)))
 else
 some (.inr (.inr ()))
def QgU (a:Int):Option Int:=
 some a
def QgV : Option Int:=
 some (-1)
def Qdk (a:QLL)(b:(List Int)):Option Int:=
 (Qy (fun st=>Qav a b st) 0).bind (Sum.elim (fun q=>QgU q) (fun q=>QgV))
theorem Qm6 (i c){r}(h:Qdk i c=some r):Qc prog 190 [.sl 1 (i.map Qz),.clo (.func 138) [] [.L 617]] [(617,.var (Qz c))] (Gives (.I r) [(617,.var (Qz c))]):=by
 refine wk_ 19 func190 fun C f=>?_
 refine Qa f [9,.o (.ln i.length),4,.K [0,1,7,8] [617]] rfl (a1_ Qg) ?_
 obtain⟨l,j,h⟩:=Qb h
 refine AK.loop (body:=(fun st=>Qav i c st)) (fun st σ=>σ=⟨[(0,.sl 1 (i.map Qz)),(1,.clo (.func 138) [] [.L 617]),(7,.I (i.length:Int)),(8,.I st)],[(617,.var (Qz c))]⟩) (Sum.elim (fun q e σ=>e=.ret/\σ=⟨[(4,.I q)],[(617,.var (Qz c))]⟩) (fun q e σ=>e=.exit 0/\σ=⟨[],[(617,.var (Qz c))]⟩)) j rfl ?_ ?_
 ·rintro u o σ rfl h
  refine tg_ f [6] ?_
  rcases Qo h with⟨g,h⟩|⟨g,h⟩
  ·obtain⟨s,m,h⟩:=Qb h
   obtain⟨p,k,h⟩:=Qb h
   refine Qa f [.T,15,.o (.row (Qz s)),1,.cm (.clo) [(617,617)] [(617,617)] [] [.d,.d] [(617,.var (Qz c))] (.b p),2] rfl (a3_ g (QF m) (Quk _ _ k)) ?_
   refine bq_ f h [.T,9,.K [4] [617]] rfl (fun a h=>?_) [.F,7,.K [0,1,7,8] [617]] rfl fun a h=>?_
   ·cases h
    exact Qab rfl (an_ rfl rfl)
   cases h
   exact QU rfl rfl
  refine Qa f [.F,2,.K [] [617]] rfl (a1_ g) ?_
  cases h
  exact QW rfl (an_ rfl rfl)
 rcases l with(t | _)
 ·replace h:QgU t=some r:=h
  rintro e σ ⟨rfl,rfl⟩
  refine tg_ f [2] ?_
  cases h
  exact d1_ r1_
 replace h:QgV=some r:=h
 rintro e σ ⟨rfl,rfl⟩
 refine tg_ f [8] ?_
 cases h
 exact d1_ r1_
def QcB (a:QLL)(b:(List Int)):Option Bool:=
 (Qdk a b).bind fun c=>
 some (decide (0<=c))
theorem QlW (e a){r}(h:QcB e a=some r):Qc prog 136 [.sl 1 (e.map Qz),.clo (.func 138) [] [.L 617]] [(617,.var (Qz a))] (Gives (.b r) [(617,.var (Qz a))]):=by
 refine wk_ 9 func136 fun C f=>?_
 obtain⟨g,c,h⟩:=Qb h
 refine Qa f [9,.cm (.fn) [(617,617)] [(617,617)] [] [.d,.d] [(617,.var (Qz a))] (.I g),5] rfl (a1_ (Qm6 _ _ c)) ?_
 cases h
 exact d1_ r1_
def Qeb (a:Int)(b:Int)(c:(List Int)):Option Bool:=
 (QaC a b).bind fun d=>
 (QcB d c).bind fun e=>
 some e
theorem QpD (a c e){r}(h:Qeb a c e=some r):Qc prog 72 [.I a,.I c,.sl 1 (e.map Qe)] [] (Gives (.b r) []):=by
 refine wk_ 12 func72 fun C j=>?_
 obtain⟨f,g,h⟩:=Qb h
 obtain⟨k,i,h⟩:=Qb h
 refine Qa j [10,.o (.co false [.d,.d] 1 (f.map Qz) f.length),1,.frz 9 (f.map Qz) [9] [],.cm (.fn) [(617,5)] [(5,617)] [] [.d,.d] [(617,.var (Qz e))] (.b k),4] rfl (a3_ ⟨(Qk3 _ _ g),Qg,.inl rfl⟩ (a1_ (QbU Qg)) (QlW _ _ i)) ?_
 cases h
 exact d1_ tt_
def QbX (c:(Bool×Qaw))(a:Int):Option (Int×Bool):=
 (Qb1 c.2 a).bind fun b=>
 bif (!b)then
 some (0,false)
 else
 some (a,true)
def Qc5 (d:(List QE))(e:Int)(b:Int):Option (Int×Bool):=
 (Qc7 d e).bind fun c=>
 bif (!c.1)then
 some (0,false)
 else
 (QbB c.2).bind fun a=>
 bif (a.Kind==1)then
 bif ((decide (b<a.Lo))||(decide (a.Hi<b)))then
 some (0,false)
 else
 QbX c (w64 (b-a.Lo))
 else
 QbX c b
theorem Qul (w x k){r}(h:Qc5 w x k=some r):Qc prog 96 [.sl 7 (w.map Qs),.I x,.I k] [] (Gives (.tup [.I r.1,.b r.2]) []):=by
 refine wk_ 43 func96 fun C f=>?_
 obtain⟨l,t,h⟩:=Qb h
 refine Qa f [10,.o (.C2 (.tup [.agg (Q3 l.2),.b l.1])),5,.O 8 (.var (Q3 l.2)),10] rfl (a2_ (Qnk _ _ t) rfl) ?_
 refine bq_ f h [.T,8,.K [6,7] []] rfl (fun m h=>?_) [.F,2] rfl fun m h=>?_
 ·cases h
  exact d2_ tt_
 refine AK.meet (fun σ=>∃p:Int,σ=⟨[(2,.I p),lk_ 8],[(8,.var (Q3 l.2))]⟩/\QbX l p=some r) ?_ ?_
 ·obtain⟨a,q,h⟩:=Qb h
  refine Qa f [2,.A (Q3 l.2),.o (.C1 (.agg (Qs a))),2,.O 10 (.var (Qs a)),9] rfl (a3_ rfl (QgM _ q) rfl) ?_
  refine bq_ f h [.T,2] rfl (fun g h=>?_) [.F,1,.K [2,8] [8]] rfl fun g h=>?_
  ·refine AK.meetX (fun σ=>σ=⟨[(2,.I k),lk_ 8,lk_ 10,(33,.b ((decide (k<a.Lo))||(decide (a.Hi<k))))],[(8,.var (Q3 l.2)),(10,.var (Qs a))]⟩) ?_ ?_
   ·refine tg_ f [6] ?_
    rcases QD (decide (k<a.Lo))with e | e
    ·refine Qa f [.S 28 (.b true),6,.S 33 (.b ((decide (k<a.Lo))||(decide (a.Hi<k)))),.K [2,8,10,33] [8,10]] rfl ⟨(tc_ e),(congrArg V.b (orT e rfl))⟩ ?_
     exact mt_
    refine Qa f [.S 28 (.b false),6,.S 33 (.b ((decide (k<a.Lo))||(decide (a.Hi<k)))),.K [2,8,10,33] [8,10]] rfl ⟨(tc_ e),(congrArg V.b (orF e rfl))⟩ ?_
    exact mt_
   rintro σ rfl
   refine tg_ f [1] ?_
   refine bq_ f h [.T,9,.K [6,7] []] rfl (fun i h=>?_) [.F,9,.K [2,8] [8]] rfl fun i h=>?_
   ·cases h
    exact d2_ tt_
   exact AK.met (ex_ _ (an_ rfl h))
  exact AK.met (ex_ _ (an_ rfl h))
 rintro σ ⟨p,rfl,h⟩
 obtain⟨u,s,h⟩:=Qb h
 refine Qa f [3,.A (Q3 l.2),1,.o (.C2 (.b u)),3] rfl (a2_ rfl (Qm8 _ _ s)) ?_
 refine bq_ f h [.T,8,.K [6,7] []] rfl (fun j h=>?_) [.F,10,.K [6,7] []] rfl fun j h=>?_
 ·cases h
  exact d2_ tt_
 cases h
 exact d2_ tt_
def QdU (a:QBg):Option Unit:=
 some ()
theorem Qlc (a){r}(h:QdU a=some r):Qc prog 92 [.map 617] [(617,.map (QP V.I V.I a))] (Gives (.clo (.func 159) [] [.L 1]) [(1,.var [.map 617]),(617,.map (QP V.I V.I a))]):=by
 refine wk_ 4 func92 fun C b=>?_
 refine tg_ b [13] ?_
 cases h
 exact d1_ r2_
def QcQ (a:(List Int))(b:Int):Option (List Int):=
 (chk (decide (a.length+([b]:List Int).length<=4294967296))).bind fun _=>
 some (a++([b]:List Int))
theorem QiI (lpl lpf:Nat)(a:(List Int))(c:Int){r:(List Int)}(h:QcQ a c=some r):QnS prog lpl (QfE lpf) (QEV (.L 618) (.I c)) [(617,.lp lpl (QfE lpf) (QrC (.L 618)) 0),(618,.var [.own 615 a.length]),(615,.arr 1 (a.map Qe))] (Gives (.b true) [(615,.arr 1 (r.map Qe)),(617,.lp lpl (QfE lpf) (QrC (.L 618)) 0),(618,.var [.own 615 r.length])]):=by
 refine QnS.walk (b:=617) 13 rfl rfl fun C e=>?_
 refine tg_ e [3] ?_
 refine AK.done (an_ rfl (ex_ _ (an_ rfl ?_)))
 obtain⟨d,h⟩:=Qaq h
 refine Qa e [4,.v (.bd []) [] (.sl 1 (([c]:List Int).map Qe)),.app ((a++([c]:List Int)).map Qe) (a++([c]:List Int)).length,1,.O 618 (.var [.own 615 (a++([c]:List Int)).length]),2,.K [] [615,617,618]] rfl (a3_ rfl ⟨Qg,Qba d Qg,Qao,Qbq Qg⟩ rfl) ?_
 cases h
 refine AK.done ?_
 exact ex_ _ (an_ rfl (gives r3_))
theorem Qkr (lpl lpf:Nat)(c:(List Int))(i:QBg)(hlen:c.length+i.length<=4294967296):Qc prog 159 [.clo (.yield lpl) [] [],.L 619] [(617,.lp lpl (QfE lpf) (QrC (.L 618)) 0),(618,.var [.own 615 c.length]),(615,.arr 1 (c.map Qe)),(619,.var [.map 620]),(620,.map (QP V.I V.I i))] (fun v hs=>∃r:List Int,r.Perm (c++i.map Prod.fst)/\Gives (.tup []) [(615,.arr 1 (r.map Qe)),(617,.lp lpl (QfE lpf) (QrC (.L 618)) 0),(618,.var [.own 615 r.length]),(619,.var [.map 620]),(620,.map (QP V.I V.I i))] v hs):=by
 refine wk_ 14 func159 fun C a=>?_
 refine tg_ a [3] ?_
 refine AK.openMap (b:=620) QlT rfl fun k l L4 p s=>?_
 refine Qa a [.x (fun σ=>(σ.set 5 (.itr k l #[] none)).put 5 (.L 5)),3,.K [0,5] [5,615,617,618,619,620]] rfl (a1_ (Stp.range (b:=620) rfl rfl (QN a.n rfl) rfl rfl QhP rfl)) ?_
 have hL0:QaH L4 #[]=L4:=by simp [QaH]
 have z:(c++(QaH L4 #[]).map (fun q=>q.2.1)).Perm (c++i.map Prod.fst):=by
  rw [hL0]
  refine List.Perm.append_left c ?_
  have:=s.map Prod.fst
  rwa [Qmi]at this
 refine AK.range (body:=QA6) (fun (_:Nat) seen σ=>∃(cur:Option Nat) (st:List Int),(st++(QaH L4 seen).map (fun q=>q.2.1)).Perm (c++i.map Prod.fst)/\σ=⟨[(0,.clo (.yield lpl) [] []),lk_ 5],[(5,.itr k l seen cur),(615,.arr 1 (st.map Qe)),(617,.lp lpl (QfE lpf) (QrC (.L 618)) 0),(618,.var [.own 615 st.length]),(619,.var [.map 620]),(620,.mapX k l (QjH V.I V.I L4) (QP V.I V.I i))]⟩) (fun (q:Empty) _ _=>False) (fun _ e σ=>∃st:List Int,st.Perm (c++i.map Prod.fst)/\e=.exit 0/\σ=⟨[],[(615,.arr 1 (st.map Qe)),(617,.lp lpl (QfE lpf) (QrC (.L 618)) 0),(618,.var [.own 615 st.length]),(619,.var [.map 620]),(620,.mapX k l (QjH V.I V.I L4) (QP V.I V.I i))]⟩) p s (QBR i 0) (ex_ _ (ex_ c (an_ z rfl))) ?_ ?_
 ·rintro D seen σ ⟨cur,o,hpp,rfl⟩ hex
  refine tg_ a [2] ?_
  refine AK.nextT (b:=5) (m:=620) rfl rfl rfl (QN a.n rfl) rfl rfl rfl rfl ?_ ?_
  ·intro hleft
   refine tg_ a [7,.K [] [615,617,618,619,620]] ?_
   exact AK.done (Or.inl (an_ hleft (an_ (fun h=>(by cases h)) (ex_ o (an_ (by simpa [hleft] using hpp) (an_ rfl rfl))))))
  intro A y E u
  have hpk:=(QsI p u).map (fun q=>q.2.1)
  have w:((o++[y])++(QaH L4 (seen.push A)).map (fun q=>q.2.1)).Perm (c++i.map Prod.fst):=List.Perm.trans (by simpa using (List.Perm.append_left o hpk).symm) hpp
  have B:o.length+([y]:List Int).length<=4294967296:=by
   have:=w.length_eq
   simp at this ⊢
   omega
  have t:QcQ o y=some (o++[y]):=by
   unfold QcQ
   rw [QH B];rfl
  obtain⟨j,hxe⟩:∃x,x=o++[y]:=⟨_,rfl⟩
  rw [<-hxe]at t w
  refine Qa a [10,.x (fun σ=>σ.put 8 (.tup [.I y,.I E])),8,.x (fun σ=>(σ.after [615] [(615,.arr 1 (j.map Qe)),(617,.lp lpl (QfE lpf) (QrC (.L 618)) 0),(618,.var [.own 615 j.length])]).put 12 (.b true)),6,.K [0,5] [5,615,617,618,619,620]] rfl (a2_ (Stp.entryT (b:=5) (m:=620) (e:=V.I) (f:=V.I) rfl rfl (QN a.n rfl) rfl u rfl rfl) (Stp.yieldV (b:=617) (M:=[(617,617),(618,618),(615,615)]) (N:=[(615,615),(617,617),(618,618)]) (dead:=[615]) (ms:=[.d,.d,.d,.d,.d,.d,.d,.d,.d,.d,.d,.d,.d]) (outs:=[(615,.arr 1 (j.map Qe)),(617,.lp lpl (QfE lpf) (QrC (.L 618)) 0),(618,.var [.own 615 j.length])]) (r:=.b true) rfl rfl rfl rfl rfl rfl rfl (QN a.n rfl) a.g rfl rfl (QiI _ _ _ _ t))) ?_
  exact AK.done (Or.inr (ex_ _ (an_ u (Or.inl (ex_ (D+1) (an_ rfl (an_ rfl (ex_ _ (ex_ j (an_ w rfl))))))))))
 rintro e σ ⟨o,hpp,rfl,rfl⟩
 refine tg_ a [1] ?_
 refine AK.closeMap (b:=620) rfl ?_
 refine tg_ a [.K [] [615,617,618,619,620]] ?_
 refine AK.done ?_
 exact ex_ [] (an_ tt_ (ex_ o (an_ hpp (gives r5_))))
theorem Qm7 (a:QBg)(hlen:a.length<=4294967296):Qc prog 201 [.lit (.slice none 0 0),.clo (.func 159) [] [.L 617]] [(617,.var [.map 618]),(618,.map (QP V.I V.I a))] (fun v hs=>∃r:List Int,r.Perm (a.map Prod.fst)/\Gives (.own 600 r.length) [(600,.arr 1 (r.map Qe)),(617,.var [.map 618]),(618,.map (QP V.I V.I a))] v hs):=by
 refine Qc.walkR 13 func201 rfl ntmps201 rfl fun C c hR=>?_
 refine tg_ c [13,.K [2,4,6] [2,617,618]] ?_
 refine Qa c [.adoptO 2 0 607 1,.O 607 (.arr 1 (([]:List Int).map Qe)),.O 2 (.var [.own 607 ([]:List Int).length])] rfl (a2_ rfl rfl) ?_
 refine AK.rangeFE (ι:=List Int) (Φ:=fun x=>x.Perm (a.map Prod.fst)) 614 [2] [(617,614),(618,2),(615,607),(619,617),(620,618)] [(607,615),(614,617),(2,618),(617,619),(618,620)] [607] [.d,.d] QfE c hR (fun _=>rfl) rfl rfl rfl rfl fun lpl lpf=>?_
 refine ex_ (fun b:List Int=>[(615,.arr 1 (b.map Qe)),(617,.lp lpl (QfE lpf) (QrC (.L 618)) 0),(618,.var [.own 615 b.length]),(619,.var [.map 620]),(620,.map (QP V.I V.I a))]) (ex_ (fun _=>.tup []) (ex_ (fun b=>_) (ex_ _ (ex_ _ (an_ rfl (an_ rfl (an_ (Qkr _ _ ([]:List Int) a (by simpa using hlen)) fun b=>ex_ _ (ex_ (QrC (.L 2)) (ex_ 0 (an_ rfl (an_ rfl (an_ (bne_iff_ne.1 (show(0 != 1)=true from rfl)) fun hpp=>?_))))))))))))
 refine QDO rfl ?_
 refine tg_ c [9,.K [4] [607,617,618],.ren 607 600,.K [4] [600,617,618]] ?_
 exact AK.done (ex_ [_] (an_ (an_ rfl tt_) (ex_ b (an_ hpp (gives r3_)))))
theorem Qqr (a:QBg)(hlen:a.length<=4294967296):Qc prog 158 [.clo (.func 159) [] [.L 617]] [(617,.var [.map 618]),(618,.map (QP V.I V.I a))] (fun v hs=>∃r:List Int,r.Perm (a.map Prod.fst)/\Gives (.own 600 r.length) [(600,.arr 1 (r.map Qe)),(617,.var [.map 618]),(618,.map (QP V.I V.I a))] v hs):=by
 refine wk_ 5 func158 fun C c=>?_
 refine tg_ c [8] ?_
 refine AK.callE (ι:=List Int) (Φ:=fun x=>x.Perm (a.map Prod.fst)) [(617,617),(618,618)] [(4,600),(617,617),(618,618)] [] [.d,.d] (fun b=>[(600,.arr 1 (b.map Qe)),(617,.var [.map 618]),(618,.map (QP V.I V.I a))]) (fun b=>(.own 600 b.length)) (fun b=>_) rfl c (QaS.fn rfl rfl rfl) rfl (QN c.n rfl) rfl rfl (Qm7 a hlen) (fun b=>ex_ _ rfl) fun b hpp=>?_
 refine tg_ c [4,.K [2] [4,617,618],.ren 4 600,.K [2] [600,617,618]] ?_
 exact AK.done (ex_ [_] (an_ (an_ rfl tt_) (ex_ b (an_ hpp (gives r3_)))))
def Qcx (l:List Int):Option (List Int):=(chk (decide (l.length<4611686018427387904))).bind fun _=>some (Qej l)
theorem QjQ (l){r}(h:Qcx l=some r):Qc prog 143 [.own 617 l.length] [(617,.arr 1 (l.map Qe))] (Gives (.tup []) [(617,.arr 1 (r.map Qe))]):=by
 obtain⟨_,a,h⟩:=Qb h
 cases h
 exact QAk QBV l (Qai (QAG a))
def QiJ (a:QBg):Option (List Int):=
 (chk (decide (a.length<=4294967296))).bind fun _=>
 some (Qej (a.map Prod.fst))
theorem QrE (a){r}(h:QiJ a=some r):Qc prog 91 [.clo (.func 159) [] [.L 617]] [(617,.var [.map 618]),(618,.map (QP V.I V.I a))] (Gives (.own 600 r.length) [(600,.arr 1 (r.map Qe)),(617,.var [.map 618]),(618,.map (QP V.I V.I a))]):=by
 refine wk_ 9 func91 fun C e=>?_
 obtain⟨_,hlen,h⟩:=Qb h
 replace hlen:=Qai (QAG hlen)
 cases h
 refine tg_ e [8] ?_
 refine AK.callE (ι:=List Int) (Φ:=fun x=>x.Perm (a.map Prod.fst)) [(617,617),(618,618)] [(5,600),(617,617),(618,618)] [] [.d] (fun b=>[(600,.arr 1 (b.map Qe)),(617,.var [.map 618]),(618,.map (QP V.I V.I a))]) (fun b=>(.own 600 b.length)) (fun b=>_) rfl e (QaS.fn rfl rfl rfl) rfl (QN e.n rfl) rfl rfl (Qqr a hlen) (fun b=>ex_ _ rfl) fun b hpp=>?_
 have f:Qcx b=some (Qej (a.map Prod.fst)):=by
  unfold Qcx
  rw [QH (by have:=hpp.length_eq;simp at this;omega),QA7 hpp];rfl
 have c:(Qej (a.map Prod.fst)).length=b.length:=by rw [QhI,hpp.length_eq]
 refine Qa e [6,.cm (.fn) [(617,5)] [(5,617)] [] [.d] [(617,.arr 1 (((Qej (a.map Prod.fst))).map Qe))] (.tup []),.S 3 (.own 5 (Qej (a.map Prod.fst)).length),.S 5 (.own 5 (Qej (a.map Prod.fst)).length),.S 6 (.own 5 (Qej (a.map Prod.fst)).length),9,.K [2] [5,617,618],.ren 5 600,.K [2] [600,617,618]] rfl (a4_ (QjQ _ f) (by simp [c]) (by simp [c]) (by simp [c])) ?_
 exact d1_ r3_
def Qes (b:Int)(a:QBg):Option ((Int×QBg)⊕QBg):=
 some (.inl ((w64 (b+1)),a))
def Qcl (e:(List Int))(d:QBg)(b:Int)(c:QBg):Option ((Int×QBg)⊕QBg):=
 bif (decide (b<(e.length:Int)))then
 (idx e b).bind fun a=>
 bif (decide (0<((QV d a).getD 0)))then
 (chk (decide (c.length+([(a,((QV d a).getD 0))]:List (Int×Int)).length<=4294967296))).bind fun _=>
 Qes b (c++([(a,((QV d a).getD 0))]:List (Int×Int)))
 else
 Qes b c
 else
 some (.inr c)
def Qm9 (a:QBg):Option QBg:=
 some a
def Qex (a:QBg):Option QBg:=
 (QdU a).bind fun c=>
 (QiJ a).bind fun b=>
 (Qy (fun st=>Qcl b a st.1 st.2) (0,([]:List (Int×Int)))).bind (fun q=>Qm9 q)
theorem QiK (b){r}(h:Qex b=some r):Qc prog 48 [.map 617] [(617,.map (QP V.I V.I b))] (Gives (.own 600 r.length) [(600,.arr 2 (r.map Ql)),(617,.map (QP V.I V.I b))]):=by
 refine wk_ 28 func48 fun C c=>?_
 obtain⟨E,w,h⟩:=Qb h
 obtain⟨j,x,h⟩:=Qb h
 refine Qa c [14,.cm (.fn) [(617,617)] [(7,1),(617,617)] [] [.d] [(1,.var [.map 617]),(617,.map (QP V.I V.I b))] (.clo (.func 159) [] [.L 1]),.cm (.fn) [(617,7),(618,617)] [(8,600),(7,617),(617,618)] [] [.d] [(600,.arr 1 (j.map Qe)),(617,.var [.map 618]),(618,.map (QP V.I V.I b))] (.own 600 j.length),5,.adopt 3 18 2,.O 18 (.arr 2 (([]:List (Int×Int)).map Ql)),.S 3 (.own 18 ([]:List (Int×Int)).length),.K [0,3,8,9,10] [8,18,617]] rfl (a4_ (Qlc _ w) (QrE _ x) rfl (congrArg (fun n=>V.own 18 n) (by simp))) ?_
 obtain⟨y,s,h⟩:=Qb h
 refine AK.loop (body:=(fun st=>Qcl j b st.1 st.2)) (fun st σ=>σ=⟨[(0,.map 617),(3,.own 18 st.2.length),(8,.own 8 j.length),(9,.I (j.length:Int)),(10,.I st.1)],[(8,.arr 1 (j.map Qe)),(18,.arr 2 (st.2.map Ql)),(617,.map (QP V.I V.I b))]⟩) (fun q e σ=>e=.exit 0/\σ=⟨[(3,.own 18 q.length)],[(18,.arr 2 (q.map Ql)),(617,.map (QP V.I V.I b))]⟩) s rfl ?_ ?_
 ·rintro ⟨B,D⟩ o σ rfl h
  refine tg_ c [6] ?_
  refine bq_ c h [.T,2] rfl (fun g h=>?_) [.F,2,.K [3] [18,617]] rfl fun g h=>?_
  ·refine AK.meet (fun σ=>∃m:QBg,σ=⟨[(0,.map 617),(3,.own 18 m.length),(8,.own 8 j.length),(9,.I (j.length:Int)),(10,.I B)],[(8,.arr 1 (j.map Qe)),(18,.arr 2 (m.map Ql)),(617,.map (QP V.I V.I b))]⟩/\Qes B m=some o) ?_ ?_
   ·obtain⟨a,p,h⟩:=Qb h
    refine Qa c [4,.o (.row (Qe a)),7,.o (.any (.I ((QV b a).getD 0)) none),3] rfl (a3_ (Qc3 p rfl) (QbO (Qck p).2) (fun σ t A _=>Stp.lookup (e:=V.I) (f:=V.I) (l:=b) (k:=a) (z:=0) rfl rfl (QN c.n rfl) (t _ _ rfl) (A _ _ rfl) (t _ _ rfl) QhP QlT Qv4 rfl)) ?_
    rcases Qo h with⟨i,h⟩|⟨i,h⟩
    ·obtain⟨u,h⟩:=Qaq h
     refine Qa c [.T,5,.o (.any (.I ((QV b a).getD 0)) none),.A (Ql (a,((QV b a).getD 0))),.v (.bd []) [] (.sl 2 (([(a,((QV b a).getD 0))]:List (Int×Int)).map Ql)),.app ((D++([(a,((QV b a).getD 0))]:List (Int×Int))).map Ql) (D++([(a,((QV b a).getD 0))]:List (Int×Int))).length,3,.K [0,3,8,9,10] [8,18,617]] rfl (a5_ i (fun σ t A _=>Stp.lookup (e:=V.I) (f:=V.I) (l:=b) (k:=a) (z:=0) rfl rfl (QN c.n rfl) (t _ _ rfl) (A _ _ rfl) (t _ _ rfl) QhP QlT Qv4 rfl) rfl rfl ⟨Qg,Qba u Qg,Qao,Qbq Qg⟩) ?_
     exact AK.met (ex_ _ (an_ rfl h))
    refine Qa c [.F,2,.K [0,3,8,9,10] [8,18,617]] rfl (a1_ i) ?_
    exact AK.met (ex_ _ (an_ rfl h))
   rintro σ ⟨m,rfl,h⟩
   refine tg_ c [4,.K [0,3,8,9,10] [8,18,617]] ?_
   cases h
   exact QU rfl rfl
  cases h
  exact QW rfl (an_ rfl rfl)
 replace h:Qm9 y=some r:=h
 rintro e σ ⟨rfl,rfl⟩
 refine tg_ c [9,.K [2] [18,617],.ren 18 600] ?_
 cases h
 exact d1_ r2_
def QnH (b:Int)(a:QBg):Option ((Int×QBg)⊕QBg):=
 some (.inl ((w64 (b+1)),a))
def Qfp (d:(List Int))(b:Int)(c:QBg):Option ((Int×QBg)⊕QBg):=
 bif (decide (b<(d.length:Int)))then
 (idx d b).bind fun a=>
 bif (decide (0<=a))then
 QnH b (Qcv ltI c a (min2 (w64 (((QV c a).getD 0)+1)) 1048576))
 else
 QnH b c
 else
 some (.inr c)
def QnI (b:QBg):Option QBg:=
 (Qex b).bind fun a=>
 some a
def QsZ (a:(List Int)):Option QBg:=
 (Qy (fun st=>Qfp a st.1 st.2) (0,([]:QBg))).bind (fun q=>QnI q)
theorem QAn (g){r}(h:QsZ g=some r):Qc prog 97 [.sl 1 (g.map Qe)] [] (Gives (.own 600 r.length) [(600,.arr 2 (r.map Ql))]):=by
 refine wk_ 25 func97 fun C c=>?_
 refine Qa c [8,.O 6 (.map (QP V.I V.I ([]:QBg))),7,.o (.ln g.length),4,.K [3,7,8,9] [6]] rfl (a2_ rfl Qg) ?_
 obtain⟨w,p,h⟩:=Qb h
 refine AK.loop (body:=(fun st=>Qfp g st.1 st.2)) (fun st σ=>σ=⟨[(3,.map 6),(7,.sl 1 (g.map Qe)),(8,.I (g.length:Int)),(9,.I st.1)],[(6,.map (QP V.I V.I st.2))]⟩) (fun q e σ=>e=.exit 0/\σ=⟨[(3,.map 6)],[(6,.map (QP V.I V.I q))]⟩) p rfl ?_ ?_
 ·rintro ⟨y,m⟩ o σ rfl h
  refine tg_ c [6] ?_
  refine bq_ c h [.T,2] rfl (fun i h=>?_) [.F,2,.K [3] [6]] rfl fun i h=>?_
  ·refine AK.meet (fun σ=>∃j:QBg,σ=⟨[(3,.map 6),(7,.sl 1 (g.map Qe)),(8,.I (g.length:Int)),(9,.I y)],[(6,.map (QP V.I V.I j))]⟩/\QnH y j=some o) ?_ ?_
   ·obtain⟨a,s,h⟩:=Qb h
    refine Qa c [3,.o (.row (Qe a)),10] rfl (a1_ (QF s)) ?_
    refine bg_ h (fun b h=>Qa c [.T,5,.o (.any (.I ((QV m a).getD 0)) none),2,.x (fun σ=>σ.set 6 (.map (QP V.I V.I (Qcv ltI m a (min2 (w64 (((QV m a).getD 0)+1)) 1048576))))),2,.K [3,7,8,9] [6]] rfl (a3_ b (fun σ A B _=>Stp.lookup (e:=V.I) (f:=V.I) (l:=m) (k:=a) (z:=0) rfl rfl (QN c.n rfl) (A _ _ rfl) (B _ _ rfl) (A _ _ rfl) QhP QlT Qv4 rfl) (Stp.mapUpdate (e:=V.I) (f:=V.I) (l:=m) (k:=a) (v:=(min2 (w64 (((QV m a).getD 0)+1)) 1048576)) ltI rfl rfl rfl rfl rfl rfl QhP QlT rfl)) ?_) fun b h=>Qa c [.F,2,.K [3,7,8,9] [6]] rfl (a1_ b) ?_
    ·exact AK.met (ex_ _ (an_ rfl h))
    exact AK.met (ex_ _ (an_ rfl h))
   rintro σ ⟨j,rfl,h⟩
   refine tg_ c [4,.K [3,7,8,9] [6]] ?_
   cases h
   exact QU rfl rfl
  cases h
  exact QW rfl (an_ rfl rfl)
 replace h:QnI w=some r:=h
 rintro e σ ⟨rfl,rfl⟩
 obtain⟨t,u,h⟩:=Qb h
 refine Qa c [5,.cm (.fn) [(617,6)] [(24,600),(6,617)] [] [.d] [(600,.arr 2 (t.map Ql)),(617,.map (QP V.I V.I w))] (.own 600 t.length),4,.K [2] [24],.ren 24 600] rfl (a1_ (QiK _ u)) ?_
 cases h
 exact d1_ r1_
def QcR (d:QBg)(a:Int)(c:Int):Option ((Int×Int)⊕(Unit⊕Unit)):=
 bif (decide (c<(d.length:Int)))then
 (idx d c).bind fun b=>
 bif ((decide (b.1<=a))||((decide (b.2<1))||(decide (1048576<b.2))))then
 some (.inr (.inl ()))
 else
 some (.inl (b.1,(w64 (c+1))))
 else
 some (.inr (.inr ()))
def Qks : Option Bool:=
 some false
def Qkt : Option Bool:=
 some true
def QdM (a:QBg):Option Bool:=
 (Qy (fun st=>QcR a st.1 st.2) ((-1),0)).bind (Sum.elim (fun q=>Qks) (fun q=>Qkt))
theorem Qhn (j){r}(h:QdM j=some r):Qc prog 54 [.sl 2 (j.map Ql)] [] (Gives (.b r) []):=by
 refine wk_ 29 func54 fun C g=>?_
 refine Qa g [14,.o (.ln j.length),4,.K [3,6,7,8] []] rfl (a1_ Qg) ?_
 obtain⟨m,l,h⟩:=Qb h
 refine AK.loop (body:=(fun st=>QcR j st.1 st.2)) (fun st σ=>σ=⟨[(3,.I st.1),(6,.sl 2 (j.map Ql)),(7,.I (j.length:Int)),(8,.I st.2)],[]⟩) (Sum.elim (fun q e σ=>e=.ret/\σ=⟨[(2,.b false)],[]⟩) (fun q e σ=>e=.exit 0/\σ=⟨[],[]⟩)) l rfl ?_ ?_
 ·rintro ⟨a,s⟩ o σ rfl h
  refine tg_ g [6] ?_
  rcases Qo h with⟨k,h⟩|⟨k,h⟩
  ·obtain⟨d,p,h⟩:=Qb h
   refine Qa g [.T,6,.o (.row (Ql d)),.A (Ql d),2,.O 5 (.var (Ql d)),4] rfl (a4_ k (QF p) rfl rfl) ?_
   refine AK.meetX (fun σ=>σ=⟨[lk_ 5,(6,.sl 2 (j.map Ql)),(7,.I (j.length:Int)),(8,.I s),(25,.b ((decide (d.1<=a))||((decide (d.2<1))||(decide (1048576<d.2)))))],[(5,.var (Ql d))]⟩) ?_ ?_
   ·refine tg_ g [6] ?_
    rcases QD (decide (d.1<=a))with c | c
    ·refine Qa g [.S 16 (.b true),10,.S 25 (.b ((decide (d.1<=a))||((decide (d.2<1))||(decide (1048576<d.2))))),.K [5,6,7,8,25] [5]] rfl ⟨(tc_ c),(congrArg V.b (orT c rfl))⟩ ?_
     exact mt_
    refine Qa g [.S 16 (.b false),5] rfl (tc_ c) ?_
    rcases QD (decide (d.2<1))with f | f
    ·refine Qa g [.S 21 (.b true),5,.S 25 (.b ((decide (d.1<=a))||((decide (d.2<1))||(decide (1048576<d.2))))),.K [5,6,7,8,25] [5]] rfl ⟨(tc_ f),(congrArg V.b (orF c (orT f rfl)))⟩ ?_
     exact mt_
    refine Qa g [.S 21 (.b false),5,.S 25 (.b ((decide (d.1<=a))||((decide (d.2<1))||(decide (1048576<d.2))))),.K [5,6,7,8,25] [5]] rfl ⟨(tc_ f),(congrArg V.b (orF c (orF f rfl)))⟩ ?_
    exact mt_
   rintro σ rfl
   refine tg_ g [1] ?_
   refine bq_ g h [.T,9,.K [2] []] rfl (fun i h=>?_) [.F,13,.K [3,6,7,8] []] rfl fun i h=>?_
   ·cases h
    exact Qab rfl (an_ rfl rfl)
   cases h
   exact QU rfl rfl
  refine Qa g [.F,2,.K [] []] rfl (a1_ k) ?_
  cases h
  exact QW rfl (an_ rfl rfl)
 rcases m with(_ | _)
 ·replace h:Qks=some r:=h
  rintro e σ ⟨rfl,rfl⟩
  refine tg_ g [2] ?_
  cases h
  exact d1_ tt_
 replace h:Qkt=some r:=h
 rintro e σ ⟨rfl,rfl⟩
 refine tg_ g [8] ?_
 cases h
 exact d1_ tt_
def QgP (c:QBg)(b:Int)(d:QBg):Option ((Int×QBg)⊕QBg):=
 bif (decide (b<(c.length:Int)))then
 (idx c b).bind fun a=>
 some (.inl ((w64 (b+1)),(Qcv ltI d a.1 a.2)))
 else
 some (.inr d)
def QvT (a:QBg):Option (Unit⊕QBg):=
 some (.inr a)
def Qnm (a:QBg):Option (Unit⊕QBg):=
 (QdM a).bind fun b=>
 bif (!b)then
 some (.inl ())
 else
 (Qy (fun st=>QgP a st.1 st.2) (0,([]:QBg))).bind (fun q=>QvT q)
theorem QiB (m){r}(h:Qnm m=some r):Qc prog 90 [.sl 2 (m.map Ql)] [] ((Sum.elim (fun q=>(Gives (.tup [.lit (.map none),.b false]) [])) (fun q=>(Gives (.tup [.map 601,.b true]) [(601,.map (QP V.I V.I q))]))) r):=by
 refine wk_ 24 func90 fun C i=>?_
 obtain⟨y,t,h⟩:=Qb h
 refine Qa i [10,.o (.C1 (.b y)),3] rfl (a1_ (Qhn _ t)) ?_
 refine bg_ h (fun j h=>Qa i [.T,8,.K [2,3] []] rfl (a1_ j) ?_) fun j h=>Qa i [.F,5,.O 10 (.map (QP V.I V.I ([]:QBg))),7,.o (.ln m.length),4,.K [4,11,12,13] [10]] rfl (a3_ j rfl Qg) ?_
 ·cases h
  exact AK.done (ex_ [_,_] (an_ (an_ rfl (an_ rfl tt_)) (gives tt_)))
 obtain⟨u,p,h⟩:=Qb h
 refine AK.loop (body:=(fun st=>QgP m st.1 st.2)) (fun st σ=>σ=⟨[(4,.map 10),(11,.sl 2 (m.map Ql)),(12,.I (m.length:Int)),(13,.I st.1)],[(10,.map (QP V.I V.I st.2))]⟩) (fun q e σ=>e=.exit 0/\σ=⟨[(4,.map 10)],[(10,.map (QP V.I V.I q))]⟩) p rfl ?_ ?_
 ·rintro ⟨z,w⟩ o σ rfl h
  refine tg_ i [6] ?_
  rcases Qo h with⟨g,h⟩|⟨g,h⟩
  ·obtain⟨a,s,h⟩:=Qb h
   refine Qa i [.T,6,.o (.row (Ql a)),.A (Ql a),2,.O 6 (.var (Ql a)),8,.x (fun σ=>σ.set 10 (.map (QP V.I V.I (Qcv ltI w a.1 a.2)))),7,.K [4,11,12,13] [10]] rfl (a5_ g (QF s) rfl rfl (Stp.mapUpdate (e:=V.I) (f:=V.I) (l:=w) (k:=a.1) (v:=a.2) ltI rfl rfl rfl rfl rfl rfl QhP QlT rfl)) ?_
   cases h
   exact QU rfl rfl
  refine Qa i [.F,2,.K [4] [10]] rfl (a1_ g) ?_
  cases h
  exact QW rfl (an_ rfl rfl)
 replace h:QvT u=some r:=h
 rintro e σ ⟨rfl,rfl⟩
 refine tg_ i [10,.K [2,3] [10],.ren 10 601,.K [2,3] [601]] ?_
 cases h
 exact AK.done (ex_ [_,_] (an_ (an_ rfl (an_ rfl tt_)) (gives r1_)))
def Qtm (a:Unit):Option (Unit⊕(QBg⊕(QBg⊕(QBg×QBg)))):=
 some (.inl ())
def Qtn (a:QBg):Option (Unit⊕(QBg⊕(QBg⊕(QBg×QBg)))):=
 some (.inr (.inl a))
def Qoa (a:QBg)(b:Unit):Option (Unit⊕(QBg⊕(QBg⊕(QBg×QBg)))):=
 (Qnm a).bind (Sum.elim (fun q=>Qtm q) (fun q=>Qtn q))
def Qto (a:QBg)(b:Unit):Option (Unit⊕(QBg⊕(QBg⊕(QBg×QBg)))):=
 some (.inr (.inr (.inl a)))
def Qtp (b:QBg)(a:QBg):Option (Unit⊕(QBg⊕(QBg⊕(QBg×QBg)))):=
 some (.inr (.inr (.inr (b,a))))
def Qob (b:QBg)(a:QBg):Option (Unit⊕(QBg⊕(QBg⊕(QBg×QBg)))):=
 (Qnm b).bind (Sum.elim (fun q=>Qto a q) (fun q=>Qtp a q))
def Qku (b:QBg)(a:QBg):Option (Unit⊕(QBg⊕(QBg⊕(QBg×QBg)))):=
 (Qnm b).bind (Sum.elim (fun q=>Qoa a q) (fun q=>Qob a q))
theorem QbM (s j){r}(h:Qku s j=some r):Qc prog 47 [.sl 2 (s.map Ql),.sl 2 (j.map Ql)] [] ((Sum.elim (fun q=>(Gives (.tup [.lit (.map none),.lit (.map none),.b false]) [])) (Sum.elim (fun q=>(Gives (.tup [.lit (.map none),.map 603,.b false]) [(603,.map (QP V.I V.I q))])) (Sum.elim (fun q=>(Gives (.tup [.map 602,.lit (.map none),.b false]) [(602,.map (QP V.I V.I q))])) (fun q=>(Gives (.tup [.map 602,.map 603,.b true]) [(602,.map (QP V.I V.I q.1)),(603,.map (QP V.I V.I q.2))]))))) r):=by
 refine wk_ 25 func47 fun C e=>?_
 obtain⟨t,f,h⟩:=Qb h
 refine tg_ e [10] ?_
 rcases t with(u | k)
 ·replace h:Qoa j u=some r:=h
  obtain⟨l,a,h⟩:=Qb h
  refine Qa e [.cm (.fn) [] [] [] [.d] [] (.tup [.lit (.map none),.b false]),10] rfl (a1_ (QiB _ f)) ?_
  rcases l with(m | g)
  ·replace h:Qtm m=some r:=h
   refine Qa e [.cm (.fn) [] [] [] [.d] [] (.tup [.lit (.map none),.b false]),21,.K [4,5,6] []] rfl (a1_ (QiB _ a)) ?_
   cases h
   exact AK.done (ex_ [_,_,_] (an_ (an_ rfl (an_ rfl (an_ rfl tt_))) (gives tt_)))
  replace h:Qtn g=some r:=h
  refine Qa e [.cm (.fn) [] [(16,601)] [] [.d] [(601,.map (QP V.I V.I g))] (.tup [.map 601,.b true]),21,.K [4,5,6] [16],.ren 16 603,.K [4,5,6] [603]] rfl (a1_ (QiB _ a)) ?_
  cases h
  exact AK.done (ex_ [_,_,_] (an_ (an_ rfl (an_ rfl (an_ rfl tt_))) (gives r1_)))
 replace h:Qob j k=some r:=h
 obtain⟨o,c,h⟩:=Qb h
 refine Qa e [.cm (.fn) [] [(11,601)] [] [.d] [(601,.map (QP V.I V.I k))] (.tup [.map 601,.b true]),10] rfl (a1_ (QiB _ f)) ?_
 rcases o with(p | i)
 ·replace h:Qto k p=some r:=h
  refine Qa e [.cm (.fn) [] [] [] [.d] [] (.tup [.lit (.map none),.b false]),21,.K [4,5,6] [11],.ren 11 602,.K [4,5,6] [602]] rfl (a1_ (QiB _ c)) ?_
  cases h
  exact AK.done (ex_ [_,_,_] (an_ (an_ rfl (an_ rfl (an_ rfl tt_))) (gives r1_)))
 replace h:Qtp k i=some r:=h
 refine Qa e [.cm (.fn) [] [(16,601)] [] [.d] [(601,.map (QP V.I V.I i))] (.tup [.map 601,.b true]),21,.K [4,5,6] [11,16],.ren 11 602,.K [4,5,6] [16,602],.ren 16 603,.K [4,5,6] [602,603]] rfl (a1_ (QiB _ c)) ?_
 cases h
 exact AK.done (ex_ [_,_,_] (an_ (an_ rfl (an_ rfl (an_ rfl tt_))) (gives r2_)))
def Qum (a:Unit):Option (QBg×Int):=
 some (([]:List (Int×Int)),1)
def Qun (a:QBg):Option (QBg×Int):=
 some (([]:List (Int×Int)),1)
def Quo (a:QBg):Option (QBg×Int):=
 some (([]:List (Int×Int)),1)
def Qho (b:QBg)(a:Int)(c:Int):Option (QBg⊕Unit):=
 bif (decide (1048576<((QV (Qcv ltI b a (w64 (((QV b a).getD 0)+c))) a).getD 0)))then
 some (.inr ())
 else
 some (.inl (Qcv ltI b a (w64 (((QV b a).getD 0)+c))))
def QpE (a:QBg):Option (QBg×Int):=
 (Qex a).bind fun b=>
 some (b,0)
def Qup : Option (QBg×Int):=
 some (([]:List (Int×Int)),2)
def QpF (a:(QBg×QBg)):Option (QBg×Int):=
 (Qk8 (fun st p=>Qho st p.1 p.2) a.1 a.2).bind (Sum.elim (fun q=>QpE q) (fun q=>Qup))
def Qec (a:QBg)(b:QBg):Option (QBg×Int):=
 (Qku a b).bind (Sum.elim (fun q=>Qum q) (Sum.elim (fun q=>Qun q) (Sum.elim (fun q=>Quo q) (fun q=>QpF q))))
theorem Qtq (β:Nat)(P:QBg)(S:QBg){r:(QBg×Int)}(h:Qec P S=some r):Qan β prog 24 [.sl 2 (P.map Ql),.sl 2 (S.map Ql)] [] (Gives (.tup [.sln β 2 (r.1.map Ql),.I r.2]) []):=by
 refine Qan.walk 38 func24 rfl ntmps24 rfl fun C g hβ=>?_
 obtain⟨X,y,h⟩:=Qb h
 refine tg_ g [10] ?_
 rcases X with(Y | (U | (G | A)))
 ·replace h:Qum Y=some r:=h
  refine Qa g [.cm (.fn) [] [] [] [.d,.d] [] (.tup [.lit (.map none),.lit (.map none),.b false]),25] rfl (a1_ (QbM _ _ y)) ?_
  refine AK.denilN (t:=4) 2 β rfl ?_
  refine tg_ g [.K [4,5] []] ?_
  cases h
  exact AK.done (ex_ [_,_] (an_ (an_ rfl (an_ rfl tt_)) (gives tt_)))
 ·replace h:Qun U=some r:=h
  refine Qa g [.cm (.fn) [] [(14,603)] [] [.d,.d] [(603,.map (QP V.I V.I U))] (.tup [.lit (.map none),.map 603,.b false]),25] rfl (a1_ (QbM _ _ y)) ?_
  refine AK.denilN (t:=4) 2 β rfl ?_
  refine tg_ g [.K [4,5] []] ?_
  cases h
  exact AK.done (ex_ [_,_] (an_ (an_ rfl (an_ rfl tt_)) (gives tt_)))
 ·replace h:Quo G=some r:=h
  refine Qa g [.cm (.fn) [] [(14,602)] [] [.d,.d] [(602,.map (QP V.I V.I G))] (.tup [.map 602,.lit (.map none),.b false]),25] rfl (a1_ (QbM _ _ y)) ?_
  refine AK.denilN (t:=4) 2 β rfl ?_
  refine tg_ g [.K [4,5] []] ?_
  cases h
  exact AK.done (ex_ [_,_] (an_ (an_ rfl (an_ rfl tt_)) (gives tt_)))
 replace h:QpF A=some r:=h
 refine Qa g [.cm (.fn) [] [(14,602),(610,603)] [] [.d,.d] [(602,.map (QP V.I V.I A.1)),(603,.map (QP V.I V.I A.2))] (.tup [.map 602,.map 603,.b true]),23] rfl (a1_ (QbM _ _ y)) ?_
 refine AK.openMapK (b:=610) QlT rfl fun s u L12 B M D=>?_
 refine Qa g [.x (fun σ=>(σ.set 21 (.itr s u #[] none)).put 21 (.L 21)),3,.K [6,21] [14,21,610]] rfl (a1_ (Stp.range (b:=610) rfl rfl (QN g.n rfl) rfl rfl QhP rfl)) ?_
 obtain⟨N,H,h⟩:=Qb h
 refine AK.range (body:=(fun st p=>Qho st p.1 p.2)) (fun st seen σ=>∃cur:Option Nat,σ=⟨[(6,.map 14),lk_ 21],[(14,.map (QP V.I V.I st)),(21,.itr s u seen cur),(610,.mapX s u (QjH V.I V.I L12) (QP V.I V.I A.2))]⟩) (fun q e σ=>e=.ret/\σ=⟨[(4,.lit (.slice none 0 0)),(5,.I 2)],[]⟩) (fun st e σ=>e=.exit 0/\σ=⟨[(6,.map 14)],[(14,.map (QP V.I V.I st))]⟩) B D H (ex_ _ rfl) ?_ ?_
 ·rintro a seen σ ⟨cur,rfl⟩ hex
  refine tg_ g [2] ?_
  refine AK.nextT (b:=21) (m:=610) rfl rfl rfl (QN g.n rfl) rfl rfl rfl rfl ?_ ?_
  ·intro hleft
   refine tg_ g [7,.K [6] [14]] ?_
   exact AK.done (Or.inl (an_ hleft (an_ (fun h=>(by cases h)) (an_ rfl rfl))))
  intro W c j i
  obtain⟨o,h⟩:=hex _ i
  have ho:=h
  replace h:Qho a c j=some o:=h
  refine Qa g [10,.x (fun σ=>σ.put 24 (.tup [.I c,.I j])),10,.o (.any (.I ((QV a c).getD 0)) none),2,.x (fun σ=>σ.set 14 (.map (QP V.I V.I (Qcv ltI a c (w64 (((QV a c).getD 0)+j)))))),6,.o (.any (.I ((QV (Qcv ltI a c (w64 (((QV a c).getD 0)+j))) c).getD 0)) none),3] rfl (a4_ (Stp.entryT (b:=21) (m:=610) (e:=V.I) (f:=V.I) rfl rfl (QN g.n rfl) rfl i rfl rfl) (fun σ J O _=>Stp.lookup (e:=V.I) (f:=V.I) (l:=a) (k:=c) (z:=0) rfl rfl (QN g.n rfl) (J _ _ rfl) (O _ _ rfl) (J _ _ rfl) QhP QlT Qv4 rfl) (Stp.mapUpdate (e:=V.I) (f:=V.I) (l:=a) (k:=c) (v:=(w64 (((QV a c).getD 0)+j))) ltI rfl rfl rfl rfl rfl rfl QhP QlT rfl) (fun σ J O _=>Stp.lookup (e:=V.I) (f:=V.I) (l:=(Qcv ltI a c (w64 (((QV a c).getD 0)+j)))) (k:=c) (z:=0) rfl rfl (QN g.n rfl) (J _ _ rfl) (O _ _ rfl) (J _ _ rfl) QhP QlT Qv4 rfl)) ?_
  refine bq_ g h [.T,8,.K [4,5] []] rfl (fun w h=>?_) [.F,2,.K [6,21] [14,21,610]] rfl fun w h=>?_
  ·cases h
   exact AK.done (Or.inr (ex_ _ (an_ i (Or.inr (ex_ _ (an_ ho (an_ (fun h=>(by cases h)) (an_ rfl rfl))))))))
  cases h
  exact AK.done (Or.inr (ex_ _ (an_ i (Or.inl (ex_ _ (an_ ho (an_ rfl (ex_ _ rfl))))))))
 rcases N with(a | _)
 ·replace h:QpE a=some r:=h
  rintro e σ ⟨rfl,rfl⟩
  obtain⟨E,L,h⟩:=Qb h
  refine Qa g [5,.cm (.fn) [(617,14)] [(37,600),(14,617)] [] [.d] [(600,.arr 2 (E.map Ql)),(617,.map (QP V.I V.I a))] (.own 600 E.length),5,.frn β 37 (E.map Ql) [4] [],.K [4,5] []] rfl (a2_ (QiK _ L) (a2_ (QbU Qg) hβ)) ?_
  cases h
  exact AK.done (ex_ [_,_] (an_ (an_ rfl (an_ rfl tt_)) (gives tt_)))
 replace h:Qup=some r:=h
 rintro e σ ⟨rfl,rfl⟩
 refine tg_ g [2] ?_
 refine AK.denilN (t:=4) 2 β rfl ?_
 refine tg_ g [.K [4,5] []] ?_
 cases h
 exact AK.done (ex_ [_,_] (an_ (an_ rfl (an_ rfl tt_)) (gives tt_)))
theorem QzI (a b){r}(h:Qec a b=some r):Qc prog 24 [.sl 2 (a.map Ql),.sl 2 (b.map Ql)] [] (Gives (.tup [.sl 2 (r.1.map Ql),.I r.2]) []):=(Qtq 0 a b h).lo (by show V.tup [V.sl 2 ((r.1.map (Ql)).map (List.map V.lo1)),_]=_;rw [QA9 (g:=Ql) fun _=>rfl];rfl)
def Qb2 (a:(List Int))(j:(List Qap))(h:(List Int))(k:Qq)(e:Int)(c:QMk):Option ((Int×QMk)⊕(Int⊕QMk)):=
 bif (decide (e<(a.length:Int)))then
 (idx a e).bind fun d=>
 bif ((decide (d<0))||(decide ((j.length:Int)<=d)))then
 some (.inr (.inl 11))
 else
 (idx j d).bind fun l=>
 (QgO l.Expr h).bind fun f=>
 bif (f.2 != 0)then
 some (.inr (.inl f.2))
 else
 (idx j d).bind fun b=>
 bif ((decide (b.Place<0))||(decide ((k.Places.length:Int)<=b.Place)))then
 some (.inr (.inl 3))
 else
 (idx k.Places b.Place).bind fun m=>
 (Qc5 k.Colours m.Colour f.1).bind fun i=>
 bif (!i.2)then
 some (.inr (.inl 8))
 else
 (idx c b.Place).bind fun n=>
 (QsZ ([i.1]:List Int)).bind fun o=>
 (Qec n o).bind fun g=>
 (idx c b.Place).bind fun p=>
 bif (g.2 != 0)then
 some (.inr (.inl g.2))
 else
 some (.inl ((w64 (e+1)),(c.set b.Place.toNat g.1)))
 else
 some (.inr (.inr c))
def QpG (a:Int):Option (QMk×Int):=
 some (([]:List QBg),a)
def QpH (a:QMk):Option (QMk×Int):=
 some (a,0)
def Qal (b:Qq)(d:(List Qap))(a:(List Int))(c:(List Int)):Option (QMk×Int):=
 (chk (decide (0<=(b.Places.length:Int))&&decide ((b.Places.length:Int)<=(b.Places.length:Int))&&decide ((b.Places.length:Int)<=4294967296))).bind fun _=>
 (Qy (fun st=>Qb2 a d c b st.1 st.2) (0,(List.replicate (b.Places.length:Int).toNat (([]:QBg):QBg)))).bind (Sum.elim (fun q=>QpG q) (fun q=>QpH q))
theorem QfH (t E g k){r}(h:Qal t E g k=some r):Qc prog 52 [.agg (Qd t),.sl 4 (E.map Q2),.sl 1 (g.map Qe),.sl 1 (k.map Qe)] [] (Gives (.tup [.sl 1 (r.1.map Qf),.I r.2]) []):=by
 refine wk_ 97 func52 fun C i=>?_
 obtain⟨a6,h⟩:=Qaq h
 refine Qa i [11,.o (.ln t.Places.length),.o (.rows (List.replicate (t.Places.length:Int).toNat [.lit (.slice none 0 0)]))] rfl (a2_ Qg ⟨a6,rfl⟩) ?_
 refine AK.denilA (b:=21) [some 2] rfl (QzA (f:=Qf) (x:=([]:QBg)) rfl) ?_
 refine Qa i [.S 21 (.own 21 (List.replicate (t.Places.length:Int).toNat (([]:QBg):QBg)).length),7,.o (.ln g.length),4,.K [1,3,4,10,22,23,24] [4,21]] rfl (a2_ (by simp) Qg) ?_
 obtain⟨a7,O,h⟩:=Qb h
 refine AK.loop (body:=(fun st=>Qb2 g E k t st.1 st.2)) (fun st σ=>σ=⟨[(1,.sl 4 (E.map Q2)),(3,.sl 1 (k.map Qe)),lk_ 4,(10,.own 21 st.2.length),(22,.sl 1 (g.map Qe)),(23,.I (g.length:Int)),(24,.I st.1)],[(4,.var (Qd t)),(21,.arr 1 (st.2.map Qf))]⟩) (Sum.elim (fun q e σ=>e=.ret/\σ=⟨[(8,.lit (.slice none 0 0)),(9,.I q)],[]⟩) (fun q e σ=>e=.exit 0/\σ=⟨[(10,.own 21 q.length)],[(21,.arr 1 (q.map Qf))]⟩)) O rfl ?_ ?_
 ·rintro ⟨P,u⟩ o σ rfl h
  refine tg_ i [6] ?_
  rcases Qo h with⟨w,h⟩|⟨w,h⟩
  ·obtain⟨l,U,h⟩:=Qb h
   refine Qa i [.T,6,.o (.row (Qe l)),6] rfl (a2_ w (QF U)) ?_
   refine AK.meetX (fun σ=>σ=⟨[(1,.sl 4 (E.map Q2)),(3,.sl 1 (k.map Qe)),lk_ 4,(10,.own 21 u.length),(12,.I l),(22,.sl 1 (g.map Qe)),(23,.I (g.length:Int)),(24,.I P),(35,.b ((decide (l<0))||(decide ((E.length:Int)<=l))))],[(4,.var (Qd t)),(21,.arr 1 (u.map Qf))]⟩) ?_ ?_
   ·refine tg_ i [4] ?_
    rcases QD (decide (l<0))with p | p
    ·refine Qa i [.S 30 (.b true),6,.S 35 (.b ((decide (l<0))||(decide ((E.length:Int)<=l)))),.K [1,3,4,10,12,22,23,24,35] [4,21]] rfl ⟨(tc_ p),(congrArg V.b (orT p rfl))⟩ ?_
     exact mt_
    refine Qa i [.S 30 (.b false),2,.o (.ln E.length),3,.S 35 (.b ((decide (l<0))||(decide ((E.length:Int)<=l)))),.K [1,3,4,10,12,22,23,24,35] [4,21]] rfl ⟨⟨(tc_ p),Qg⟩,(congrArg V.b (orF p rfl))⟩ ?_
    exact mt_
   rintro σ rfl
   refine tg_ i [1] ?_
   rcases Qo h with⟨y,h⟩|⟨y,h⟩
   ·refine Qa i [.T,10,.K [8,9] []] rfl (a1_ y) ?_
    cases h
    exact Qab rfl (an_ rfl rfl)
   obtain⟨W,X,h⟩:=Qb h
   obtain⟨L,Y,h⟩:=Qb h
   refine Qa i [.F,6,.o (.row (Q2 W)),1,.A (Qj W.Expr),1,.o (.C2 (.tup [.I L.1,.I L.2])),14] rfl (a4_ y (QF X) rfl (QrT _ _ Y)) ?_
   rcases Qo h with⟨z,h⟩|⟨z,h⟩
   ·refine Qa i [.T,11,.K [8,9] []] rfl (a1_ z) ?_
    cases h
    exact Qab rfl (an_ rfl rfl)
   obtain⟨j,Z,h⟩:=Qb h
   refine Qa i [.F,6,.o (.row (Q2 j)),7] rfl (a2_ z (QF Z)) ?_
   refine AK.meetX (fun σ=>σ=⟨[(1,.sl 4 (E.map Q2)),(3,.sl 1 (k.map Qe)),lk_ 4,(10,.own 21 u.length),(13,.I L.1),(15,.I j.Place),(22,.sl 1 (g.map Qe)),(23,.I (g.length:Int)),(24,.I P),(62,.b ((decide (j.Place<0))||(decide ((t.Places.length:Int)<=j.Place))))],[(4,.var (Qd t)),(21,.arr 1 (u.map Qf))]⟩) ?_ ?_
   ·refine tg_ i [4] ?_
    rcases QD (decide (j.Place<0))with s | s
    ·refine Qa i [.S 56 (.b true),7,.S 62 (.b ((decide (j.Place<0))||(decide ((t.Places.length:Int)<=j.Place)))),.K [1,3,4,10,13,15,22,23,24,62] [4,21]] rfl ⟨(tc_ s),(congrArg V.b (orT s rfl))⟩ ?_
     exact mt_
    refine Qa i [.S 56 (.b false),3,.o (.ln t.Places.length),3,.S 62 (.b ((decide (j.Place<0))||(decide ((t.Places.length:Int)<=j.Place)))),.K [1,3,4,10,13,15,22,23,24,62] [4,21]] rfl ⟨⟨(tc_ s),Qg⟩,(congrArg V.b (orF s rfl))⟩ ?_
    exact mt_
   rintro σ rfl
   refine tg_ i [1] ?_
   rcases Qo h with⟨A,h⟩|⟨A,h⟩
   ·refine Qa i [.T,10,.K [8,9] []] rfl (a1_ A) ?_
    cases h
    exact Qab rfl (an_ rfl rfl)
   obtain⟨a8,a0,h⟩:=Qb h
   obtain⟨M,a1,h⟩:=Qb h
   refine Qa i [.F,3,.K [1,3,4,10,13,15,22,23,24] [4,21]] rfl (a1_ A) ?_
   refine AK.draw2 Qr i mixed [.N,.N,.N,.N,.N,.a (.row (QC a8)) none false,.N,.N,.N,.a (.C3 (.tup [.I M.1,.b M.2])) none false,.N,.N,.N,.N,.N] [] [] [1,3,4,10,15,16,17,22,23,24] [4,21] rfl rfl rfl ⟨⟨tt_,(QF a0)⟩,(Qul _ _ _ a1)⟩ rfl (by kernel_rfl) rfl rfl rfl ?_
   refine tg_ i [8] ?_
   rcases Qo h with⟨B,h⟩|⟨B,h⟩
   ·refine Qa i [.T,10,.K [8,9] []] rfl (a1_ B) ?_
    cases h
    exact Qab rfl (an_ rfl rfl)
   obtain⟨a9,H,h⟩:=Qb h
   obtain⟨a2,a3,h⟩:=Qb h
   obtain⟨G,a4,h⟩:=Qb h
   obtain⟨b0,J,h⟩:=Qb h
   refine Qa i [.F,3,.K [1,3,4,10,15,16,22,23,24] [4,21]] rfl (a1_ B) ?_
   refine AK.draw2 Qr i mixed [.N,.N,.N,.N,.N,.a (.row (Qf a9)) none false,.N,.a (.bd []) (some ([],.sl 1 (([M.1]:List Int).map Qe))) false,.a (.cd false [.d] 2 (a2.map Ql) a2.length) none false,.a (.C2 (.tup [.sl 2 (G.1.map Ql),.I G.2])) none false,.a .no none true true,.N,.a .no none true,.N,.m (.st (Qf b0) ((u.set j.Place.toNat G.1).map Qf)),.N] [1,3,4,10,15,16,22,23,24] [4] [1,3,4,10,14,22,23,24] [4,21] rfl rfl rfl ⟨⟨⟨⟨⟨⟨⟨tt_,(Qc3 H rfl)⟩,(QbO (Qck H).2)⟩,rfl⟩,⟨(QAn _ a3),Qg⟩⟩,(QzI _ _ a4)⟩,(Qc3 J rfl)⟩,⟨(QbO (Qck J).2),Qin rfl⟩⟩ rfl (by kernel_rfl) rfl rfl rfl ?_
   refine tg_ i [7] ?_
   refine bg_ h (fun D h=>Qa i [.T,10,.K [8,9] []] rfl (a1_ D) ?_) fun D h=>Qa i [.F,7,.S 10 (.own 21 (u.set j.Place.toNat G.1).length),.K [1,3,4,10,22,23,24] [4,21]] rfl (a2_ D (congrArg (fun n=>V.own 21 n) (by simp))) ?_
   ·cases h
    exact Qab rfl (an_ rfl rfl)
   cases h
   exact QU rfl rfl
  refine Qa i [.F,2,.K [10] [21]] rfl (a1_ w) ?_
  cases h
  exact QW rfl (an_ rfl rfl)
 rcases a7 with(b1 | a5)
 ·replace h:QpG b1=some r:=h
  rintro e σ ⟨rfl,rfl⟩
  refine tg_ i [2,.denil 8 [some 1]] ?_
  cases h
  exact d2_ tt_
 replace h:QpH a5=some r:=h
 rintro e σ ⟨rfl,rfl⟩
 refine Qa i [10,.frz 21 (a5.map Qf) [8] []] rfl (a1_ (a1_ (QbU Qg))) ?_
 cases h
 exact d2_ tt_
def Qc8 (a:QBg)(b:Int)(c:Int):Option (Unit⊕Unit):=
 bif (decide (((QV a b).getD 0)<c))then
 some (.inr ())
 else
 some (.inl ())
def Qld : Option Bool:=
 some true
def Qle : Option Bool:=
 some false
def Qet (a:QBg)(b:QBg):Option Bool:=
 (Qk8 (fun st p=>Qc8 b p.1 p.2) () a).bind (Sum.elim (fun q=>Qld) (fun q=>Qle))
theorem Qlf (s g){r}(h:Qet s g=some r):Qc prog 75 [.map 617,.map 618] [(617,.map (QP V.I V.I s)),(618,.map (QP V.I V.I g))] (Gives (.b r) [(617,.map (QP V.I V.I s)),(618,.map (QP V.I V.I g))]):=by
 refine wk_ 19 func75 fun C a=>?_
 refine tg_ a [9] ?_
 refine AK.openMap (b:=617) QlT rfl fun c d L5 t u=>?_
 refine Qa a [.x (fun σ=>(σ.set 8 (.itr c d #[] none)).put 8 (.L 8)),3,.K [1,8] [8,617,618]] rfl (a1_ (Stp.range (b:=617) rfl rfl (QN a.n rfl) rfl rfl QhP rfl)) ?_
 obtain⟨y,v,h⟩:=Qb h
 refine AK.range (body:=(fun st p=>Qc8 g p.1 p.2)) (fun st seen σ=>∃cur:Option Nat,σ=⟨[(1,.map 618),lk_ 8],[(8,.itr c d seen cur),(617,.mapX c d (QjH V.I V.I L5) (QP V.I V.I s)),(618,.map (QP V.I V.I g))]⟩) (fun q e σ=>e=.ret/\σ=⟨[(4,.b false)],[(617,.mapX c d (QjH V.I V.I L5) (QP V.I V.I s)),(618,.map (QP V.I V.I g))]⟩) (fun st e σ=>e=.exit 0/\σ=⟨[],[(617,.mapX c d (QjH V.I V.I L5) (QP V.I V.I s)),(618,.map (QP V.I V.I g))]⟩) t u v (ex_ _ rfl) ?_ ?_
 ·rintro _ seen σ ⟨cur,rfl⟩ hex
  refine tg_ a [2] ?_
  refine AK.nextT (b:=8) (m:=617) rfl rfl rfl (QN a.n rfl) rfl rfl rfl rfl ?_ ?_
  ·intro hleft
   refine tg_ a [7,.K [] [617,618]] ?_
   exact AK.done (Or.inl (an_ hleft (an_ (fun h=>(by cases h)) (an_ rfl rfl))))
  intro D w A i
  obtain⟨o,h⟩:=hex _ i
  have ho:=h
  replace h:Qc8 g w A=some o:=h
  refine Qa a [10,.x (fun σ=>σ.put 11 (.tup [.I w,.I A])),11,.o (.any (.I ((QV g w).getD 0)) none),3] rfl (a2_ (Stp.entryT (b:=8) (m:=617) (e:=V.I) (f:=V.I) rfl rfl (QN a.n rfl) rfl i rfl rfl) (fun σ B E _=>Stp.lookup (e:=V.I) (f:=V.I) (l:=g) (k:=w) (z:=0) rfl rfl (QN a.n rfl) (B _ _ rfl) (E _ _ rfl) (B _ _ rfl) QhP QlT Qv4 rfl)) ?_
  refine bq_ a h [.T,7,.K [4] [617,618]] rfl (fun j h=>?_) [.F,2,.K [1,8] [8,617,618]] rfl fun j h=>?_
  ·cases h
   exact AK.done (Or.inr (ex_ _ (an_ i (Or.inr (ex_ _ (an_ ho (an_ (fun h=>(by cases h)) (an_ rfl rfl))))))))
  cases h
  exact AK.done (Or.inr (ex_ _ (an_ i (Or.inl (ex_ _ (an_ ho (an_ rfl (ex_ _ rfl))))))))
 rcases y with(_ | _)
 ·replace h:Qld=some r:=h
  rintro e σ ⟨rfl,rfl⟩
  refine tg_ a [8] ?_
  refine AK.closeMap (b:=617) rfl ?_
  cases h
  exact d1_ r2_
 replace h:Qle=some r:=h
 rintro e σ ⟨rfl,rfl⟩
 refine tg_ a [2] ?_
 refine AK.closeMap (b:=617) rfl ?_
 cases h
 exact d1_ r2_
def QqK (a:Unit):Option Bool:=
 some false
def QqL (a:QBg):Option Bool:=
 some false
def QqM (a:QBg):Option Bool:=
 some false
def QmH (b:(QBg×QBg)):Option Bool:=
 (Qet b.1 b.2).bind fun a=>
 some a
def QjR (a:QBg)(b:QBg):Option Bool:=
 (Qku a b).bind (Sum.elim (fun q=>QqK q) (Sum.elim (fun q=>QqL q) (Sum.elim (fun q=>QqM q) (fun q=>QmH q))))
theorem Qw8 (i j){r}(h:QjR i j=some r):Qc prog 191 [.sl 2 (i.map Ql),.sl 2 (j.map Ql)] [] (Gives (.b r) []):=by
 refine wk_ 21 func191 fun C c=>?_
 obtain⟨m,a,h⟩:=Qb h
 refine tg_ c [9] ?_
 rcases m with(o | (k | (l | e)))
 ·replace h:QqK o=some r:=h
  refine Qa c [.cm (.fn) [] [] [] [.d,.d] [] (.tup [.lit (.map none),.lit (.map none),.b false]),21] rfl (a1_ (QbM _ _ a)) ?_
  cases h
  exact d1_ tt_
 ·replace h:QqL k=some r:=h
  refine Qa c [.cm (.fn) [] [(11,603)] [] [.d,.d] [(603,.map (QP V.I V.I k))] (.tup [.lit (.map none),.map 603,.b false]),21] rfl (a1_ (QbM _ _ a)) ?_
  cases h
  exact d1_ tt_
 ·replace h:QqM l=some r:=h
  refine Qa c [.cm (.fn) [] [(11,602)] [] [.d,.d] [(602,.map (QP V.I V.I l))] (.tup [.map 602,.lit (.map none),.b false]),21] rfl (a1_ (QbM _ _ a)) ?_
  cases h
  exact d1_ tt_
 replace h:QmH e=some r:=h
 obtain⟨g,f,h⟩:=Qb h
 refine Qa c [.cm (.fn) [] [(11,602),(610,603)] [] [.d,.d] [(602,.map (QP V.I V.I e.1)),(603,.map (QP V.I V.I e.2))] (.tup [.map 602,.map 603,.b true]),15,.cm (.fn) [(617,11),(618,610)] [(11,617),(610,618)] [] [.d,.d] [(617,.map (QP V.I V.I e.1)),(618,.map (QP V.I V.I e.2))] (.b g),5] rfl (a2_ (QbM _ _ a) (Qlf _ _ f)) ?_
 cases h
 exact d1_ tt_
def QK (d:QMk)(e:QMk)(a:Int):Option (Int⊕(Unit⊕Unit)):=
 bif (decide (a<(d.length:Int)))then
 (idx d a).bind fun f=>
 (idx e a).bind fun b=>
 (QjR f b).bind fun c=>
 bif (!c)then
 some (.inr (.inl ()))
 else
 some (.inl (w64 (a+1)))
 else
 some (.inr (.inr ()))
def Qbg : Option Bool:=
 some false
def Qbh : Option Bool:=
 some true
def Qac (a:QMk)(b:QMk):Option Bool:=
 bif ((a.length:Int) != (b.length:Int))then
 some false
 else
 (Qy (fun st=>QK a b st) 0).bind (Sum.elim (fun q=>Qbg) (fun q=>Qbh))
theorem QdL (g k){r}(h:Qac g k=some r):Qc prog 49 [.sl 1 (g.map Qf),.sl 1 (k.map Qf),.clo (.func 191) [] []] [] (Gives (.b r) []):=by
 refine wk_ 32 func49 fun C f=>?_
 refine Qa f [9,.o (.ln g.length),1,.o (.ln k.length),3] rfl (a2_ Qg Qg) ?_
 refine bg_ h (fun i h=>Qa f [.T,7,.K [6] []] rfl (a1_ i) ?_) fun i h=>Qa f [.F,6,.o (.ln g.length),4,.K [1,2,15,16,17] []] rfl (a2_ i Qg) ?_
 ·cases h
  exact d1_ tt_
 obtain⟨s,l,h⟩:=Qb h
 refine AK.loop (body:=(fun st=>QK g k st)) (fun st σ=>σ=⟨[(1,.sl 1 (k.map Qf)),(2,.clo (.func 191) [] []),(15,.sl 1 (g.map Qf)),(16,.I (g.length:Int)),(17,.I st)],[]⟩) (Sum.elim (fun q e σ=>e=.ret/\σ=⟨[(6,.b false)],[]⟩) (fun q e σ=>e=.exit 0/\σ=⟨[],[]⟩)) l rfl ?_ ?_
 ·rintro x o σ rfl h
  refine tg_ f [6] ?_
  rcases Qo h with⟨j,h⟩|⟨j,h⟩
  ·obtain⟨w,t,h⟩:=Qb h
   obtain⟨u,m,h⟩:=Qb h
   obtain⟨v,p,h⟩:=Qb h
   refine Qa f [.T,7,.o (.row (Qf w)),9,.o (.row (Qf u)),9,.o (.C2 (.b v)),3] rfl (a4_ j (QF t) (QF m) (Qw8 _ _ p)) ?_
   refine bq_ f h [.T,8,.K [6] []] rfl (fun a h=>?_) [.F,7,.K [1,2,15,16,17] []] rfl fun a h=>?_
   ·cases h
    exact Qab rfl (an_ rfl rfl)
   cases h
   exact QU rfl rfl
  refine Qa f [.F,2,.K [] []] rfl (a1_ j) ?_
  cases h
  exact QW rfl (an_ rfl rfl)
 rcases s with(_ | _)
 ·replace h:Qbg=some r:=h
  rintro e σ ⟨rfl,rfl⟩
  refine tg_ f [2] ?_
  cases h
  exact d1_ tt_
 replace h:Qbh=some r:=h
 rintro e σ ⟨rfl,rfl⟩
 refine tg_ f [8] ?_
 cases h
 exact d1_ tt_
def Qe4 (a:QMk)(b:QMk):Option Bool:=
 (Qac a b).bind fun c=>
 some c
theorem QpI (a e){r}(h:Qe4 a e=some r):Qc prog 140 [.sl 1 (a.map Qf),.sl 1 (e.map Qf)] [] (Gives (.b r) []):=by
 refine wk_ 8 func140 fun C f=>?_
 obtain⟨g,c,h⟩:=Qb h
 refine Qa f [9,.cm (.fn) [] [] [] [.d,.d,.d] [] (.b g),4] rfl (a1_ (QdL _ _ c)) ?_
 cases h
 exact d1_ tt_
def QaA (b:(List Int))(c:Int)(a:Int):Option (Int⊕(Int⊕Unit)):=
 bif (decide (a<(b.length:Int)))then
 (idx b a).bind fun d=>
 bif (c==d)then
 some (.inr (.inl a))
 else
 some (.inl (w64 (a+1)))
 else
 some (.inr (.inr ()))
def QdF (a:Int):Option Int:=
 some a
def QdG : Option Int:=
 some (-1)
def Qc9 (a:(List Int))(b:Int):Option Int:=
 (Qy (fun st=>QaA a b st) 0).bind (Sum.elim (fun q=>QdF q) (fun q=>QdG))
theorem Qpd (d g){r}(h:Qc9 d g=some r):Qc prog 192 [.sl 1 (d.map Qe),.I g] [] (Gives (.I r) []):=by
 refine wk_ 19 func192 fun C b=>?_
 refine Qa b [9,.o (.ln d.length),4,.K [0,1,7,8] []] rfl (a1_ Qg) ?_
 obtain⟨i,f,h⟩:=Qb h
 refine AK.loop (body:=(fun st=>QaA d g st)) (fun st σ=>σ=⟨[(0,.sl 1 (d.map Qe)),(1,.I g),(7,.I (d.length:Int)),(8,.I st)],[]⟩) (Sum.elim (fun q e σ=>e=.ret/\σ=⟨[(4,.I q)],[]⟩) (fun q e σ=>e=.exit 0/\σ=⟨[],[]⟩)) f rfl ?_ ?_
 ·rintro m o σ rfl h
  refine tg_ b [6] ?_
  rcases Qo h with⟨c,h⟩|⟨c,h⟩
  ·obtain⟨k,j,h⟩:=Qb h
   refine Qa b [.T,15,.o (.row (Qe k)),4] rfl (a2_ c (QF j)) ?_
   refine bq_ b h [.T,9,.K [4] []] rfl (fun a h=>?_) [.F,7,.K [0,1,7,8] []] rfl fun a h=>?_
   ·cases h
    exact Qab rfl (an_ rfl rfl)
   cases h
   exact QU rfl rfl
  refine Qa b [.F,2,.K [] []] rfl (a1_ c) ?_
  cases h
  exact QW rfl (an_ rfl rfl)
 rcases i with(l | _)
 ·replace h:QdF l=some r:=h
  rintro e σ ⟨rfl,rfl⟩
  refine tg_ b [2] ?_
  cases h
  exact d1_ tt_
 replace h:QdG=some r:=h
 rintro e σ ⟨rfl,rfl⟩
 refine tg_ b [8] ?_
 cases h
 exact d1_ tt_
def QaB (a:(List Int))(b:Int):Option Bool:=
 (Qc9 a b).bind fun c=>
 some (decide (0<=c))
theorem Qhp (e f){r}(h:QaB e f=some r):Qc prog 141 [.sl 1 (e.map Qe),.I f] [] (Gives (.b r) []):=by
 refine wk_ 9 func141 fun C g=>?_
 obtain⟨i,a,h⟩:=Qb h
 refine Qa g [9,.o (.C2 (.I i)),5] rfl (a1_ (Qpd _ _ a)) ?_
 cases h
 exact d1_ tt_
def QaF (a:(List Int)):Option (List Int):=
 (chk (decide ((([]:List Int).length+a.length)*8<=140737488355328))).bind fun _=>
 some (([]:List Int)++a)
theorem Qct (b){r}(h:QaF b=some r):Qc prog 142 [.sl 1 (b.map Qe)] [] (Gives (.own 600 r.length) [(600,.arr 1 (r.map Qe))]):=by
 refine wk_ 8 func142 fun C a=>?_
 unfold QaF at h
 refine tg_ a [9] ?_
 refine AK.eqNil rfl rfl rfl (QN a.n rfl) rfl rfl QEh ?_ ?_
 ·intro c
  replace h:some ([]:List Int)=some r:=by simpa [chk,List.map_eq_nil_iff.1 c] using h
  refine Qa a [10,.adopt 2 600 1,.O 600 (.arr 1 (([]:List Int).map Qe)),.S 2 (.own 600 ([]:List Int).length)] rfl (a2_ rfl rfl) ?_
  cases h
  exact d1_ r1_
 obtain⟨d,h⟩:=Qaq h
 refine Qa a [8,.O 5 (.arr 1 (([]:List Int).map Qe)),.S 5 (.own 5 ([]:List Int).length),1,.x (fun σ=>σ.app 5 1 7 (([]:List Int)++b).length ((([]:List Int)++b).map Qe)),4,.K [2] [5],.ren 5 600] rfl (a3_ rfl rfl (Stp.appSB (by_:=8) (zs:=[.I 0]) (e:=3) (e':=3) (z':=1) (by':=8) rfl rfl (QN a.n rfl) rfl rfl rfl Qg (by kernel_rfl) (by kernel_rfl) (by kernel_rfl) rfl (by decide) (by decide) (Qvd d Qg) rfl Qao (Qbq Qg))) ?_
 cases h
 exact d1_ r1_
def Qcf (a:Int):Option (Int⊕(Unit⊕Unit)):=
 some (.inl (w64 (a+1)))
def QgQ (a:(QMk×Int))(c:QO):Option Bool:=
 bif (a.2==0)then
 (Qe4 a.1 c.m).bind fun b=>
 some b
 else
 some false
def Qda (a:Int)(b:Bool):Option (Int⊕(Unit⊕Unit)):=
 bif b then
 some (.inr (.inl ()))
 else
 Qcf a
def Qaj (d:QO)(b:(List Int))(a:Int):Option (Int⊕(Unit⊕Unit)):=
 bif (decide (a<(d.task.Ins.length:Int)))then
 (QaB b a).bind fun f=>
 bif f then
 Qcf a
 else
 (QaF b).bind fun c=>
 (chk (decide (c.length+([a]:List Int).length<=4294967296))).bind fun _=>
 (Qcx (c++([a]:List Int))).bind fun e=>
 (chk (decide (e.length=(c++([a]:List Int)).length))).bind fun _=>
 (Qal d.net d.task.Ins e d.env).bind fun g=>
 (QgQ g d).bind (fun h=>Qda a h)
 else
 some (.inr (.inr ()))
def Qlg : Option Int:=
 some 11
def Qlh : Option Int:=
 some 0
def Qae (b:QO)(a:(List Int)):Option Int:=
 (Qal b.net b.task.Ins a b.env).bind fun c=>
 bif (c.2 != 0)then
 some c.2
 else
 (Qe4 c.1 b.m).bind fun d=>
 bif (!d)then
 some 10
 else
 bif (b.task.Join != 3)then
 some 0
 else
 (Qy (fun st=>Qaj b a st) 0).bind (Sum.elim (fun q=>Qlg) (fun q=>Qlh))
theorem Qli (i f){r}(h:Qae i f=some r):Qc prog 73 [.agg (Qu i),.sl 1 (f.map Qe)] [] (Gives (.I r) []):=by
 refine wk_ 76 func73 fun C a=>?_
 obtain⟨W,M,h⟩:=Qb h
 refine Qa a [9,.A (Qd i.net),6,.o (.C4 (.tup [.sl 1 (W.1.map Qf),.I W.2])),16] rfl (a2_ rfl (QfH _ _ _ _ M)) ?_
 rcases Qo h with⟨u,h⟩|⟨u,h⟩
 ·refine Qa a [.T,9] rfl (a1_ u) ?_
  cases h
  exact d1_ tt_
 obtain⟨X,N,h⟩:=Qb h
 refine Qa a [.F,5,.o (.C2 (.b X)),4] rfl (a2_ u (QpI _ _ N)) ?_
 refine bq_ a h [.T,8,.K [4] []] rfl (fun w h=>?_) [.F,9] rfl fun w h=>?_
 ·cases h
  exact d1_ tt_
 refine bg_ h (fun x h=>Qa a [.T,8,.K [4] []] rfl (a1_ x) ?_) fun x h=>Qa a [.F,9,.o (.ln i.task.Ins.length),4,.K [1,2,41,42] [2]] rfl (a2_ x Qg) ?_
 ·cases h
  exact d1_ tt_
 obtain⟨O,z,h⟩:=Qb h
 refine AK.loop (body:=(fun st=>Qaj i f st)) (fun st σ=>σ=⟨[(1,.sl 1 (f.map Qe)),lk_ 2,(41,.I (i.task.Ins.length:Int)),(42,.I st)],[(2,.var (Qu i))]⟩) (Sum.elim (fun q e σ=>e=.ret/\σ=⟨[(4,.I 11)],[]⟩) (fun q e σ=>e=.exit 1/\σ=⟨[],[]⟩)) z rfl ?_ ?_
 ·rintro g o σ rfl h
  refine tg_ a [6] ?_
  refine bq_ a h [.T,2] rfl (fun j h=>?_) [.F,2,.K [] []] rfl fun j h=>?_
  ·refine AK.meet (fun σ=>σ=⟨[(1,.sl 1 (f.map Qe)),lk_ 2,(41,.I (i.task.Ins.length:Int)),(42,.I g)],[(2,.var (Qu i))]⟩/\Qcf g=some o) ?_ ?_
   ·obtain⟨P,A,h⟩:=Qb h
    refine Qa a [12,.o (.C2 (.b P)),2] rfl (a1_ (Qhp _ _ A)) ?_
    rcases Qo h with⟨k,h⟩|⟨k,h⟩
    ·refine Qa a [.T,3,.K [1,2,41,42] [2]] rfl (a1_ k) ?_
     exact AK.met (an_ rfl h)
    obtain⟨t,B,h⟩:=Qb h
    obtain⟨D,h⟩:=Qaq h
    obtain⟨l,E,h⟩:=Qb h
    obtain⟨m,h⟩:=Qaq h
    obtain⟨G,H,h⟩:=Qb h
    refine Qa a [.F,5,.o (.co false [.d] 1 (t.map Qe) t.length),1,.v (.bd []) [] (.sl 1 (([g]:List Int).map Qe)),.app ((t++([g]:List Int)).map Qe) (t++([g]:List Int)).length,6,.cm (.fn) [(617,49)] [(49,617)] [] [.d] [(617,.arr 1 (l.map Qe))] (.tup []),.S 8 (.own 49 l.length),.S 52 (.own 49 l.length),.S 53 (.own 49 l.length),5,.A (Qd i.net),6,.frz 49 (l.map Qe) [8,52,53,61] [],.o (.C4 (.tup [.sl 1 (G.1.map Qf),.I G.2])),8] rfl (aB_ k ⟨(Qct _ B),Qg,.inl rfl⟩ rfl ⟨Qg,Qba D Qg,Qao,Qbq Qg⟩ (QjQ _ E) (by simp [Qai m]) (by simp [Qai m]) (by simp [Qai m]) rfl (a4_ (QbU Qg) (QbU Qg) (QbU Qg) (QbU Qg)) (QfH _ _ _ _ H)) ?_
    obtain⟨y,J,h⟩:=Qb h
    replace h:Qda g y=some o:=h
    refine AK.meetX (fun σ=>σ=⟨[(1,.sl 1 (f.map Qe)),lk_ 2,(41,.I (i.task.Ins.length:Int)),(42,.I g),(74,.b y)],[(2,.var (Qu i))]⟩) ?_ ?_
    ·replace h:=J
     refine tg_ a [4] ?_
     rcases Qo h with⟨p,h⟩|⟨p,h⟩
     ·obtain⟨U,L,h⟩:=Qb h
      refine Qa a [.S 69 (.b true),3,.o (.C2 (.b U)),2,.K [1,2,41,42,74] [2]] rfl ⟨(tc_ p),(QpI _ _ L)⟩ ?_
      cases h
      exact mt_
     refine Qa a [.S 69 (.b false),6,.K [1,2,41,42,74] [2]] rfl (tc_ p) ?_
     cases h
     exact mt_
    rintro σ rfl
    replace h:Qda g y=some o:=h
    refine tg_ a [1] ?_
    refine bq_ a h [.T,8,.K [4] []] rfl (fun s h=>?_) [.F,2,.K [1,2,41,42] [2]] rfl fun s h=>?_
    ·cases h
     exact Qab rfl (an_ rfl rfl)
    exact AK.met (an_ rfl h)
   rintro σ ⟨rfl,h⟩
   refine tg_ a [4,.K [1,2,41,42] [2]] ?_
   cases h
   exact QU rfl rfl
  cases h
  exact QW rfl (an_ rfl rfl)
 rcases O with(_ | _)
 ·replace h:Qlg=some r:=h
  rintro e σ ⟨rfl,rfl⟩
  refine tg_ a [2] ?_
  cases h
  exact d1_ tt_
 replace h:Qlh=some r:=h
 rintro e σ ⟨rfl,rfl⟩
 refine tg_ a [8] ?_
 cases h
 exact d1_ tt_
def Qam (b:QO)(a:(List Int)):Option Int:=
 (Qal b.net b.task.Outs a b.env).bind fun c=>
 some c.2
theorem Qlj (b a){r}(h:Qam b a=some r):Qc prog 74 [.agg (Qu b),.sl 1 (a.map Qe)] [] (Gives (.I r) []):=by
 refine wk_ 20 func74 fun C g=>?_
 obtain⟨f,e,h⟩:=Qb h
 refine Qa g [9,.A (Qd b.net),6,.o (.C4 (.tup [.sl 1 (f.1.map Qf),.I f.2])),14] rfl (a2_ rfl (QfH _ _ _ _ e)) ?_
 cases h
 exact d1_ tt_
def Qgv (a:(Int×QO))(d:Qp):Option Bool:=
 (Qeb a.2.task.Join (a.2.task.Ins.length:Int) d.Ins).bind fun b=>
 bif (!b)then
 some true
 else
 (Qeb a.2.task.Split (a.2.task.Outs.length:Int) d.Outs).bind fun c=>
 some (!c)
def QdV (c:(Int×QO))(d:Qp)(e:Bool):Option Int:=
 bif e then
 some 11
 else
 (Qae c.2 d.Ins).bind fun a=>
 bif (a != 0)then
 some a
 else
 (Qam c.2 d.Outs).bind fun b=>
 some b
def Qbn (b:(Int×QO))(c:Qp)(a:Int):Option Int:=
 bif (a != 0)then
 some a
 else
 (Qgv b c).bind (fun d=>QdV b c d)
def Qdb (d:Qq)(e:QMk)(b:Qp):Option Int:=
 (QbQ d e b.Task b.Vars).bind fun a=>
 bif (a.1==0)then
 (Qaf a.2).bind fun c=>
 Qbn a b c
 else
 Qbn a b a.1
theorem Qw9 (x H l){r}(h:Qdb x H l=some r):Qc prog 34 [.agg (Qd x),.sl 1 (H.map Qf),.agg (Qk l)] [] (Gives (.I r) []):=by
 refine wk_ 62 func34 fun C a=>?_
 obtain⟨e,y,h⟩:=Qb h
 refine Qa a [9,.A (Qd x),5,.o (.C4 (.tup [.agg (Qu e.2),.I e.1])),5,.O 7 (.var (Qu e.2)),3] rfl (a3_ rfl (QqJ _ _ _ _ y) rfl) ?_
 refine AK.meet (fun σ=>∃f:Int,σ=⟨[lk_ 5,lk_ 7,(8,.I f)],[(5,.var (Qk l)),(7,.var (Qu e.2))]⟩/\Qbn e l f=some r) ?_ ?_
 ·refine tg_ a [6] ?_
  rcases Qo h with⟨g,h⟩|⟨g,h⟩
  ·obtain⟨z,p,h⟩:=Qb h
   refine Qa a [.T,1,.A (Qu e.2),.o (.C1 (.I z)),2,.K [5,7,8] [5,7]] rfl (a3_ g rfl (QjO _ p)) ?_
   exact AK.met (ex_ _ (an_ rfl h))
  refine Qa a [.F,1,.K [5,7,8] [5,7]] rfl (a1_ g) ?_
  exact AK.met (ex_ _ (an_ rfl h))
 rintro σ ⟨f,rfl,h⟩
 refine tg_ a [7] ?_
 refine bq_ a h [.T,8,.K [6] []] rfl (fun m h=>?_) [.F,4] rfl fun m h=>?_
 ·cases h
  exact d1_ tt_
 obtain⟨A,q,h⟩:=Qb h
 replace h:QdV e l A=some r:=h
 refine AK.meetX (fun σ=>σ=⟨[lk_ 5,lk_ 7,(50,.b A)],[(5,.var (Qk l)),(7,.var (Qu e.2))]⟩) ?_ ?_
 ·replace h:=q
  obtain⟨B,s,h⟩:=Qb h
  refine Qa a [7,.o (.ln e.2.task.Ins.length),2,.o (.C3 (.b B)),2] rfl (a2_ Qg (QpD _ _ _ s)) ?_
  rcases Qo h with⟨i,h⟩|⟨i,h⟩
  ·refine Qa a [.S 38 (.b true),13,.K [5,7,50] [5,7]] rfl (tc_ i) ?_
   cases h
   exact mt_
  obtain⟨D,t,h⟩:=Qb h
  refine Qa a [.S 38 (.b false),6,.o (.ln e.2.task.Outs.length),2,.o (.C3 (.b D)),3,.K [5,7,50] [5,7]] rfl ⟨⟨(tc_ i),Qg⟩,(QpD _ _ _ t)⟩ ?_
  cases h
  exact mt_
 rintro σ rfl
 replace h:QdV e l A=some r:=h
 refine tg_ a [1] ?_
 rcases Qo h with⟨j,h⟩|⟨j,h⟩
 ·refine Qa a [.T,7] rfl (a1_ j) ?_
  cases h
  exact d1_ tt_
 obtain⟨E,u,h⟩:=Qb h
 refine Qa a [.F,5,.A (Qu e.2),2,.o (.C2 (.I E)),9] rfl (a3_ j rfl (Qli _ _ u)) ?_
 rcases Qo h with⟨k,h⟩|⟨k,h⟩
 ·refine Qa a [.T,8] rfl (a1_ k) ?_
  cases h
  exact d1_ tt_
 obtain⟨G,w,h⟩:=Qb h
 refine Qa a [.F,4,.A (Qu e.2),2,.o (.C2 (.I G)),4] rfl (a3_ k rfl (Qlj _ _ w)) ?_
 cases h
 exact d1_ tt_
def QcC (c:Qq)(b:Qp):Option (QMk×Int):=
 (Qdj c b.Task b.Vars).bind fun d=>
 bif (d.2 != 0)then
 some (([]:List QBg),d.2)
 else
 (idx c.Tasks b.Task).bind fun e=>
 (Qal c e.Ins b.Ins d.1).bind fun a=>
 some (a.1,a.2)
theorem QqN (i l){r}(h:QcC i l=some r):Qc prog 26 [.agg (Qd i),.agg (Qk l)] [] (Gives (.tup [.sl 1 (r.1.map Qf),.I r.2]) []):=by
 refine wk_ 34 func26 fun C e=>?_
 obtain⟨p,j,h⟩:=Qb h
 refine Qa e [10,.A (Qd i),4,.o (.C3 (.tup [.sl 1 (p.1.map Qe),.I p.2])),14] rfl (a2_ rfl (Qn9 _ _ _ j)) ?_
 rcases Qo h with⟨b,h⟩|⟨b,h⟩
 ·refine Qa e [.T,9,.denil 4 [some 1]] rfl (a1_ b) ?_
  cases h
  exact d2_ tt_
 obtain⟨q,k,h⟩:=Qb h
 obtain⟨f,g,h⟩:=Qb h
 refine Qa e [.F,3,.K [2,3,4,5,6] [2,3]] rfl (a1_ b) ?_
 refine AK.draw2 Qr e mixed [.a .no (some ([],.agg (Qd i))) false,.N,.N,.N,.N,.a (.row (Qm q)) none false,.N,.N,.N,.N,.N,.a (.C4 (.tup [.sl 1 (f.1.map Qf),.I f.2])) none false,.N,.N,.m .s,.m .s] [] [] [4,5] [] rfl rfl rfl ⟨⟨⟨tt_,rfl⟩,(QF k)⟩,(QfH _ _ _ _ g)⟩ rfl (by kernel_rfl) rfl rfl rfl ?_
 refine tg_ e [2] ?_
 cases h
 exact d2_ tt_
def Qtr (a:Unit):Option (QBg×Int):=
 some (([]:List (Int×Int)),1)
def Qts (a:QBg):Option (QBg×Int):=
 some (([]:List (Int×Int)),1)
def Qtt (a:QBg):Option (QBg×Int):=
 some (([]:List (Int×Int)),1)
noncomputable def Qgi (m16:QBg)(k18:Int)(v19:Int):Option (QBg⊕Empty):=
 some (.inl (Qcv ltI m16 k18 (w64 (((QV m16 k18).getD 0)-v19))))
def Qoc (a:QBg):Option (QBg×Int):=
 (Qex a).bind fun b=>
 some (b,0)
noncomputable def Qod (a11:(QBg×QBg)):Option (QBg×Int):=
 (Qet a11.2 a11.1).bind fun x12=>
 bif (!x12)then
 some (([]:List (Int×Int)),10)
 else
 (Qk8 (fun st p=>Qgi st p.1 p.2) a11.1 a11.2).bind (Sum.elim (fun q=>Qoc q) (fun q=>Empty.elim q))
def Qfj (a:QBg)(b:QBg):Option (QBg×Int):=
 (Qku a b).bind (Sum.elim (fun q=>Qtr q) (Sum.elim (fun q=>Qts q) (Sum.elim (fun q=>Qtt q) (fun q=>Qod q))))
theorem QyU (O P){r}(h:Qfj O P=some r):Qc prog 36 [.sl 2 (O.map Ql),.sl 2 (P.map Ql)] [] (Gives (.tup [.sl 2 (r.1.map Ql),.I r.2]) []):=by
 refine wk_ 40 func36 fun C g=>?_
 obtain⟨X,w,h⟩:=Qb h
 refine tg_ g [10] ?_
 rcases X with(Y | (S | (E | i)))
 ·replace h:Qtr Y=some r:=h
  refine Qa g [.cm (.fn) [] [] [] [.d,.d] [] (.tup [.lit (.map none),.lit (.map none),.b false]),28,.denil 4 [some 2]] rfl (a1_ (QbM _ _ w)) ?_
  cases h
  exact d2_ tt_
 ·replace h:Qts S=some r:=h
  refine Qa g [.cm (.fn) [] [(14,603)] [] [.d,.d] [(603,.map (QP V.I V.I S))] (.tup [.lit (.map none),.map 603,.b false]),28,.denil 4 [some 2]] rfl (a1_ (QbM _ _ w)) ?_
  cases h
  exact d2_ tt_
 ·replace h:Qtt E=some r:=h
  refine Qa g [.cm (.fn) [] [(14,602)] [] [.d,.d] [(602,.map (QP V.I V.I E))] (.tup [.map 602,.lit (.map none),.b false]),28,.denil 4 [some 2]] rfl (a1_ (QbM _ _ w)) ?_
  cases h
  exact d2_ tt_
 replace h:Qod i=some r:=h
 obtain⟨L,G,h⟩:=Qb h
 refine Qa g [.cm (.fn) [] [(14,602),(610,603)] [] [.d,.d] [(602,.map (QP V.I V.I i.1)),(603,.map (QP V.I V.I i.2))] (.tup [.map 602,.map 603,.b true]),23,.cm (.fn) [(617,610),(618,14)] [(610,617),(14,618)] [] [.d,.d] [(617,.map (QP V.I V.I i.2)),(618,.map (QP V.I V.I i.1))] (.b L),4] rfl (a2_ (QbM _ _ w) (Qlf _ _ G)) ?_
 refine bq_ g h [.T,9,.denil 4 [some 2],.K [4,5] []] rfl (fun j h=>?_) [.F,7] rfl fun j h=>?_
 ·cases h
  exact d2_ tt_
 refine AK.openMapK (b:=610) QlT rfl fun s t L14 A M B=>?_
 refine Qa g [.x (fun σ=>(σ.set 27 (.itr s t #[] none)).put 27 (.L 27)),3,.K [6,27] [14,27,610]] rfl (a1_ (Stp.range (b:=610) rfl rfl (QN g.n rfl) rfl rfl QhP rfl)) ?_
 obtain⟨N,H,h⟩:=Qb h
 refine AK.range (body:=(fun st p=>Qgi st p.1 p.2)) (fun st seen σ=>∃cur:Option Nat,σ=⟨[(6,.map 14),lk_ 27],[(14,.map (QP V.I V.I st)),(27,.itr s t seen cur),(610,.mapX s t (QjH V.I V.I L14) (QP V.I V.I i.2))]⟩) (fun (q:Empty) _ _=>False) (fun st e σ=>e=.exit 1/\σ=⟨[(6,.map 14)],[(14,.map (QP V.I V.I st))]⟩) A B H (ex_ _ rfl) ?_ ?_
 ·rintro a seen σ ⟨cur,rfl⟩ hex
  refine tg_ g [2] ?_
  refine AK.nextT (b:=27) (m:=610) rfl rfl rfl (QN g.n rfl) rfl rfl rfl rfl ?_ ?_
  ·intro hleft
   refine tg_ g [7,.K [6] [14]] ?_
   exact AK.done (Or.inl (an_ hleft (an_ (fun h=>(by cases h)) (an_ rfl rfl))))
  intro U c y u
  obtain⟨o,h⟩:=hex _ u
  have ho:=h
  replace h:Qgi a c y=some o:=h
  refine Qa g [10,.x (fun σ=>σ.put 30 (.tup [.I c,.I y])),9,.o (.any (.I ((QV a c).getD 0)) none),2,.x (fun σ=>σ.set 14 (.map (QP V.I V.I (Qcv ltI a c (w64 (((QV a c).getD 0)-y)))))),2,.K [6,27] [14,27,610]] rfl (a3_ (Stp.entryT (b:=27) (m:=610) (e:=V.I) (f:=V.I) rfl rfl (QN g.n rfl) rfl u rfl rfl) (fun σ W Z _=>Stp.lookup (e:=V.I) (f:=V.I) (l:=a) (k:=c) (z:=0) rfl rfl (QN g.n rfl) (W _ _ rfl) (Z _ _ rfl) (W _ _ rfl) QhP QlT Qv4 rfl) (Stp.mapUpdate (e:=V.I) (f:=V.I) (l:=a) (k:=c) (v:=(w64 (((QV a c).getD 0)-y))) ltI rfl rfl rfl rfl rfl rfl QhP QlT rfl)) ?_
  cases h
  exact AK.done (Or.inr (ex_ _ (an_ u (Or.inl (ex_ _ (an_ ho (an_ rfl (ex_ _ rfl))))))))
 rcases N with(a | q)
 ·replace h:Qoc a=some r:=h
  rintro e σ ⟨rfl,rfl⟩
  obtain⟨D,J,h⟩:=Qb h
  refine Qa g [5,.cm (.fn) [(617,14)] [(39,600),(14,617)] [] [.d] [(600,.arr 2 (D.map Ql)),(617,.map (QP V.I V.I a))] (.own 600 D.length),5,.frz 39 (D.map Ql) [4] []] rfl (a2_ (QiK _ J) (a1_ (QbU Qg))) ?_
  cases h
  exact d2_ tt_
 exact q.elim
def QcD (f:QMk)(g:QMk)(c:Int)(a:QMk):Option ((Int×QMk)⊕(Int⊕QMk)):=
 bif (decide (c<((List.replicate (min2 (f.length:Int) (g.length:Int)).toNat (([]:QBg):QBg)).length:Int)))then
 (idx f c).bind fun d=>
 (idx g c).bind fun e=>
 (Qfj d e).bind fun b=>
 (idx a c).bind fun h=>
 bif (b.2 != 0)then
 some (.inr (.inl b.2))
 else
 some (.inl ((w64 (c+1)),(a.set c.toNat b.1)))
 else
 some (.inr (.inr a))
def QpJ (a:Int):Option (QMk×Int):=
 some (([]:List QBg),a)
def QpK (a:QMk):Option (QMk×Int):=
 some (a,0)
def Qed (a:QMk)(b:QMk):Option (QMk×Int):=
 (chk (decide (0<=(min2 (a.length:Int) (b.length:Int)))&&decide ((min2 (a.length:Int) (b.length:Int))<=(min2 (a.length:Int) (b.length:Int)))&&decide ((min2 (a.length:Int) (b.length:Int))<=4294967296))).bind fun _=>
 (Qy (fun st=>QcD a b st.1 st.2) (0,(List.replicate (min2 (a.length:Int) (b.length:Int)).toNat (([]:QBg):QBg)))).bind (Sum.elim (fun q=>QpJ q) (fun q=>QpK q))
theorem Qv8 (l p){r}(h:Qed l p=some r):Qc prog 35 [.sl 1 (l.map Qf),.sl 1 (p.map Qf),.clo (.func 36) [] []] [] (Gives (.tup [.sl 1 (r.1.map Qf),.I r.2]) []):=by
 refine wk_ 43 func35 fun C g=>?_
 obtain⟨B,h⟩:=Qaq h
 refine Qa g [9,.o (.ln l.length),1,.o (.ln p.length),1,.o (.rows (List.replicate (min2 (l.length:Int) (p.length:Int)).toNat [.lit (.slice none 0 0)]))] rfl (a3_ Qg Qg ⟨B,rfl⟩) ?_
 refine AK.denilA (b:=16) [some 2] rfl (QzA (f:=Qf) (x:=([]:QBg)) rfl) ?_
 refine Qa g [.S 16 (.own 16 (List.replicate (min2 (l.length:Int) (p.length:Int)).toNat (([]:QBg):QBg)).length),12,.K [0,1,2,8,18,19] [16]] rfl (a1_ (by simp)) ?_
 obtain⟨D,u,h⟩:=Qb h
 refine AK.loop (body:=(fun st=>QcD l p st.1 st.2)) (fun st σ=>σ=⟨[(0,.sl 1 (l.map Qf)),(1,.sl 1 (p.map Qf)),(2,.clo (.func 36) [] []),(8,.own 16 st.2.length),(18,.I ((List.replicate (min2 (l.length:Int) (p.length:Int)).toNat (([]:QBg):QBg)).length:Int)),(19,.I st.1)],[(16,.arr 1 (st.2.map Qf))]⟩) (Sum.elim (fun q e σ=>e=.ret/\σ=⟨[(6,.lit (.slice none 0 0)),(7,.I q)],[]⟩) (fun q e σ=>e=.exit 0/\σ=⟨[(8,.own 16 q.length)],[(16,.arr 1 (q.map Qf))]⟩)) u rfl ?_ ?_
 ·rintro ⟨L,v⟩ o σ rfl h
  refine tg_ g [6] ?_
  rcases Qo h with⟨i,h⟩|⟨i,h⟩
  ·obtain⟨E,w,h⟩:=Qb h
   obtain⟨G,y,h⟩:=Qb h
   obtain⟨k,z,h⟩:=Qb h
   obtain⟨H,t,h⟩:=Qb h
   refine Qa g [.T,16,.K [0,1,2,8,9,10,18,19] [16]] rfl (a1_ i) ?_
   refine AK.draw2 Qr g mixed [.N,.N,.N,.N,.N,.a (.row (Qf E)) none false,.N,.N,.N,.a (.row (Qf G)) none false,.N,.a (.C2 (.tup [.sl 2 (k.1.map Ql),.I k.2])) none false,.a .no none true true,.N,.a .no none true,.N,.m (.st (Qf H) ((v.set L.toNat k.1).map Qf)),.m .s] [0,1,2,8,9,10,18,19] [] [0,1,2,8,10,18,19] [16] rfl rfl rfl ⟨⟨⟨⟨⟨tt_,(QF w)⟩,(QF y)⟩,(QyU _ _ z)⟩,(Qc3 t rfl)⟩,⟨(QbO (Qck t).2),Qin rfl⟩⟩ rfl (by kernel_rfl) rfl rfl rfl ?_
   refine tg_ g [7] ?_
   refine bg_ h (fun j h=>Qa g [.T,10,.K [6,7] []] rfl (a1_ j) ?_) fun j h=>Qa g [.F,7,.S 8 (.own 16 (v.set L.toNat k.1).length),.K [0,1,2,8,18,19] [16]] rfl (a2_ j (congrArg (fun n=>V.own 16 n) (by simp))) ?_
   ·cases h
    exact Qab rfl (an_ rfl rfl)
   cases h
   exact QU rfl rfl
  refine Qa g [.F,2,.K [8] [16]] rfl (a1_ i) ?_
  cases h
  exact QW rfl (an_ rfl rfl)
 rcases D with(J | A)
 ·replace h:QpJ J=some r:=h
  rintro e σ ⟨rfl,rfl⟩
  refine tg_ g [2,.denil 6 [some 1]] ?_
  cases h
  exact d2_ tt_
 replace h:QpK A=some r:=h
 rintro e σ ⟨rfl,rfl⟩
 refine Qa g [10,.frz 16 (A.map Qf) [6] []] rfl (a1_ (a1_ (QbU Qg))) ?_
 cases h
 exact d2_ tt_
def QdN (c:Qq)(d:QMk)(e:Qp):Option (QMk×Int):=
 (Qdb c d e).bind fun f=>
 bif (f != 0)then
 some (([]:List QBg),f)
 else
 (QcC c e).bind fun a=>
 bif (a.2 != 0)then
 some (([]:List QBg),a.2)
 else
 (Qed d a.1).bind fun b=>
 some (b.1,b.2)
theorem Qnn (k p l){r}(h:QdN k p l=some r):Qc prog 10 [.agg (Qd k),.sl 1 (p.map Qf),.agg (Qk l)] [] (Gives (.tup [.sl 1 (r.1.map Qf),.I r.2]) []):=by
 refine wk_ 32 func10 fun C e=>?_
 obtain⟨q,m,h⟩:=Qb h
 refine Qa e [11,.A (Qd k),1,.A (Qk l),.o (.C3 (.I q)),9] rfl (a3_ rfl rfl (Qw9 _ _ _ m)) ?_
 rcases Qo h with⟨b,h⟩|⟨b,h⟩
 ·refine Qa e [.T,9,.denil 6 [some 1]] rfl (a1_ b) ?_
  cases h
  exact d2_ tt_
 obtain⟨f,g,h⟩:=Qb h
 refine Qa e [.F,4,.A (Qd k),.A (Qk l),.o (.C2 (.tup [.sl 1 (f.1.map Qf),.I f.2])),14] rfl (a4_ b rfl rfl (QqN _ _ g)) ?_
 rcases Qo h with⟨a,h⟩|⟨a,h⟩
 ·refine Qa e [.T,9,.denil 6 [some 1]] rfl (a1_ a) ?_
  cases h
  exact d2_ tt_
 obtain⟨i,j,h⟩:=Qb h
 refine Qa e [.F,6,.cm (.fn) [] [] [] [.d,.d,.d] [] (.tup [.sl 1 (i.1.map Qf),.I i.2]),7] rfl (a2_ a (Qv8 _ _ j)) ?_
 cases h
 exact d2_ tt_
def QjS (c:Qq)(b:Qp):Option (QMk×Int):=
 (Qdj c b.Task b.Vars).bind fun d=>
 bif (d.2 != 0)then
 some (([]:List QBg),d.2)
 else
 (idx c.Tasks b.Task).bind fun e=>
 (Qal c e.Outs b.Outs d.1).bind fun a=>
 some (a.1,a.2)
theorem Qxa (i l){r}(h:QjS i l=some r):Qc prog 40 [.agg (Qd i),.agg (Qk l)] [] (Gives (.tup [.sl 1 (r.1.map Qf),.I r.2]) []):=by
 refine wk_ 34 func40 fun C e=>?_
 obtain⟨p,j,h⟩:=Qb h
 refine Qa e [10,.A (Qd i),4,.o (.C3 (.tup [.sl 1 (p.1.map Qe),.I p.2])),14] rfl (a2_ rfl (Qn9 _ _ _ j)) ?_
 rcases Qo h with⟨b,h⟩|⟨b,h⟩
 ·refine Qa e [.T,9,.denil 4 [some 1]] rfl (a1_ b) ?_
  cases h
  exact d2_ tt_
 obtain⟨q,k,h⟩:=Qb h
 obtain⟨f,g,h⟩:=Qb h
 refine Qa e [.F,3,.K [2,3,4,5,6] [2,3]] rfl (a1_ b) ?_
 refine AK.draw2 Qr e mixed [.a .no (some ([],.agg (Qd i))) false,.N,.N,.N,.N,.a (.row (Qm q)) none false,.N,.N,.N,.N,.N,.a (.C4 (.tup [.sl 1 (f.1.map Qf),.I f.2])) none false,.N,.N,.m .s,.m .s] [] [] [4,5] [] rfl rfl rfl ⟨⟨⟨tt_,rfl⟩,(QF k)⟩,(QfH _ _ _ _ g)⟩ rfl (by kernel_rfl) rfl rfl rfl ?_
 refine tg_ e [2] ?_
 cases h
 exact d2_ tt_
def QbK (a:QMk):Option QMk:=
 (chk (decide ((([]:List QBg).length+a.length)*24<=140737488355328))).bind fun _=>
 some (([]:List QBg)++a)
theorem QjC (b){r}(h:QbK b=some r):Qc prog 85 [.sl 1 (b.map Qf)] [] (Gives (.own 600 r.length) [(600,.arr 1 (r.map Qf))]):=by
 refine wk_ 8 func85 fun C a=>?_
 unfold QbK at h
 refine tg_ a [9] ?_
 refine AK.eqNil rfl rfl rfl (QN a.n rfl) rfl rfl QEg ?_ ?_
 ·intro c
  replace h:some ([]:List QBg)=some r:=by simpa [chk,List.map_eq_nil_iff.1 c] using h
  refine Qa a [10,.adopt 2 600 1,.O 600 (.arr 1 (([]:List QBg).map Qf)),.S 2 (.own 600 ([]:List QBg).length)] rfl (a2_ rfl rfl) ?_
  cases h
  exact d1_ r1_
 obtain⟨d,h⟩:=Qaq h
 refine Qa a [8,.O 5 (.arr 1 (([]:List QBg).map Qf)),.S 5 (.own 5 ([]:List QBg).length),1,.x (fun σ=>σ.app 5 1 7 (([]:List QBg)++b).length ((([]:List QBg)++b).map Qf)),4,.K [2] [5],.ren 5 600] rfl (a3_ rfl rfl (Stp.appSB (by_:=24) (zs:=[.lit (.slice none 0 0)]) (e:=35) (e':=35) (z':=1) (by':=24) rfl rfl (QN a.n rfl) rfl rfl rfl Qg (by kernel_rfl) (by kernel_rfl) (by kernel_rfl) rfl (by decide) (by decide) (Qvd d Qg) rfl Qao (Qbq Qg))) ?_
 cases h
 exact d1_ r1_
def QcS (a:QBg):Option QBg:=
 (chk (decide ((([]:List (Int×Int)).length+a.length)*16<=140737488355328))).bind fun _=>
 some (([]:List (Int×Int))++a)
theorem Qmd (b){r}(h:QcS b=some r):Qc prog 86 [.sl 2 (b.map Ql)] [] (Gives (.own 600 r.length) [(600,.arr 2 (r.map Ql))]):=by
 refine wk_ 8 func86 fun C a=>?_
 unfold QcS at h
 refine tg_ a [9] ?_
 refine AK.eqNil rfl rfl rfl (QN a.n rfl) rfl rfl QEi ?_ ?_
 ·intro c
  replace h:some ([]:List (Int×Int))=some r:=by simpa [chk,List.map_eq_nil_iff.1 c] using h
  refine Qa a [10,.adopt 2 600 2,.O 600 (.arr 2 (([]:List (Int×Int)).map Ql)),.S 2 (.own 600 ([]:List (Int×Int)).length)] rfl (a2_ rfl rfl) ?_
  cases h
  exact d1_ r1_
 obtain⟨d,h⟩:=Qaq h
 refine Qa a [8,.O 5 (.arr 2 (([]:List (Int×Int)).map Ql)),.S 5 (.own 5 ([]:List (Int×Int)).length),1,.x (fun σ=>σ.app 5 2 7 (([]:List (Int×Int))++b).length ((([]:List (Int×Int))++b).map Ql)),4,.K [2] [5],.ren 5 600] rfl (a3_ rfl rfl (Stp.appSB (by_:=16) (zs:=[.I 0,.I 0]) (e:=40) (e':=40) (z':=2) (by':=16) rfl rfl (QN a.n rfl) rfl rfl rfl Qg (by kernel_rfl) (by kernel_rfl) (by kernel_rfl) rfl (by decide) (by decide) (Qvd d Qg) rfl Qao (Qbq Qg))) ?_
 cases h
 exact d1_ r1_
def Qhq (e:QMk)(a:Int)(b:QMk):Option ((Int×QMk)⊕QMk):=
 bif (decide (a<(e.length:Int)))then
 (idx b a).bind fun c=>
 (QcS c).bind fun d=>
 (idx b a).bind fun f=>
 some (.inl ((w64 (a+1)),(b.set a.toNat d)))
 else
 some (.inr b)
def QrU (a:QMk):Option QMk:=
 some a
def Qlk (b:QMk):Option QMk:=
 (QbK b).bind fun a=>
 (Qy (fun st=>Qhq a st.1 st.2) (0,a)).bind (fun q=>QrU q)
theorem QrV (u){r}(h:Qlk u=some r):Qc prog 41 [.sl 1 (u.map Qf)] [] (Gives (.own 600 r.length) [(600,.arr 1 (r.map Qf))]):=by
 refine wk_ 22 func41 fun C g=>?_
 obtain⟨k,l,h⟩:=Qb h
 refine Qa g [8,.o (.co false [.d] 1 (k.map Qf) k.length),12,.K [3,8,9,10] [7]] rfl (a1_ ⟨(QjC _ l),Qg,.inl rfl⟩) ?_
 obtain⟨v,i,h⟩:=Qb h
 refine AK.loop (body:=(fun st=>Qhq k st.1 st.2)) (fun st σ=>σ=⟨[(3,.own 7 st.2.length),(8,.own 7 st.2.length),(9,.I (k.length:Int)),(10,.I st.1)],[(7,.arr 1 (st.2.map Qf))]⟩) (fun q e σ=>e=.exit 0/\σ=⟨[(3,.own 7 q.length)],[(7,.arr 1 (q.map Qf))]⟩) i rfl ?_ ?_
 ·rintro ⟨m,p⟩ o σ rfl h
  refine tg_ g [6] ?_
  rcases Qo h with⟨b,h⟩|⟨b,h⟩
  ·obtain⟨s,c,h⟩:=Qb h
   obtain⟨a,j,h⟩:=Qb h
   obtain⟨t,f,h⟩:=Qb h
   refine Qa g [.T,8,.o (.row (Qf s)),8,.o (.co false [.d] 2 (a.map Ql) a.length),1,.frz 18 (a.map Ql) [18] [],.st (Qf t) ((p.set m.toNat a).map Qf),7,.S 3 (.own 7 (p.set m.toNat a).length),.S 8 (.own 7 (p.set m.toNat a).length),.K [3,8,9,10] [7]] rfl (a9_ b (Qc3 c rfl) (QbO (Qck c).2) ⟨(Qmd _ j),Qg,.inl rfl⟩ (Qc3 f rfl) (a1_ (QbU Qg)) ⟨(QbO (Qck f).2),Qin rfl⟩ (congrArg (fun n=>V.own 7 n) (by simp)) (congrArg (fun n=>V.own 7 n) (by simp))) ?_
   cases h
   exact QU rfl rfl
  refine Qa g [.F,2,.K [3] [7]] rfl (a1_ b) ?_
  cases h
  exact QW rfl (an_ rfl rfl)
 replace h:QrU v=some r:=h
 rintro e σ ⟨rfl,rfl⟩
 refine tg_ g [9,.K [2] [7],.ren 7 600] ?_
 cases h
 exact d1_ r1_
def QbD (f:QMk)(g:QMk)(c:Int)(a:QMk):Option ((Int×QMk)⊕(Int⊕QMk)):=
 bif (decide (c<((List.replicate (min2 (f.length:Int) (g.length:Int)).toNat (([]:QBg):QBg)).length:Int)))then
 (idx f c).bind fun d=>
 (idx g c).bind fun e=>
 (Qec d e).bind fun b=>
 (idx a c).bind fun h=>
 bif (b.2 != 0)then
 some (.inr (.inl b.2))
 else
 some (.inl ((w64 (c+1)),(a.set c.toNat b.1)))
 else
 some (.inr (.inr a))
def Qna (a:Int):Option (QMk×Int):=
 some (([]:List QBg),a)
def Qnb (a:QMk):Option (QMk×Int):=
 some (a,0)
def Qa0 (a:QMk)(b:QMk):Option (QMk×Int):=
 (chk (decide (0<=(min2 (a.length:Int) (b.length:Int)))&&decide ((min2 (a.length:Int) (b.length:Int))<=(min2 (a.length:Int) (b.length:Int)))&&decide ((min2 (a.length:Int) (b.length:Int))<=4294967296))).bind fun _=>
 (Qy (fun st=>QbD a b st.1 st.2) (0,(List.replicate (min2 (a.length:Int) (b.length:Int)).toNat (([]:QBg):QBg)))).bind (Sum.elim (fun q=>Qna q) (fun q=>Qnb q))
def QdB (β:Nat)(x:List (Int×Int)):List V:=[.sln β 2 (x.map Ql)]
theorem QBW (β:Nat)(x:List (Int×Int)):QzF β (QdB β x):=⟨⟨rfl,fun r hr v hv=>by obtain⟨y,_,rfl⟩:=QaN.1 hr;simp only [Ql,Qbb,List.not_mem_nil,or_false]at hv;rcases hv with rfl | rfl<;>rfl⟩,tt_⟩
theorem QmI (β:Nat)(i:QMk)(j:QMk){r:(QMk×Int)}(h:Qa0 i j=some r):Qan β prog 35 [.sl 1 (i.map Qf),.sl 1 (j.map Qf),.clo (.func 24) [] []] [] (Gives (.tup [.sln β 1 (r.1.map (QdB β)),.I r.2]) []):=by
 refine Qan.walk 43 func35 rfl ntmps35 rfl fun C c hβ=>?_
 obtain⟨z,h⟩:=Qaq h
 refine Qa c [9,.o (.ln i.length),1,.o (.ln j.length),1,.o (.rows (List.replicate (min2 (i.length:Int) (j.length:Int)).toNat [.lit (.slice none 0 0)]))] rfl (a3_ Qg Qg ⟨z,rfl⟩) ?_
 refine AK.denilAN (b:=16) 2 β rfl (show _=(List.replicate (min2 (i.length:Int) (j.length:Int)).toNat (([]:QBg):QBg)).map (QdB β)from by simp [QdB]) ?_
 refine Qa c [.S 16 (.own 16 (List.replicate (min2 (i.length:Int) (j.length:Int)).toNat (([]:QBg):QBg)).length),12,.K [0,1,2,8,18,19] [16]] rfl (a1_ (by simp)) ?_
 obtain⟨A,p,h⟩:=Qb h
 refine AK.loop (body:=(fun st=>QbD i j st.1 st.2)) (fun st σ=>σ=⟨[(0,.sl 1 (i.map Qf)),(1,.sl 1 (j.map Qf)),(2,.clo (.func 24) [] []),(8,.own 16 st.2.length),(18,.I ((List.replicate (min2 (i.length:Int) (j.length:Int)).toNat (([]:QBg):QBg)).length:Int)),(19,.I st.1)],[(16,.arr 1 (st.2.map (QdB β)))]⟩) (Sum.elim (fun q e σ=>e=.ret/\σ=⟨[(6,.lit (.slice none 0 0)),(7,.I q)],[]⟩) (fun q e σ=>e=.exit 0/\σ=⟨[(8,.own 16 q.length)],[(16,.arr 1 (q.map (QdB β)))]⟩)) p rfl ?_ ?_
 ·rintro ⟨H,u⟩ o σ rfl h
  refine tg_ c [6] ?_
  rcases Qo h with⟨f,h⟩|⟨f,h⟩
  ·obtain⟨B,v,h⟩:=Qb h
   obtain⟨D,w,h⟩:=Qb h
   obtain⟨k,x,h⟩:=Qb h
   obtain⟨E,l,h⟩:=Qb h
   refine Qa c [.T,16,.K [0,1,2,8,9,10,18,19] [16]] rfl (a1_ f) ?_
   refine AK.draw2 Qr c mixed [.N,.N,.N,.N,.N,.a (.row (Qf B)) none false,.N,.N,.N,.a (.row (Qf D)) none false,.N,.a (.cb β false [.d,.d] (.tup [.sln β 2 (k.1.map Ql),.I k.2])) none false,.a .no none true true,.N,.a .no none true,.N,.m (.st (QdB β E) ((u.set H.toNat k.1).map (QdB β))),.m .s] [0,1,2,8,9,10,18,19] [] [0,1,2,8,10,18,19] [16] rfl rfl rfl ⟨⟨⟨⟨⟨tt_,(QF v)⟩,(QF w)⟩,⟨(Qtq β _ _ x),hβ⟩⟩,(Qc3 l rfl)⟩,⟨(QbO (Qck l).2),Qin rfl⟩⟩ rfl (by kernel_rfl) rfl rfl rfl ?_
   refine tg_ c [7] ?_
   refine bg_ h (fun g h=>Qa c [.T,10,.K [6,7] []] rfl (a1_ g) ?_) fun g h=>Qa c [.F,7,.S 8 (.own 16 (u.set H.toNat k.1).length),.K [0,1,2,8,18,19] [16]] rfl (a2_ g (congrArg (fun n=>V.own 16 n) (by simp))) ?_
   ·cases h
    exact Qab rfl (an_ rfl rfl)
   cases h
   exact QU rfl rfl
  refine Qa c [.F,2,.K [8] [16]] rfl (a1_ f) ?_
  cases h
  exact QW rfl (an_ rfl rfl)
 rcases A with(G | y)
 ·replace h:Qna G=some r:=h
  rintro e σ ⟨rfl,rfl⟩
  refine tg_ c [2] ?_
  refine AK.denilN (t:=6) 1 β rfl ?_
  refine tg_ c [.K [6,7] []] ?_
  cases h
  exact AK.done (ex_ [_,_] (an_ (an_ rfl (an_ rfl tt_)) (gives tt_)))
 replace h:Qnb y=some r:=h
 rintro e σ ⟨rfl,rfl⟩
 refine Qa c [10,.frn β 16 (y.map (QdB β)) [6] [],.K [6,7] []] rfl (a1_ (a2_ (QbU Qg) hβ)) ?_
 cases h
 exact AK.done (ex_ [_,_] (an_ (an_ rfl (an_ rfl tt_)) (gives tt_)))
theorem QtF (a b){r}(h:Qa0 a b=some r):Qc prog 35 [.sl 1 (a.map Qf),.sl 1 (b.map Qf),.clo (.func 24) [] []] [] (Gives (.tup [.sl 1 (r.1.map Qf),.I r.2]) []):=(QmI 0 a b h).lo (by show V.tup [V.sl 1 ((r.1.map (QdB 0)).map (List.map V.lo1)),_]=_;rw [QA9 (g:=Qf) fun _=>rfl];rfl)
def Qfw (a:Int)(b:QMk):Option ((Int×QMk)⊕QMk):=
 some (.inl ((w64 (a+1)),b))
def Qbj (d:QG)(b:Int)(a:QMk):Option ((Int×QMk)⊕QMk):=
 bif (decide (b<(d.Cancel.length:Int)))then
 (idx d.Cancel b).bind fun c=>
 bif ((decide (0<=c))&&(decide (c<(a.length:Int))))then
 (idx a c).bind fun e=>
 Qfw b (a.set c.toNat ([]:List (Int×Int)))
 else
 Qfw b a
 else
 some (.inr a)
def Qfx (c:(QMk×Int))(b:QMk):Option (QMk×Int):=
 (Qa0 b c.1).bind fun a=>
 some (a.1,a.2)
def QdO (d:Qq)(f:QMk)(e:Qp):Option (QMk×Int):=
 (QjS d e).bind fun a=>
 bif (a.2 != 0)then
 some (([]:List QBg),a.2)
 else
 (Qlk f).bind fun b=>
 (idx d.Tasks e.Task).bind fun c=>
 (Qy (fun st=>Qbj c st.1 st.2) (0,b)).bind (fun q=>Qfx a q)
theorem QqO (β:Nat)(L:Qq)(P:QMk)(M:Qp){r:(QMk×Int)}(h:QdO L P M=some r):Qan β prog 12 [.agg (Qd L),.sl 1 (P.map Qf),.agg (Qk M)] [] (Gives (.tup [.sln β 1 (r.1.map (QdB β)),.I r.2]) []):=by
 refine Qan.walk 53 func12 rfl ntmps12 rfl fun C f hβ=>?_
 obtain⟨u,N,h⟩:=Qb h
 refine Qa f [10,.A (Qd L),.A (Qk M),.o (.C2 (.tup [.sl 1 (u.1.map Qf),.I u.2])),14] rfl (a3_ rfl rfl (Qxa _ _ N)) ?_
 rcases Qo h with⟨w,h⟩|⟨w,h⟩
 ·refine Qa f [.T,9] rfl (a1_ w) ?_
  refine AK.denilN (t:=6) 1 β rfl ?_
  refine tg_ f [.K [6,7] []] ?_
  cases h
  exact AK.done (ex_ [_,_] (an_ (an_ rfl (an_ rfl tt_)) (gives tt_)))
 obtain⟨z,A,h⟩:=Qb h
 obtain⟨i,B,h⟩:=Qb h
 refine Qa f [.F,5,.o (.co false [.d] 1 (z.map Qf) z.length),10,.o (.row (Qm i)),2,.o (.ln i.Cancel.length),4,.K [8,10,30,31,32] [23]] rfl (a4_ w ⟨(QrV _ A),Qg,.inl rfl⟩ (QF B) Qg) ?_
 obtain⟨D,E,h⟩:=Qb h
 refine AK.loop (body:=(fun st=>Qbj i st.1 st.2)) (fun st σ=>σ=⟨[(8,.sl 1 (u.1.map Qf)),(10,.own 23 st.2.length),(30,.sl 1 (i.Cancel.map Qe)),(31,.I (i.Cancel.length:Int)),(32,.I st.1)],[(23,.arr 1 (st.2.map Qf))]⟩) (fun q e σ=>e=.exit 0/\σ=⟨[(8,.sl 1 (u.1.map Qf)),(10,.own 23 q.length)],[(23,.arr 1 (q.map Qf))]⟩) E rfl ?_ ?_
 ·rintro ⟨y,k⟩ o σ rfl h
  refine tg_ f [6] ?_
  refine bq_ f h [.T,2] rfl (fun l h=>?_) [.F,2,.K [8,10] [23]] rfl fun l h=>?_
  ·refine AK.meet (fun σ=>∃p:QMk,σ=⟨[(8,.sl 1 (u.1.map Qf)),(10,.own 23 p.length),(30,.sl 1 (i.Cancel.map Qe)),(31,.I (i.Cancel.length:Int)),(32,.I y)],[(23,.arr 1 (p.map Qf))]⟩/\Qfw y p=some o) ?_ ?_
   ·obtain⟨a,G,h⟩:=Qb h
    refine Qa f [3,.o (.row (Qe a)),5] rfl (a1_ (QF G)) ?_
    refine AK.meetX (fun σ=>σ=⟨[(8,.sl 1 (u.1.map Qf)),(10,.own 23 k.length),(12,.I a),(30,.sl 1 (i.Cancel.map Qe)),(31,.I (i.Cancel.length:Int)),(32,.I y),(43,.b ((decide (0<=a))&&(decide (a<(k.length:Int)))))],[(23,.arr 1 (k.map Qf))]⟩) ?_ ?_
    ·refine tg_ f [4] ?_
     rcases QD (decide (0<=a))with j | j
     ·refine Qa f [.S 38 (.b true),6,.S 43 (.b ((decide (0<=a))&&(decide (a<(k.length:Int))))),.K [8,10,12,30,31,32,43] [23]] rfl ⟨(tc_ j),(congrArg V.b (Qah j rfl))⟩ ?_
      exact mt_
     refine Qa f [.S 38 (.b false),6,.S 43 (.b ((decide (0<=a))&&(decide (a<(k.length:Int))))),.K [8,10,12,30,31,32,43] [23]] rfl ⟨(tc_ j),(congrArg V.b (QaL j rfl))⟩ ?_
     exact mt_
    rintro σ rfl
    refine tg_ f [1] ?_
    rcases Qo h with⟨m,h⟩|⟨m,h⟩
    ·obtain⟨O,s,h⟩:=Qb h
     refine Qa f [.T,4,.x (fun σ=>σ.set 23 (.arr 1 ((k.set a.toNat ([]:List (Int×Int))).map Qf))),2,.S 10 (.own 23 (k.set a.toNat ([]:List (Int×Int))).length),.K [8,10,30,31,32] [23]] rfl (a4_ m (Qc3 s rfl) (Stp.storeNil (zz:=2) (r:=Qf O) rfl rfl rfl rfl (QbO (Qck s).2) rfl (Qr.sz rfl) rfl (Qin rfl)) (congrArg (fun n=>V.own 23 n) (by simp))) ?_
     exact AK.met (ex_ _ (an_ rfl h))
    refine Qa f [.F,2,.K [8,10,30,31,32] [23]] rfl (a1_ m) ?_
    exact AK.met (ex_ _ (an_ rfl h))
   rintro σ ⟨p,rfl,h⟩
   refine tg_ f [4,.K [8,10,30,31,32] [23]] ?_
   cases h
   exact QU rfl rfl
  cases h
  exact QW rfl (an_ rfl rfl)
 replace h:Qfx u D=some r:=h
 rintro e σ ⟨rfl,rfl⟩
 obtain⟨H,J,h⟩:=Qb h
 refine Qa f [6,.frz 23 (D.map Qf) [10,48] []] rfl (a1_ (a2_ (QbU Qg) (QbU Qg))) ?_
 refine Qa f [.x (fun σ=>σ.put 50 (.tup [.sln β 1 (H.1.map (QdB β)),.I H.2])),7,.K [6,7] []] rfl (a1_ (Stp.callEB hβ (QaS.fn rfl (Qr.en rfl) rfl) rfl (QN f.n rfl) f.g (.cons (.dat _ rfl) (.cons (.dat _ rfl) (.cons (.clo _) .nil))) ((QmI β _ _ J).mono fun _ _ h=>h.1) (.inl ⟨rfl,rfl⟩))) ?_
 cases h
 exact AK.done (ex_ [_,_] (an_ (an_ rfl (an_ rfl tt_)) (gives tt_)))
theorem Qx4 (a b c){r}(h:QdO a b c=some r):Qc prog 12 [.agg (Qd a),.sl 1 (b.map Qf),.agg (Qk c)] [] (Gives (.tup [.sl 1 (r.1.map Qf),.I r.2]) []):=(QqO 0 a b c h).lo (by show V.tup [V.sl 1 ((r.1.map (QdB 0)).map (List.map V.lo1)),_]=_;rw [QA9 (g:=Qf) fun _=>rfl];rfl)
def Qee (c:Qq)(e:QMk)(d:Qp):Option (QMk×Int):=
 (QdN c e d).bind fun b=>
 bif (b.2 != 0)then
 some (([]:List QBg),b.2)
 else
 (QdO c b.1 d).bind fun a=>
 some (a.1,a.2)
theorem QjT (f k g){r}(h:Qee f k g=some r):Qc prog 16 [.agg (Qd f),.sl 1 (k.map Qf),.agg (Qk g)] [] (Gives (.tup [.sl 1 (r.1.map Qf),.I r.2]) []):=by
 refine wk_ 26 func16 fun C i=>?_
 obtain⟨l,j,h⟩:=Qb h
 refine Qa i [10,.A (Qd f),1,.A (Qk g),.o (.C3 (.tup [.sl 1 (l.1.map Qf),.I l.2])),14] rfl (a3_ rfl rfl (Qnn _ _ _ j)) ?_
 rcases Qo h with⟨a,h⟩|⟨a,h⟩
 ·refine Qa i [.T,9,.denil 6 [some 1]] rfl (a1_ a) ?_
  cases h
  exact d2_ tt_
 obtain⟨b,e,h⟩:=Qb h
 refine Qa i [.F,4,.A (Qd f),1,.A (Qk g),.o (.C3 (.tup [.sl 1 (b.1.map Qf),.I b.2])),7] rfl (a4_ a rfl rfl (Qx4 _ _ _ e)) ?_
 cases h
 exact d2_ tt_
def Qll (c:Qq)(d:QMk)(e:Qp):Option (QMk×Int):=
 (QcC c e).bind fun b=>
 bif (b.2 != 0)then
 some (([]:List QBg),b.2)
 else
 (Qa0 d b.1).bind fun a=>
 some (a.1,a.2)
theorem QrW (f k g){r}(h:Qll f k g=some r):Qc prog 14 [.agg (Qd f),.sl 1 (k.map Qf),.agg (Qk g)] [] (Gives (.tup [.sl 1 (r.1.map Qf),.I r.2]) []):=by
 refine wk_ 24 func14 fun C i=>?_
 obtain⟨l,j,h⟩:=Qb h
 refine Qa i [10,.A (Qd f),.A (Qk g),.o (.C2 (.tup [.sl 1 (l.1.map Qf),.I l.2])),14] rfl (a3_ rfl rfl (QqN _ _ j)) ?_
 rcases Qo h with⟨a,h⟩|⟨a,h⟩
 ·refine Qa i [.T,9,.denil 6 [some 1]] rfl (a1_ a) ?_
  cases h
  exact d2_ tt_
 obtain⟨b,e,h⟩:=Qb h
 refine Qa i [.F,6,.cm (.fn) [] [] [] [.d,.d,.d] [] (.tup [.sl 1 (b.1.map Qf),.I b.2]),7] rfl (a2_ a (QtF _ _ e)) ?_
 cases h
 exact d2_ tt_
def Qtu (e:(List Qp))(f:Qq)(b:QMk)(a:Int):Option ((QMk×Int)⊕((QMk×Int)⊕QMk)):=
 bif (decide (a<(e.length:Int)))then
 (idx e a).bind fun d=>
 (Qee f b d).bind fun c=>
 bif (c.2 != 0)then
 some (.inr (.inl (b,a)))
 else
 some (.inl (c.1,(w64 (a+1))))
 else
 some (.inr (.inr b))
def Qtv (a:QMk)(b:Int):Option (QMk×Int):=
 some (a,b)
def Qtw (b:(List Qp))(a:QMk):Option (QMk×Int):=
 some (a,(b.length:Int))
def Qxb (b:Qq)(c:QMk)(a:(List Qp)):Option (QMk×Int):=
 (Qlk c).bind fun d=>
 (Qy (fun st=>Qtu a b st.1 st.2) (d,0)).bind (Sum.elim (fun q=>Qtv q.1 q.2) (fun q=>Qtw a q))
theorem QyV (j z f){r}(h:Qxb j z f=some r):Qc prog 19 [.agg (Qd j),.sl 1 (z.map Qf),.sl 4 (f.map Qk)] [] (Gives (.tup [.sl 1 (r.1.map Qf),.I r.2]) []):=by
 refine wk_ 37 func19 fun C i=>?_
 obtain⟨s,t,h⟩:=Qb h
 refine Qa i [10,.o (.co false [.d] 1 (s.map Qf) s.length),7,.o (.ln f.length),4,.frz 13 (s.map Qf) [1] [],.K [1,2,3,14,15,16] [3]] rfl (a3_ ⟨(QrV _ t),Qg,.inl rfl⟩ Qg (a1_ (QbU Qg))) ?_
 obtain⟨u,k,h⟩:=Qb h
 refine AK.loop (body:=(fun st=>Qtu f j st.1 st.2)) (fun st σ=>σ=⟨[(1,.sl 1 (st.1.map Qf)),(2,.sl 4 (f.map Qk)),lk_ 3,(14,.sl 4 (f.map Qk)),(15,.I (f.length:Int)),(16,.I st.2)],[(3,.var (Qd j))]⟩) (Sum.elim (fun q e σ=>e=.ret/\σ=⟨[(6,.sl 1 (q.1.map Qf)),(7,.I q.2)],[]⟩) (fun q e σ=>e=.exit 0/\σ=⟨[(1,.sl 1 (q.map Qf)),(2,.sl 4 (f.map Qk))],[]⟩)) k rfl ?_ ?_
 ·rintro ⟨A,B⟩ o σ rfl h
  refine tg_ i [6] ?_
  rcases Qo h with⟨a,h⟩|⟨a,h⟩
  ·obtain⟨g,l,h⟩:=Qb h
   obtain⟨m,p,h⟩:=Qb h
   refine Qa i [.T,7,.o (.row (Qk g)),.A (Qk g),3,.O 9 (.var (Qk g)),4,.A (Qd j),1,.A (Qk g),.o (.C3 (.tup [.sl 1 (m.1.map Qf),.I m.2])),14] rfl (a7_ a (QF l) rfl rfl rfl rfl (QjT _ _ _ p)) ?_
   refine bq_ i h [.T,12,.K [6,7] []] rfl (fun b h=>?_) [.F,12,.K [1,2,3,14,15,16] [3]] rfl fun b h=>?_
   ·cases h
    exact Qab rfl (an_ rfl rfl)
   cases h
   exact QU rfl rfl
  refine Qa i [.F,2,.K [1,2] []] rfl (a1_ a) ?_
  cases h
  exact QW rfl (an_ rfl rfl)
 rcases u with(⟨w,x⟩|y)
 ·replace h:Qtv w x=some r:=h
  rintro e σ ⟨rfl,rfl⟩
  refine tg_ i [2] ?_
  cases h
  exact d2_ tt_
 replace h:Qtw f y=some r:=h
 rintro e σ ⟨rfl,rfl⟩
 refine Qa i [6,.o (.ln f.length),5] rfl (a1_ Qg) ?_
 cases h
 exact d2_ tt_
def QqP (a:Qq)(b:QG):Option (Qq×QG):=
 some (a,b)
theorem Quq (a b){r}(h:QqP a b=some r):Qc prog 153 [.agg (Qd a),.agg (Qm b)] [] (Gives (.clo (.func 199) [] [.L 3,.L 2]) [(2,.var (Qd r.1)),(3,.var (Qm r.2))]):=by
 refine wk_ 6 func153 fun C c=>?_
 refine tg_ c [14] ?_
 cases h
 exact d1_ r2_
def Qfk (a:QLL):Option QLL:=
 (chk (decide ((([]:List (List Int)).length+a.length)*24<=140737488355328))).bind fun _=>
 some (([]:List (List Int))++a)
theorem Qno (b){r}(h:Qfk b=some r):Qc prog 155 [.sl 1 (b.map Qz)] [] (Gives (.own 600 r.length) [(600,.arr 1 (r.map Qz))]):=by
 refine wk_ 8 func155 fun C a=>?_
 unfold Qfk at h
 refine tg_ a [9] ?_
 refine AK.eqNil rfl rfl rfl (QN a.n rfl) rfl rfl QDV ?_ ?_
 ·intro c
  replace h:some ([]:List (List Int))=some r:=by simpa [chk,List.map_eq_nil_iff.1 c] using h
  refine Qa a [10,.adopt 2 600 1,.O 600 (.arr 1 (([]:List (List Int)).map Qz)),.S 2 (.own 600 ([]:List (List Int)).length)] rfl (a2_ rfl rfl) ?_
  cases h
  exact d1_ r1_
 obtain⟨d,h⟩:=Qaq h
 refine Qa a [8,.O 5 (.arr 1 (([]:List (List Int)).map Qz)),.S 5 (.own 5 ([]:List (List Int)).length),1,.x (fun σ=>σ.app 5 1 7 (([]:List (List Int))++b).length ((([]:List (List Int))++b).map Qz)),4,.K [2] [5],.ren 5 600] rfl (a3_ rfl rfl (Stp.appSB (by_:=24) (zs:=[.lit (.slice none 0 0)]) (e:=29) (e':=29) (z':=1) (by':=24) rfl rfl (QN a.n rfl) rfl rfl rfl Qg (by kernel_rfl) (by kernel_rfl) (by kernel_rfl) rfl (by decide) (by decide) (Qvd d Qg) rfl Qao (Qbq Qg))) ?_
 cases h
 exact d1_ r1_
def Qnp (a:(List Int))(b:QO):Option Bool:=
 (Qam b a).bind fun c=>
 some (c != 0)
theorem Qoz (a e){r}(h:Qnp a e=some r):Qc prog 156 [.sl 1 (a.map Qe),.L 617] [(617,.var (Qu e))] (Gives (.b r) [(617,.var (Qu e))]):=by
 refine wk_ 8 func156 fun C g=>?_
 obtain⟨i,f,h⟩:=Qb h
 refine Qa g [7,.A (Qu e),1,.o (.C2 (.I i)),5] rfl (a2_ rfl (Qlj _ _ f)) ?_
 cases h
 exact d1_ r1_
def QfI (c:QLL)(d:QO)(a:Int):Option (Int⊕(Int⊕Unit)):=
 bif (decide (a<(c.length:Int)))then
 (idx c a).bind fun e=>
 (Qnp e d).bind fun b=>
 bif b then
 some (.inr (.inl a))
 else
 some (.inl (w64 (a+1)))
 else
 some (.inr (.inr ()))
def QfJ (a:Int):Option Int:=
 some a
def QfK : Option Int:=
 some (-1)
def QgW (a:QLL)(b:QO):Option Int:=
 (Qy (fun st=>QfI a b st) 0).bind (Sum.elim (fun q=>QfJ q) (fun q=>QfK))
theorem QlX (c f){r}(h:QgW c f=some r):Qc prog 190 [.own 617 c.length,.clo (.func 156) [] [.L 618]] [(617,.arr 1 (c.map Qz)),(618,.var (Qu f))] (Gives (.I r) [(617,.arr 1 (c.map Qz)),(618,.var (Qu f))]):=by
 refine wk_ 19 func190 fun C g=>?_
 refine tg_ g [14,.K [0,1,7,8] [617,618]] ?_
 obtain⟨m,j,h⟩:=Qb h
 refine AK.loop (body:=(fun st=>QfI c f st)) (fun st σ=>σ=⟨[(0,.own 617 c.length),(1,.clo (.func 156) [] [.L 618]),(7,.I (c.length:Int)),(8,.I st)],[(617,.arr 1 (c.map Qz)),(618,.var (Qu f))]⟩) (Sum.elim (fun q e σ=>e=.ret/\σ=⟨[(4,.I q)],[(617,.arr 1 (c.map Qz)),(618,.var (Qu f))]⟩) (fun q e σ=>e=.exit 0/\σ=⟨[],[(617,.arr 1 (c.map Qz)),(618,.var (Qu f))]⟩)) j rfl ?_ ?_
 ·rintro u o σ rfl h
  refine tg_ g [6] ?_
  rcases Qo h with⟨i,h⟩|⟨i,h⟩
  ·obtain⟨s,k,h⟩:=Qb h
   obtain⟨p,l,h⟩:=Qb h
   refine Qa g [.T,16,.o (.row (Qz s)),.cm (.clo) [(617,618)] [(618,617)] [] [.d,.d] [(617,.var (Qu f))] (.b p),2] rfl (a4_ i (Qc3 k rfl) (QbO (Qck k).2) (Qoz _ _ l)) ?_
   refine bq_ g h [.T,9,.K [4] [617,618]] rfl (fun a h=>?_) [.F,7,.K [0,1,7,8] [617,618]] rfl fun a h=>?_
   ·cases h
    exact Qab rfl (an_ rfl rfl)
   cases h
   exact QU rfl rfl
  refine Qa g [.F,2,.K [] [617,618]] rfl (a1_ i) ?_
  cases h
  exact QW rfl (an_ rfl rfl)
 rcases m with(t | _)
 ·replace h:QfJ t=some r:=h
  rintro e σ ⟨rfl,rfl⟩
  refine tg_ g [2] ?_
  cases h
  exact d1_ r2_
 replace h:QfK=some r:=h
 rintro e σ ⟨rfl,rfl⟩
 refine tg_ g [8] ?_
 cases h
 exact d1_ r2_
def Qdc (a:Int)(b:Int)(c:QLL):Option ((Int×Int×QLL)⊕(Int×QLL)):=
 some (.inl (b,(w64 (a+1)),c))
def Qfq (f:QO)(c:Int)(b:Int)(a:QLL):Option ((Int×Int×QLL)⊕(Int×QLL)):=
 bif (decide (b<(a.length:Int)))then
 (idx a b).bind fun d=>
 (Qnp d f).bind fun e=>
 bif (!e)then
 (idx a c).bind fun g=>
 Qdc b (w64 (c+1)) (a.set c.toNat d)
 else
 Qdc b c a
 else
 some (.inr (c,a))
def Qfr (a:Int)(b:QLL):Option QLL:=
 (chk (decide (0<=a)&&decide (a.toNat<=b.length))).bind fun _=>
 (chk (decide (0<=a)&&decide (a.toNat<=(b.take a.toNat++List.replicate (b.length-a.toNat) (([]:(List Int)):(List Int))).length))).bind fun _=>
 some ((b.take a.toNat++List.replicate (b.length-a.toNat) (([]:(List Int)):(List Int))).take a.toNat)
def Qgw (a:QLL)(c:QO):Option QLL:=
 (QgW a c).bind fun b=>
 bif (b==(-1))then
 some a
 else
 (Qy (fun st=>Qfq c st.1 st.2.1 st.2.2) (b,(w64 (b+1)),a)).bind (fun q=>Qfr q.1 q.2)
theorem Qlm (E p){r}(h:Qgw E p=some r):Qc prog 154 [.own 617 E.length,.clo (.func 156) [] [.L 618]] [(617,.arr 1 (E.map Qz)),(618,.var (Qu p))] (Gives (.own 617 r.length) [(617,.arr 1 (r.map Qz)),(618,.var (Qu p))]):=by
 refine wk_ 42 func154 fun C g=>?_
 obtain⟨O,G,h⟩:=Qb h
 refine Qa g [9,.cm (.fn) [(617,617),(618,618)] [(617,617),(618,618)] [] [.d,.d] [(617,.arr 1 (E.map Qz)),(618,.var (Qu p))] (.I O),10] rfl (a1_ (QlX _ _ G)) ?_
 refine bq_ g h [.T,8,.K [4] [617,618]] rfl (fun v h=>?_) [.F,11,.K [0,1,5,6] [617,618]] rfl fun v h=>?_
 ·cases h
  exact d1_ r2_
 obtain⟨H,z,h⟩:=Qb h
 refine AK.loop (body:=(fun st=>Qfq p st.1 st.2.1 st.2.2)) (fun st σ=>σ=⟨[(0,.own 617 st.2.2.length),(1,.clo (.func 156) [] [.L 618]),(5,.I st.1),(6,.I st.2.1)],[(617,.arr 1 (st.2.2.map Qz)),(618,.var (Qu p))]⟩) (fun q e σ=>e=.exit 0/\σ=⟨[(0,.own 617 q.2.length),(5,.I q.1)],[(617,.arr 1 (q.2.map Qz)),(618,.var (Qu p))]⟩) z rfl ?_ ?_
 ·rintro ⟨M,A,B⟩ o σ rfl h
  refine tg_ g [9] ?_
  refine bq_ g h [.T,2] rfl (fun k h=>?_) [.F,2,.K [0,5] [617,618]] rfl fun k h=>?_
  ·refine AK.meet (fun σ=>∃w:Int,∃s:QLL,σ=⟨[(0,.own 617 s.length),(1,.clo (.func 156) [] [.L 618]),(5,.I w),(6,.I A)],[(617,.arr 1 (s.map Qz)),(618,.var (Qu p))]⟩/\Qdc A w s=some o) ?_ ?_
   ·obtain⟨y,t,h⟩:=Qb h
    obtain⟨J,D,h⟩:=Qb h
    refine Qa g [6,.o (.row (Qz y)),7,.cm (.clo) [(617,618)] [(618,617)] [] [.d,.d] [(617,.var (Qu p))] (.b J),3] rfl (a3_ (Qc3 t rfl) (QbO (Qck t).2) (Qoz _ _ D)) ?_
    rcases Qo h with⟨m,h⟩|⟨m,h⟩
    ·obtain⟨L,u,h⟩:=Qb h
     refine Qa g [.T,6,.st (Qz L) ((B.set M.toNat y).map Qz),8,.S 0 (.own 617 (B.set M.toNat y).length),.K [0,1,5,6] [617,618]] rfl (a4_ m (Qc3 u rfl) ⟨(QbO (Qck u).2),Qin rfl⟩ (congrArg (fun n=>V.own 617 n) (by simp))) ?_
     exact AK.met (ex_ _ (ex_ _ (an_ rfl h)))
    refine Qa g [.F,2,.K [0,1,5,6] [617,618]] rfl (a1_ m) ?_
    exact AK.met (ex_ _ (ex_ _ (an_ rfl h)))
   rintro σ ⟨w,s,rfl,h⟩
   refine tg_ g [5,.K [0,1,5,6] [617,618]] ?_
   cases h
   exact QU rfl rfl
  cases h
  exact QW rfl (an_ rfl rfl)
 obtain⟨a,c⟩:=H
 replace h:Qfr a c=some r:=h
 rintro e σ ⟨rfl,rfl⟩
 refine tg_ g [6] ?_
 obtain⟨i,h⟩:=Qaq h
 refine AK.clearTail (b:=617) (l:=a.toNat) (n:=c.length) rfl rfl rfl rfl rfl rfl (QN g.n rfl) rfl rfl Qg (Qr.es rfl) QDa rfl rfl rfl (Bnd.val rfl (Qai (Qud i)) rfl) (Qai (QnR i)) rfl ?_
 refine AK.denilA (b:=617) [some 1] rfl (QDQ (f:=Qz) (x:=(([]:(List Int)):(List Int))) (fun _=>rfl) rfl) ?_
 obtain⟨j,h⟩:=Qaq h
 refine Qa g [.S 0 (.own 617 (c.take a.toNat++List.replicate (c.length-a.toNat) (([]:(List Int)):(List Int))).length),.S 36 (.own 617 (c.take a.toNat++List.replicate (c.length-a.toNat) (([]:(List Int)):(List Int))).length),6] rfl (a2_ (QBQ (Qai (QnR i))) (QBQ (Qai (QnR i)))) ?_
 have N:a.toNat=((c.take a.toNat++List.replicate (c.length-a.toNat) (([]:(List Int)):(List Int))).take a.toNat).length:=by rw [QeR,Nat.min_eq_left (Qai (QnR j))]
 refine Qa g [.x (fun σ=>(σ.set 617 (.arr 1 (((c.take a.toNat++List.replicate (c.length-a.toNat) (([]:(List Int)):(List Int))).take a.toNat).map Qz))).put 41 (.own 617 a.toNat)),.S 41 (.own 617 ((c.take a.toNat++List.replicate (c.length-a.toNat) (([]:(List Int)):(List Int))).take a.toNat).length),4] rfl (a2_ (Stp.sliceO rfl rfl (QN g.n rfl) rfl rfl (Qr.es rfl) Bnd.no (Bnd.val rfl (Qai (Qud j)) rfl) (Qai (QnR j)) (by simp)) (QDJ (Qai (QnR j)))) ?_
 cases h
 exact d1_ r2_
def QpL (a:(Int×QO)):Option Bool:=
 bif (a.1 != 0)then
 some true
 else
 (Qaf a.2).bind fun b=>
 some (b != 0)
def QfL (a:Int)(b:(List Qp)):Option ((Int×(List Qp))⊕((List Qp)⊕(List Qp))):=
 some (.inl ((w64 (a+1)),b))
def QjU (f:QLL)(j:(List Int))(h:(List Int))(g:Int)(k:Int)(e:Int)(a:(List Qp)):Option ((Int×(List Qp))⊕((List Qp)⊕(List Qp))):=
 bif (decide (e<(f.length:Int)))then
 (idx f e).bind fun i=>
 (QaF j).bind fun b=>
 (QaF h).bind fun c=>
 (QaF i).bind fun d=>
 (chk (decide (a.length+([(Qp.mk g b c d)]:List Qp).length<=4294967296))).bind fun _=>
 bif (((a++[(Qp.mk g b c d)]).length:Int)==k)then
 some (.inr (.inl (a++[(Qp.mk g b c d)])))
 else
 some (.inl ((w64 (e+1)),(a++[(Qp.mk g b c d)])))
 else
 some (.inr (.inr a))
def QjV (a:(List Qp)):Option ((Int×(List Qp))⊕((List Qp)⊕(List Qp))):=
 some (.inr (.inl a))
def QfM (a:Int)(b:(List Qp)):Option ((Int×(List Qp))⊕((List Qp)⊕(List Qp))):=
 QfL a b
def QjW (g:QLL)(d:(Int×QO))(e:QLL)(h:(List Int))(i:Int)(j:Int)(a:Int)(b:(List Qp)):Option ((Int×(List Qp))⊕((List Qp)⊕(List Qp))):=
 bif (decide (a<(g.length:Int)))then
 (idx g a).bind fun c=>
 (Qae d.2 c).bind fun f=>
 bif (f != 0)then
 QfL a b
 else
 (Qy (fun st=>QjU e h c i j st.1 st.2) (0,b)).bind (Sum.elim (fun q=>QjV q) (fun q=>QfM a q))
 else
 some (.inr (.inr b))
def QjX (a:(List Qp)):Option ((List Qp)⊕(List Qp)):=
 some (.inl a)
def QjY (a:(List Qp)):Option ((List Qp)⊕(List Qp)):=
 some (.inr a)
def QfN (e:(List Qp))(f:QLL)(a:(Int×QO))(g:QLL)(h:(List Int))(i:Int)(j:Int)(b:Bool):Option ((List Qp)⊕(List Qp)):=
 bif b then
 some (.inr e)
 else
 (Qfk f).bind fun c=>
 (Qgw c a.2).bind fun d=>
 (Qy (fun st=>QjW g a d h i j st.1 st.2) (0,e)).bind (Sum.elim (fun q=>QjX q) (fun q=>QjY q))
def Ql9 (e:Qq)(f:QMk)(c:Int)(g:Int)(k:(List Qp))(h:QLL)(i:QLL)(j:(List Qp))(d:(List Int)):Option ((List Qp)⊕(List Qp)):=
 (QbQ e f c d).bind fun a=>
 (QpL a).bind (fun b=>QfN j i a h d c g b)
theorem QjZ (lpl lpf:Nat)(y:Qq)(z:QMk)(k:Int)(w:Int)(l:(List Qp))(j:QLL)(x:QLL)(W:(List Qp))(A:(List Int)){r:((List Qp)⊕(List Qp))}(h:Ql9 y z k w l j x W A=some r):QnS prog lpl (QaI lpf) (QEW (.L 618) (.L 619) (.L 620) (.L 621) (.L 622) (.L 623) (.L 624) (.L 625) (.sl 1 (A.map Qe))) [(617,.lp lpl (QaI lpf) (Qeh (.L 618) (.L 619) (.L 620) (.L 621) (.L 622) (.L 623) (.L 624) (.L 625)) 0),(618,.var (Qd y)),(619,.var (Qak z)),(620,.var (Qe k)),(621,.var (Qe w)),(622,.var [.own 615 l.length]),(615,.arr 4 (l.map Qk)),(623,.var (QT j)),(624,.var (QT x)),(625,.var [.own 616 W.length]),(616,.arr 4 (W.map Qk))] ((Sum.elim (fun q=>(Gives (.b false) [(615,.arr 4 (l.map Qk)),(616,.arr 4 (q.map Qk)),(617,.lp lpl (QaI lpf) (Qeh (.L 618) (.L 619) (.L 620) (.L 621) (.L 622) (.L 623) (.L 624) (.L 625)) 2),(618,.var (Qd y)),(619,.var (Qak z)),(620,.var (Qe k)),(621,.var (Qe w)),(622,.var [.own 616 q.length]),(623,.var (QT j)),(624,.var (QT x)),(625,.var [.own 616 q.length])])) (fun q=>(Gives (.b true) [(615,.arr 4 (l.map Qk)),(616,.arr 4 (q.map Qk)),(617,.lp lpl (QaI lpf) (Qeh (.L 618) (.L 619) (.L 620) (.L 621) (.L 622) (.L 623) (.L 624) (.L 625)) 0),(618,.var (Qd y)),(619,.var (Qak z)),(620,.var (Qe k)),(621,.var (Qe w)),(622,.var [.own 615 l.length]),(623,.var (QT j)),(624,.var (QT x)),(625,.var [.own 616 q.length])]))) r):=by
 refine QnS.walk (b:=617) 109 rfl rfl fun C i=>?_
 refine tg_ i [3] ?_
 refine AK.done (an_ rfl (ex_ _ (an_ rfl ?_)))
 obtain⟨f,Z,h⟩:=Qb h
 refine Qa i [3,.A (Qd y),3,.o (.C4 (.tup [.agg (Qu f.2),.I f.1])),5,.O 14 (.var (Qu f.2)),5] rfl (a3_ rfl (QqJ _ _ _ _ Z) rfl) ?_
 obtain⟨X,a0,h⟩:=Qb h
 replace h:QfN W x f j A k w X=some r:=h
 refine AK.meetX (fun σ=>σ=⟨[(6,.L 620),(7,.L 621),(8,.L 622),(10,.L 623),(11,.L 624),(12,.L 625),(13,.sl 1 (A.map Qe)),lk_ 14,(69,.b X)],[(14,.var (Qu f.2)),(615,.arr 4 (l.map Qk)),(616,.arr 4 (W.map Qk)),(617,.lp lpl (QaI lpf) (Qeh (.L 618) (.L 619) (.L 620) (.L 621) (.L 622) (.L 623) (.L 624) (.L 625)) 1),(618,.var (Qd y)),(619,.var (Qak z)),(620,.var (Qe k)),(621,.var (Qe w)),(622,.var [.own 615 l.length]),(623,.var (QT j)),(624,.var (QT x)),(625,.var [.own 616 W.length])]⟩) ?_ ?_
 ·replace h:=a0
  refine tg_ i [4] ?_
  rcases Qo h with⟨B,h⟩|⟨B,h⟩
  ·refine Qa i [.S 65 (.b true),5,.K [6,7,8,10,11,12,13,14,69] [14,615,616,617,618,619,620,621,622,623,624,625]] rfl (tc_ B) ?_
   cases h
   exact mt_
  obtain⟨b3,a1,h⟩:=Qb h
  refine Qa i [.S 65 (.b false),.A (Qu f.2),.o (.C1 (.I b3)),3,.K [6,7,8,10,11,12,13,14,69] [14,615,616,617,618,619,620,621,622,623,624,625]] rfl ⟨⟨(tc_ B),rfl⟩,(QjO _ a1)⟩ ?_
  cases h
  exact mt_
 rintro σ rfl
 replace h:QfN W x f j A k w X=some r:=h
 refine tg_ i [1] ?_
 rcases Qo h with⟨D,h⟩|⟨D,h⟩
 ·refine Qa i [.T,3,.K [] [615,616,617,618,619,620,621,622,623,624,625]] rfl (a1_ D) ?_
  cases h
  refine AK.done ?_
  exact ex_ _ (an_ rfl (gives rB_))
 obtain⟨a2,a3,h⟩:=Qb h
 obtain⟨g,a4,h⟩:=Qb h
 refine Qa i [.F,5,.o (.co false [.d] 1 (a2.map Qz) a2.length),1,.cm (.fn) [(617,71),(618,14)] [(71,617),(14,618)] [] [.d,.d] [(617,.arr 1 (g.map Qz)),(618,.var (Qu f.2))] (.own 617 g.length),6,.o (.ln j.length),4,.K [6,7,8,12,13,14,16,74,75,76] [14,71,615,616,617,618,619,620,621,622,623,624,625]] rfl (a4_ D ⟨(Qno _ a3),Qg,.inl rfl⟩ (Qlm _ _ a4) Qg) ?_
 obtain⟨b4,a5,h⟩:=Qb h
 refine AK.loop (body:=(fun st=>QjW j f g A k w st.1 st.2)) (fun st σ=>σ=⟨[(6,.L 620),(7,.L 621),(8,.L 622),(12,.L 625),(13,.sl 1 (A.map Qe)),lk_ 14,(16,.own 71 g.length),(74,.sl 1 (j.map Qz)),(75,.I (j.length:Int)),(76,.I st.1)],[(14,.var (Qu f.2)),(71,.arr 1 (g.map Qz)),(615,.arr 4 (l.map Qk)),(616,.arr 4 (st.2.map Qk)),(617,.lp lpl (QaI lpf) (Qeh (.L 618) (.L 619) (.L 620) (.L 621) (.L 622) (.L 623) (.L 624) (.L 625)) 1),(618,.var (Qd y)),(619,.var (Qak z)),(620,.var (Qe k)),(621,.var (Qe w)),(622,.var [.own 615 l.length]),(623,.var (QT j)),(624,.var (QT x)),(625,.var [.own 616 st.2.length])]⟩) (Sum.elim (fun q e σ=>e=.ret/\σ=⟨[],[(615,.arr 4 (l.map Qk)),(616,.arr 4 (q.map Qk)),(617,.lp lpl (QaI lpf) (Qeh (.L 618) (.L 619) (.L 620) (.L 621) (.L 622) (.L 623) (.L 624) (.L 625)) 1),(618,.var (Qd y)),(619,.var (Qak z)),(620,.var (Qe k)),(621,.var (Qe w)),(622,.var [.own 616 q.length]),(623,.var (QT j)),(624,.var (QT x)),(625,.var [.own 616 q.length])]⟩) (fun q e σ=>e=.exit 2/\σ=⟨[],[(615,.arr 4 (l.map Qk)),(616,.arr 4 (q.map Qk)),(617,.lp lpl (QaI lpf) (Qeh (.L 618) (.L 619) (.L 620) (.L 621) (.L 622) (.L 623) (.L 624) (.L 625)) 1),(618,.var (Qd y)),(619,.var (Qak z)),(620,.var (Qe k)),(621,.var (Qe w)),(622,.var [.own 615 l.length]),(623,.var (QT j)),(624,.var (QT x)),(625,.var [.own 616 q.length])]⟩)) a5 rfl ?_ ?_
 ·rintro ⟨E,c2⟩ o σ rfl h
  refine tg_ i [6] ?_
  refine bq_ i h [.T,2] rfl (fun G h=>?_) [.F,2,.K [] [615,616,617,618,619,620,621,622,623,624,625]] rfl fun G h=>?_
  ·refine AK.meet (fun σ=>∃M:(List Qp),σ=⟨[(6,.L 620),(7,.L 621),(8,.L 622),(12,.L 625),(13,.sl 1 (A.map Qe)),lk_ 14,(16,.own 71 g.length),(74,.sl 1 (j.map Qz)),(75,.I (j.length:Int)),(76,.I E)],[(14,.var (Qu f.2)),(71,.arr 1 (g.map Qz)),(615,.arr 4 (l.map Qk)),(616,.arr 4 (M.map Qk)),(617,.lp lpl (QaI lpf) (Qeh (.L 618) (.L 619) (.L 620) (.L 621) (.L 622) (.L 623) (.L 624) (.L 625)) 1),(618,.var (Qd y)),(619,.var (Qak z)),(620,.var (Qe k)),(621,.var (Qe w)),(622,.var [.own 615 l.length]),(623,.var (QT j)),(624,.var (QT x)),(625,.var [.own 616 M.length])]⟩/\QfL E M=some o) ?_ ?_
   ·obtain⟨Y,a6,h⟩:=Qb h
    obtain⟨b5,a7,h⟩:=Qb h
    refine Qa i [3,.o (.row (Qz Y)),7,.A (Qu f.2),1,.o (.C2 (.I b5)),3] rfl (a3_ (QF a6) rfl (Qli _ _ a7)) ?_
    refine bq_ i h [.T,3,.K [6,7,8,12,13,14,16,74,75,76] [14,71,615,616,617,618,619,620,621,622,623,624,625]] rfl (fun H h=>?_) [.F,10,.K [6,7,8,12,13,14,16,18,74,75,76,84,85,86] [14,71,615,616,617,618,619,620,621,622,623,624,625]] rfl fun H h=>?_
    ·exact AK.met (ex_ _ (an_ rfl h))
    obtain⟨b6,a8,h⟩:=Qb h
    refine AK.loop (body:=(fun st=>QjU g A Y k w st.1 st.2)) (fun st σ=>σ=⟨[(6,.L 620),(7,.L 621),(8,.L 622),(12,.L 625),(13,.sl 1 (A.map Qe)),lk_ 14,(16,.own 71 g.length),(18,.sl 1 (Y.map Qe)),(74,.sl 1 (j.map Qz)),(75,.I (j.length:Int)),(76,.I E),(84,.own 71 g.length),(85,.I (g.length:Int)),(86,.I st.1)],[(14,.var (Qu f.2)),(71,.arr 1 (g.map Qz)),(615,.arr 4 (l.map Qk)),(616,.arr 4 (st.2.map Qk)),(617,.lp lpl (QaI lpf) (Qeh (.L 618) (.L 619) (.L 620) (.L 621) (.L 622) (.L 623) (.L 624) (.L 625)) 1),(618,.var (Qd y)),(619,.var (Qak z)),(620,.var (Qe k)),(621,.var (Qe w)),(622,.var [.own 615 l.length]),(623,.var (QT j)),(624,.var (QT x)),(625,.var [.own 616 st.2.length])]⟩) (Sum.elim (fun q e σ=>e=.ret/\σ=⟨[],[(615,.arr 4 (l.map Qk)),(616,.arr 4 (q.map Qk)),(617,.lp lpl (QaI lpf) (Qeh (.L 618) (.L 619) (.L 620) (.L 621) (.L 622) (.L 623) (.L 624) (.L 625)) 1),(618,.var (Qd y)),(619,.var (Qak z)),(620,.var (Qe k)),(621,.var (Qe w)),(622,.var [.own 616 q.length]),(623,.var (QT j)),(624,.var (QT x)),(625,.var [.own 616 q.length])]⟩) (fun q e σ=>e=.exit 4/\σ=⟨[(6,.L 620),(7,.L 621),(8,.L 622),(12,.L 625),(13,.sl 1 (A.map Qe)),lk_ 14,(16,.own 71 g.length),(74,.sl 1 (j.map Qz)),(75,.I (j.length:Int)),(76,.I E)],[(14,.var (Qu f.2)),(71,.arr 1 (g.map Qz)),(615,.arr 4 (l.map Qk)),(616,.arr 4 (q.map Qk)),(617,.lp lpl (QaI lpf) (Qeh (.L 618) (.L 619) (.L 620) (.L 621) (.L 622) (.L 623) (.L 624) (.L 625)) 1),(618,.var (Qd y)),(619,.var (Qak z)),(620,.var (Qe k)),(621,.var (Qe w)),(622,.var [.own 615 l.length]),(623,.var (QT j)),(624,.var (QT x)),(625,.var [.own 616 q.length])]⟩)) a8 rfl ?_ ?_
    ·rintro ⟨c3,P⟩ o σ rfl h
     refine tg_ i [6] ?_
     rcases Qo h with⟨J,h⟩|⟨J,h⟩
     ·obtain⟨b7,U,h⟩:=Qb h
      obtain⟨p,a9,h⟩:=Qb h
      obtain⟨t,b0,h⟩:=Qb h
      obtain⟨u,b1,h⟩:=Qb h
      obtain⟨b2,h⟩:=Qaq h
      refine Qa i [.T,7,.o (.row (Qz b7)),4,.K [6,7,8,12,13,14,16,18,20,74,75,76,84,85,86] [14,71,615,616,617,618,619,620,621,622,623,624,625]] rfl (a3_ J (Qc3 U rfl) (QbO (Qck U).2)) ?_
      refine AK.draw2 Qr i mixed [.N,.N,.N,.a (.cd false [.d] 1 (p.map Qe) p.length) none false,.N,.a (.cd false [.d] 1 (t.map Qe) t.length) none false,.N,.a (.cd false [.d] 1 (u.map Qe) u.length) none false,.a .no (some ([],.agg (Qk (Qp.mk k p t u)))) false,.a (.bd []) (some ([],.sl 4 (([(Qp.mk k p t u)]:List Qp).map Qk))) false,.m (.app ((P++[(Qp.mk k p t u)]).map Qk) (P++[(Qp.mk k p t u)]).length),.m .s] [] [] [6,7,8,12,13,14,16,18,74,75,76,84,85,86] [14,71,615,616,617,618,619,620,621,622,623,624,625] rfl rfl rfl ⟨⟨⟨⟨⟨⟨tt_,⟨(Qct _ a9),Qg⟩⟩,⟨(Qct _ b0),Qg⟩⟩,⟨(Qct _ b1),Qg⟩⟩,rfl⟩,rfl⟩,⟨Qg,Qba b2 Qg,Qao,Qbq Qg⟩⟩ rfl (by kernel_rfl) rfl rfl rfl ?_
      refine Qa i [.O 625 (.var [.own 616 (P++[(Qp.mk k p t u)]).length]),9] rfl (a1_ rfl) ?_
      refine bg_ h (fun L h=>Qa i [.T,4,.O 622 (.var [.own 616 (P++[(Qp.mk k p t u)]).length]),5,.K [] [615,616,617,618,619,620,621,622,623,624,625]] rfl (a2_ L rfl) ?_) fun L h=>Qa i [.F,7,.K [6,7,8,12,13,14,16,18,74,75,76,84,85,86] [14,71,615,616,617,618,619,620,621,622,623,624,625]] rfl (a1_ L) ?_
      ·cases h
       exact Qab rfl (an_ rfl rfl)
      cases h
      exact QU rfl rfl
     refine Qa i [.F,2,.K [6,7,8,12,13,14,16,74,75,76] [14,71,615,616,617,618,619,620,621,622,623,624,625]] rfl (a1_ J) ?_
     cases h
     exact QW rfl (an_ rfl rfl)
    rcases b6 with(b8 | b9)
    ·replace h:QjV b8=some o:=h
     rintro e σ ⟨rfl,rfl⟩
     refine tg_ i [3,.K [] [615,616,617,618,619,620,621,622,623,624,625]] ?_
     cases h
     exact Qab rfl (an_ rfl rfl)
    replace h:QfM E b9=some o:=h
    unfold QfM at h
    rintro e σ ⟨rfl,rfl⟩
    refine tg_ i [2,.K [6,7,8,12,13,14,16,74,75,76] [14,71,615,616,617,618,619,620,621,622,623,624,625]] ?_
    exact AK.met (ex_ _ (an_ rfl h))
   rintro σ ⟨M,rfl,h⟩
   refine tg_ i [4,.K [6,7,8,12,13,14,16,74,75,76] [14,71,615,616,617,618,619,620,621,622,623,624,625]] ?_
   cases h
   exact QU rfl rfl
  cases h
  exact QW rfl (an_ rfl rfl)
 rcases b4 with(c0 | c1)
 ·replace h:QjX c0=some r:=h
  rintro e σ ⟨rfl,rfl⟩
  refine tg_ i [2,.K [] [615,616,617,618,619,620,621,622,623,624,625]] ?_
  cases h
  refine AK.done ?_
  exact ex_ _ (an_ rfl (gives rB_))
 replace h:QjY c1=some r:=h
 rintro e σ ⟨rfl,rfl⟩
 refine tg_ i [2,.K [] [615,616,617,618,619,620,621,622,623,624,625]] ?_
 cases h
 refine AK.done ?_
 exact ex_ _ (an_ rfl (gives rB_))
def QaU (c:(List QE))(a:Int):Option Int:=
 (Qc7 c a).bind fun b=>
 bif (!b.1)then
 some 0
 else
 (idx b.2.sizes a).bind fun d=>
 some d
theorem QhU (j k){r}(h:QaU j k=some r):Qc prog 53 [.sl 7 (j.map Qs),.I k] [] (Gives (.I r) []):=by
 refine wk_ 20 func53 fun C e=>?_
 obtain⟨f,g,h⟩:=Qb h
 refine Qa e [9,.o (.C2 (.tup [.agg (Q3 f.2),.b f.1])),5,.O 5 (.var (Q3 f.2)),10] rfl (a2_ (Qnk _ _ g) rfl) ?_
 rcases Qo h with⟨a,h⟩|⟨a,h⟩
 ·refine Qa e [.T,7] rfl (a1_ a) ?_
  cases h
  exact d1_ tt_
 obtain⟨l,i,h⟩:=Qb h
 refine Qa e [.F,7,.o (.row (Qe l)),5] rfl (a2_ a (QF i)) ?_
 cases h
 exact d1_ tt_
def QmJ (a:(List Qp)):Option (((List Int)×(List Qp))⊕((List Qp)⊕(List Qp))):=
 some (.inr (.inr a))
def Qs0 (at_25:Int)(a:(List Int))(f:QG)(b:Qq):Option Bool:=
 bif (decide (0<=at_25))then
 (idx a at_25).bind fun c=>
 (idx f.Vars at_25).bind fun d=>
 (QaU b.Colours d.Colour).bind fun e=>
 some (decide (e<=(w64 (c+1))))
 else
 some false
def QhV (a:(List Int))(at_25:Int)(b:Bool):Option ((Int×(List Int))⊕(Int×(List Int))):=
 bif b then
 (idx a at_25).bind fun c=>
 some (.inl ((w64 (at_25-1)),(a.set at_25.toNat 0)))
 else
 some (.inr (at_25,a))
def QmK (d:QG)(b:Qq)(at_25:Int)(a:(List Int)):Option ((Int×(List Int))⊕(Int×(List Int))):=
 (Qs0 at_25 a d b).bind (fun c=>QhV a at_25 c)
def QmL (b:(List Qp))(at_29:Int)(a:(List Int)):Option (((List Int)×(List Qp))⊕((List Qp)⊕(List Qp))):=
 bif (decide (at_29<0))then
 some (.inr (.inl b))
 else
 (idx a at_29).bind fun c=>
 (idx a at_29).bind fun d=>
 some (.inl ((a.set at_29.toNat (w64 (c+1))),b))
def QmM (d:QG)(b:Qq)(a:(List Int))(c:(List Qp)):Option (((List Int)×(List Qp))⊕((List Qp)⊕(List Qp))):=
 (Qy (fun st=>QmK d b st.1 st.2) ((w64 ((a.length:Int)-1)),a)).bind (fun q=>QmL c q.1 q.2)
def QmN (e:Qq)(f:QMk)(g:Int)(h:Int)(i:(List Qp))(j:QLL)(k:QLL)(l:QG)(b:Qq)(a:(List Int))(c:(List Qp)):Option (((List Int)×(List Qp))⊕((List Qp)⊕(List Qp))):=
 (QaF a).bind fun d=>
 (Ql9 e f g h i j k c d).bind (Sum.elim (fun q=>QmJ q) (fun q=>QmM l b a q))
def QmO (a:(List Qp)):Option ((List Qp)⊕(List Qp)):=
 some (.inl a)
def QmP (a:(List Qp)):Option ((List Qp)⊕(List Qp)):=
 some (.inr a)
def QoA (c:Qq)(d:QMk)(e:Int)(f:Int)(g:(List Qp))(h:QLL)(i:QLL)(j:(List Qp))(a:QG)(b:Qq):Option ((List Qp)⊕(List Qp)):=
 (chk (decide (0<=(a.Vars.length:Int))&&decide ((a.Vars.length:Int)<=(a.Vars.length:Int))&&decide ((a.Vars.length:Int)<=4294967296))).bind fun _=>
 (Qy (fun st=>QmN c d e f g h i a b st.1 st.2) ((List.replicate (a.Vars.length:Int).toNat (0:Int)),j)).bind (Sum.elim (fun q=>QmO q) (fun q=>QmP q))
theorem QmQ (lpl lpf:Nat)(m:Qq)(p:QMk)(s:Int)(t:Int)(j:(List Qp))(u:QLL)(v:QLL)(l8:(List Qp))(l:QG)(f:Qq){r:((List Qp)⊕(List Qp))}(h:QoA m p s t j u v l8 l f=some r):Qc prog 199 [.clo (.yield lpl) [] [],.L 626,.L 627] [(617,.lp lpl (QaI lpf) (Qeh (.L 618) (.L 619) (.L 620) (.L 621) (.L 622) (.L 623) (.L 624) (.L 625)) 0),(618,.var (Qd m)),(619,.var (Qak p)),(620,.var (Qe s)),(621,.var (Qe t)),(622,.var [.own 615 j.length]),(615,.arr 4 (j.map Qk)),(623,.var (QT u)),(624,.var (QT v)),(625,.var [.own 616 l8.length]),(616,.arr 4 (l8.map Qk)),(626,.var (Qm l)),(627,.var (Qd f))] ((Sum.elim (fun q=>(Gives (.tup []) [(615,.arr 4 (j.map Qk)),(616,.arr 4 (q.map Qk)),(617,.lp lpl (QaI lpf) (Qeh (.L 618) (.L 619) (.L 620) (.L 621) (.L 622) (.L 623) (.L 624) (.L 625)) 0),(618,.var (Qd m)),(619,.var (Qak p)),(620,.var (Qe s)),(621,.var (Qe t)),(622,.var [.own 615 j.length]),(623,.var (QT u)),(624,.var (QT v)),(625,.var [.own 616 q.length]),(626,.var (Qm l)),(627,.var (Qd f))])) (fun q=>(Gives (.tup []) [(615,.arr 4 (j.map Qk)),(616,.arr 4 (q.map Qk)),(617,.lp lpl (QaI lpf) (Qeh (.L 618) (.L 619) (.L 620) (.L 621) (.L 622) (.L 623) (.L 624) (.L 625)) 2),(618,.var (Qd m)),(619,.var (Qak p)),(620,.var (Qe s)),(621,.var (Qe t)),(622,.var [.own 616 q.length]),(623,.var (QT u)),(624,.var (QT v)),(625,.var [.own 616 q.length]),(626,.var (Qm l)),(627,.var (Qd f))]))) r):=by
 refine wk_ 50 func199 fun C k=>?_
 obtain⟨W,h⟩:=Qaq h
 refine Qa k [4,.o (.ln l.Vars.length),.o (.rows ((List.replicate (l.Vars.length:Int).toNat (0:Int)).map Qe)),.S 9 (.own 9 (List.replicate (l.Vars.length:Int).toNat (0:Int)).length),4,.K [0,1,2,4] [9,615,616,617,618,619,620,621,622,623,624,625,626,627]] rfl (a3_ Qg ⟨W,QBz rfl⟩ (by simp)) ?_
 obtain⟨a4,X,h⟩:=Qb h
 refine AK.loop (body:=(fun st=>QmN m p s t j u v l f st.1 st.2)) (fun st σ=>σ=⟨[(0,.clo (.yield lpl) [] []),(1,.L 626),(2,.L 627),(4,.own 9 st.1.length)],[(9,.arr 1 (st.1.map Qe)),(615,.arr 4 (j.map Qk)),(616,.arr 4 (st.2.map Qk)),(617,.lp lpl (QaI lpf) (Qeh (.L 618) (.L 619) (.L 620) (.L 621) (.L 622) (.L 623) (.L 624) (.L 625)) 0),(618,.var (Qd m)),(619,.var (Qak p)),(620,.var (Qe s)),(621,.var (Qe t)),(622,.var [.own 615 j.length]),(623,.var (QT u)),(624,.var (QT v)),(625,.var [.own 616 st.2.length]),(626,.var (Qm l)),(627,.var (Qd f))]⟩) (Sum.elim (fun q e σ=>e=.ret/\σ=⟨[],[(615,.arr 4 (j.map Qk)),(616,.arr 4 (q.map Qk)),(617,.lp lpl (QaI lpf) (Qeh (.L 618) (.L 619) (.L 620) (.L 621) (.L 622) (.L 623) (.L 624) (.L 625)) 0),(618,.var (Qd m)),(619,.var (Qak p)),(620,.var (Qe s)),(621,.var (Qe t)),(622,.var [.own 615 j.length]),(623,.var (QT u)),(624,.var (QT v)),(625,.var [.own 616 q.length]),(626,.var (Qm l)),(627,.var (Qd f))]⟩) (fun q e σ=>e=.ret/\σ=⟨[],[(615,.arr 4 (j.map Qk)),(616,.arr 4 (q.map Qk)),(617,.lp lpl (QaI lpf) (Qeh (.L 618) (.L 619) (.L 620) (.L 621) (.L 622) (.L 623) (.L 624) (.L 625)) 2),(618,.var (Qd m)),(619,.var (Qak p)),(620,.var (Qe s)),(621,.var (Qe t)),(622,.var [.own 616 q.length]),(623,.var (QT u)),(624,.var (QT v)),(625,.var [.own 616 q.length]),(626,.var (Qm l)),(627,.var (Qd f))]⟩)) X rfl ?_ ?_
 ·rintro ⟨Y,b4⟩ o σ rfl h
  obtain⟨L,Z,h⟩:=Qb h
  obtain⟨a5,D,h⟩:=Qb h
  refine Qa k [6,.o (.co true [.o (Y.map Qe)] 1 (L.map Qe) L.length),.frz 12 (L.map Qe) [12] []] rfl (a2_ ⟨(Qva rfl),⟨(Qct _ Z),Qg,.inr (QBS _)⟩⟩ (a1_ (QbU Qg))) ?_
  rcases a5 with(w | i)
  ·replace h:QmJ w=some o:=h
   refine Qa k [.x (fun σ=>(σ.after [615,616] [(615,.arr 4 (j.map Qk)),(616,.arr 4 (w.map Qk)),(617,.lp lpl (QaI lpf) (Qeh (.L 618) (.L 619) (.L 620) (.L 621) (.L 622) (.L 623) (.L 624) (.L 625)) 2),(618,.var (Qd m)),(619,.var (Qak p)),(620,.var (Qe s)),(621,.var (Qe t)),(622,.var [.own 616 w.length]),(623,.var (QT u)),(624,.var (QT v)),(625,.var [.own 616 w.length])]).put 13 (.b false)),7,.K [] [615,616,617,618,619,620,621,622,623,624,625,626,627]] rfl (a1_ (Stp.yieldV (b:=617) (M:=[(617,617),(618,618),(619,619),(620,620),(621,621),(622,622),(615,615),(623,623),(624,624),(625,625),(616,616)]) (N:=[(615,615),(616,616),(617,617),(618,618),(619,619),(620,620),(621,621),(622,622),(623,623),(624,624),(625,625)]) (dead:=[615,616]) (ms:=[.d,.d,.d,.d,.d,.d,.d,.d,.d,.d,.d,.d,.d,.d,.d,.d,.d,.d,.d,.d,.d,.d,.d,.d,.d,.d,.d,.d,.d,.d,.d,.d,.d,.d,.d,.d,.d,.d,.d,.d,.d,.d,.d,.d,.d,.d,.d,.d,.d,.d,.d,.d,.d,.d,.d,.d,.d,.d,.d,.d,.d,.d,.d,.d,.d,.d,.d,.d,.d,.d,.d,.d,.d,.d,.d,.d,.d,.d,.d,.d,.d,.d,.d,.d,.d,.d,.d,.d,.d,.d,.d,.d,.d,.d,.d,.d,.d,.d,.d,.d,.d,.d,.d,.d,.d,.d,.d,.d,.d]) (outs:=[(615,.arr 4 (j.map Qk)),(616,.arr 4 (w.map Qk)),(617,.lp lpl (QaI lpf) (Qeh (.L 618) (.L 619) (.L 620) (.L 621) (.L 622) (.L 623) (.L 624) (.L 625)) 2),(618,.var (Qd m)),(619,.var (Qak p)),(620,.var (Qe s)),(621,.var (Qe t)),(622,.var [.own 616 w.length]),(623,.var (QT u)),(624,.var (QT v)),(625,.var [.own 616 w.length])]) (r:=.b false) rfl rfl rfl rfl rfl rfl rfl (QN k.n rfl) k.g rfl rfl (QjZ _ _ _ _ _ _ _ _ _ _ _ D))) ?_
   cases h
   exact Qab rfl (an_ rfl rfl)
  replace h:QmM l f Y i=some o:=h
  refine Qa k [.x (fun σ=>(σ.after [615,616] [(615,.arr 4 (j.map Qk)),(616,.arr 4 (i.map Qk)),(617,.lp lpl (QaI lpf) (Qeh (.L 618) (.L 619) (.L 620) (.L 621) (.L 622) (.L 623) (.L 624) (.L 625)) 0),(618,.var (Qd m)),(619,.var (Qak p)),(620,.var (Qe s)),(621,.var (Qe t)),(622,.var [.own 615 j.length]),(623,.var (QT u)),(624,.var (QT v)),(625,.var [.own 616 i.length])]).put 13 (.b true)),16,.K [0,1,2,4,5] [9,615,616,617,618,619,620,621,622,623,624,625,626,627]] rfl (a1_ (Stp.yieldV (b:=617) (M:=[(617,617),(618,618),(619,619),(620,620),(621,621),(622,622),(615,615),(623,623),(624,624),(625,625),(616,616)]) (N:=[(615,615),(616,616),(617,617),(618,618),(619,619),(620,620),(621,621),(622,622),(623,623),(624,624),(625,625)]) (dead:=[615,616]) (ms:=[.d,.d,.d,.d,.d,.d,.d,.d,.d,.d,.d,.d,.d,.d,.d,.d,.d,.d,.d,.d,.d,.d,.d,.d,.d,.d,.d,.d,.d,.d,.d,.d,.d,.d,.d,.d,.d,.d,.d,.d,.d,.d,.d,.d,.d,.d,.d,.d,.d,.d,.d,.d,.d,.d,.d,.d,.d,.d,.d,.d,.d,.d,.d,.d,.d,.d,.d,.d,.d,.d,.d,.d,.d,.d,.d,.d,.d,.d,.d,.d,.d,.d,.d,.d,.d,.d,.d,.d,.d,.d,.d,.d,.d,.d,.d,.d,.d,.d,.d,.d,.d,.d,.d,.d,.d,.d,.d,.d,.d]) (outs:=[(615,.arr 4 (j.map Qk)),(616,.arr 4 (i.map Qk)),(617,.lp lpl (QaI lpf) (Qeh (.L 618) (.L 619) (.L 620) (.L 621) (.L 622) (.L 623) (.L 624) (.L 625)) 0),(618,.var (Qd m)),(619,.var (Qak p)),(620,.var (Qe s)),(621,.var (Qe t)),(622,.var [.own 615 j.length]),(623,.var (QT u)),(624,.var (QT v)),(625,.var [.own 616 i.length])]) (r:=.b true) rfl rfl rfl rfl rfl rfl rfl (QN k.n rfl) k.g rfl rfl (QjZ _ _ _ _ _ _ _ _ _ _ _ D))) ?_
  obtain⟨a6,a0,h⟩:=Qb h
  refine AK.loop (body:=(fun st=>QmK l f st.1 st.2)) (fun st σ=>σ=⟨[(0,.clo (.yield lpl) [] []),(1,.L 626),(2,.L 627),(4,.own 9 st.2.length),(5,.I st.1)],[(9,.arr 1 (st.2.map Qe)),(615,.arr 4 (j.map Qk)),(616,.arr 4 (i.map Qk)),(617,.lp lpl (QaI lpf) (Qeh (.L 618) (.L 619) (.L 620) (.L 621) (.L 622) (.L 623) (.L 624) (.L 625)) 0),(618,.var (Qd m)),(619,.var (Qak p)),(620,.var (Qe s)),(621,.var (Qe t)),(622,.var [.own 615 j.length]),(623,.var (QT u)),(624,.var (QT v)),(625,.var [.own 616 i.length]),(626,.var (Qm l)),(627,.var (Qd f))]⟩) (fun q e σ=>e=.exit 2/\σ=⟨[(0,.clo (.yield lpl) [] []),(1,.L 626),(2,.L 627),(4,.own 9 q.2.length),(5,.I q.1)],[(9,.arr 1 (q.2.map Qe)),(615,.arr 4 (j.map Qk)),(616,.arr 4 (i.map Qk)),(617,.lp lpl (QaI lpf) (Qeh (.L 618) (.L 619) (.L 620) (.L 621) (.L 622) (.L 623) (.L 624) (.L 625)) 0),(618,.var (Qd m)),(619,.var (Qak p)),(620,.var (Qe s)),(621,.var (Qe t)),(622,.var [.own 615 j.length]),(623,.var (QT u)),(624,.var (QT v)),(625,.var [.own 616 i.length]),(626,.var (Qm l)),(627,.var (Qd f))]⟩) a0 rfl ?_ ?_
  ·rintro ⟨at_25,y⟩ o σ rfl h
   refine tg_ k [2] ?_
   obtain⟨O,a1,h⟩:=Qb h
   replace h:QhV y at_25 O=some o:=h
   refine AK.meetX (fun σ=>σ=⟨[(0,.clo (.yield lpl) [] []),(1,.L 626),(2,.L 627),(4,.own 9 y.length),(5,.I at_25),(36,.b O)],[(9,.arr 1 (y.map Qe)),(615,.arr 4 (j.map Qk)),(616,.arr 4 (i.map Qk)),(617,.lp lpl (QaI lpf) (Qeh (.L 618) (.L 619) (.L 620) (.L 621) (.L 622) (.L 623) (.L 624) (.L 625)) 0),(618,.var (Qd m)),(619,.var (Qak p)),(620,.var (Qe s)),(621,.var (Qe t)),(622,.var [.own 615 j.length]),(623,.var (QT u)),(624,.var (QT v)),(625,.var [.own 616 i.length]),(626,.var (Qm l)),(627,.var (Qd f))]⟩) ?_ ?_
   ·replace h:=a1
    refine tg_ k [.K [0,1,2,4,5] [9,615,616,617,618,619,620,621,622,623,624,625,626,627]] ?_
    rcases Qo h with⟨z,h⟩|⟨z,h⟩
    ·obtain⟨a7,E,h⟩:=Qb h
     obtain⟨a8,a2,h⟩:=Qb h
     obtain⟨a9,a3,h⟩:=Qb h
     refine AK.draw2 Qr k mixed [.N,.N,.a .no (some ([],.b true)) false,.N,.N,.N,.a (.row (Qe a7)) none false,.N,.N,.N,.N,.N,.N,.a (.row (QL a8)) none false,.N,.N,.a (.C2 (.I a9)) none false,.N,.N] [] [] [0,1,2,4,5,36] [9,615,616,617,618,619,620,621,622,623,624,625,626,627] rfl rfl rfl ⟨⟨⟨⟨(tc_ z),(Qc3 E rfl)⟩,(QbO (Qck E).2)⟩,(QF a2)⟩,(QhU _ _ a3)⟩ rfl (by kernel_rfl) rfl rfl rfl ?_
     refine tg_ k [.K [0,1,2,4,5,36] [9,615,616,617,618,619,620,621,622,623,624,625,626,627]] ?_
     cases h
     exact mt_
    refine AK.draw2 Qr k mixed [.N,.N,.a .no (some ([],.b false)) false,.N,.N,.N,.N,.N,.N,.N,.N,.N,.N,.N,.N,.N,.N,.N,.N] [] [] [0,1,2,4,5,36] [9,615,616,617,618,619,620,621,622,623,624,625,626,627] rfl rfl rfl (tc_ z) rfl (by kernel_rfl) rfl rfl rfl ?_
    refine tg_ k [.K [0,1,2,4,5,36] [9,615,616,617,618,619,620,621,622,623,624,625,626,627]] ?_
    cases h
    exact mt_
   rintro σ rfl
   replace h:QhV y at_25 O=some o:=h
   refine tg_ k [1] ?_
   rcases Qo h with⟨A,h⟩|⟨A,h⟩
   ·obtain⟨b0,G,h⟩:=Qb h
    refine Qa k [.T,8,.st (Qe b0) ((y.set at_25.toNat 0).map Qe),8,.S 4 (.own 9 (y.set at_25.toNat 0).length),.K [0,1,2,4,5] [9,615,616,617,618,619,620,621,622,623,624,625,626,627]] rfl (a4_ A (Qc3 G rfl) ⟨(QbO (Qck G).2),Qin rfl⟩ (congrArg (fun n=>V.own 9 n) (by simp))) ?_
    cases h
    exact QU rfl rfl
   refine Qa k [.F,2,.K [0,1,2,4,5] [9,615,616,617,618,619,620,621,622,623,624,625,626,627]] rfl (a1_ A) ?_
   cases h
   exact QW rfl (an_ rfl rfl)
  obtain⟨at_29,P⟩:=a6
  replace h:QmL i at_29 P=some o:=h
  rintro e σ ⟨rfl,rfl⟩
  refine tg_ k [9] ?_
  rcases Qo h with⟨B,h⟩|⟨B,h⟩
  ·refine Qa k [.T,3,.K [] [615,616,617,618,619,620,621,622,623,624,625,626,627]] rfl (a1_ B) ?_
   cases h
   exact Qab rfl (an_ rfl rfl)
  obtain⟨U,H,h⟩:=Qb h
  obtain⟨b1,J,h⟩:=Qb h
  refine Qa k [.F,6,.o (.row (Qe U)),2,.st (Qe b1) ((P.set at_29.toNat (w64 (U+1))).map Qe),2,.S 4 (.own 9 (P.set at_29.toNat (w64 (U+1))).length),.K [0,1,2,4] [9,615,616,617,618,619,620,621,622,623,624,625,626,627]] rfl (a6_ B (Qc3 H rfl) (QbO (Qck H).2) (Qc3 J rfl) ⟨(QbO (Qck J).2),Qin rfl⟩ (congrArg (fun n=>V.own 9 n) (by simp))) ?_
  cases h
  exact QU rfl rfl
 rcases a4 with(b2 | b3)
 ·replace h:QmO b2=some r:=h
  rintro e σ ⟨rfl,rfl⟩
  refine tg_ k [1,.K [] [615,616,617,618,619,620,621,622,623,624,625,626,627]] ?_
  cases h
  refine AK.done ?_
  exact ex_ [] (an_ tt_ (gives rD_))
 replace h:QmP b3=some r:=h
 rintro e σ ⟨rfl,rfl⟩
 refine tg_ k [1,.K [] [615,616,617,618,619,620,621,622,623,624,625,626,627]] ?_
 cases h
 refine AK.done ?_
 exact ex_ [] (an_ tt_ (gives rD_))
def QqQ (a:(List Qp)):Option (List Qp):=
 some a
def QqR (a:(List Qp)):Option (List Qp):=
 some a
def QpM (e:Qq)(h:QMk)(a:Int)(b:Int):Option (List Qp):=
 bif ((decide (a<0))||((decide ((e.Tasks.length:Int)<=a))||(decide (b<1))))then
 some ([]:List Qp)
 else
 (idx e.Tasks a).bind fun c=>
 (QaC c.Join (c.Ins.length:Int)).bind fun f=>
 (QaC c.Split (c.Outs.length:Int)).bind fun g=>
 (QqP e c).bind fun d=>
 (QoA e h a b ([]:List Qp) f g ([]:List Qp) d.2 d.1).bind (Sum.elim (fun q=>QqQ q) (fun q=>QqR q))
theorem Qxc (k y c e){r}(h:QpM k y c e=some r):Qc prog 88 [.agg (Qd k),.sl 1 (y.map Qf),.I c,.I e] [] (Gives (.sl 4 (r.map Qk)) []):=by
 refine Qc.walkR 109 func88 rfl ntmps88 rfl fun C f hR=>?_
 unfold QpM at h
 refine tg_ f [11] ?_
 refine AK.meetX (fun σ=>σ=⟨[lk_ 4,lk_ 5,lk_ 6,lk_ 7,lk_ 8,(33,.b ((decide (c<0))||((decide ((k.Tasks.length:Int)<=c))||(decide (e<1)))))],[(4,.var (Qd k)),(5,.var (Qak y)),(6,.var (Qe c)),(7,.var (Qe e)),(8,.var [.lit (.slice none 0 0)])]⟩) ?_ ?_
 ·refine tg_ f [4] ?_
  rcases QD (decide (c<0))with g | g
  ·refine Qa f [.S 23 (.b true),11,.S 33 (.b ((decide (c<0))||((decide ((k.Tasks.length:Int)<=c))||(decide (e<1))))),.K [4,5,6,7,8,33] [4,5,6,7,8]] rfl ⟨(tc_ g),(congrArg V.b (orT g rfl))⟩ ?_
   exact mt_
  refine Qa f [.S 23 (.b false),3,.o (.ln k.Tasks.length),3] rfl ⟨(tc_ g),Qg⟩ ?_
  rcases QD (decide ((k.Tasks.length:Int)<=c))with l | l
  ·refine Qa f [.S 30 (.b true),4,.S 33 (.b ((decide (c<0))||((decide ((k.Tasks.length:Int)<=c))||(decide (e<1))))),.K [4,5,6,7,8,33] [4,5,6,7,8]] rfl ⟨(tc_ l),(congrArg V.b (orF g (orT l rfl)))⟩ ?_
   exact mt_
  refine Qa f [.S 30 (.b false),4,.S 33 (.b ((decide (c<0))||((decide ((k.Tasks.length:Int)<=c))||(decide (e<1))))),.K [4,5,6,7,8,33] [4,5,6,7,8]] rfl ⟨(tc_ l),(congrArg V.b (orF g (orF l rfl)))⟩ ?_
  exact mt_
 rintro σ rfl
 refine tg_ f [1] ?_
 rcases Qo h with⟨p,h⟩|⟨p,h⟩
 ·refine Qa f [.T,3,.O 8 (.var [.lit (.slice none 0 0)]),4,.denilO 8 [some 4],.O 8 (.var (QBc ([]:List Qp))),.K [8] [8]] rfl (a3_ p rfl rfl) ?_
  cases h
  exact AK.done (ex_ [_] (an_ (an_ (ex_ _ (ex_ _ (an_ rfl (an_ rfl (Or.inr (an_ (Qr.ag rfl) rfl)))))) tt_) (gives tt_)))
 obtain⟨i,z,h⟩:=Qb h
 obtain⟨q,A,h⟩:=Qb h
 obtain⟨t,B,h⟩:=Qb h
 refine Qa f [.F,7,.o (.row (Qm i)),.A (Qm i),2,.O 9 (.var (Qm i)),3,.K [4,5,6,7,8,9] [4,5,6,7,8,9]] rfl (a4_ p (QF z) rfl rfl) ?_
 refine AK.draw2 Qr f mixed [.N,.N,.N,.N,.a (.ln i.Ins.length) none false,.a (.cd false [.d,.d] 1 (q.map Qz) q.length) none false,.N,.N,.N,.N,.a (.ln i.Outs.length) none false,.a (.cd false [.d,.d] 1 (t.map Qz) t.length) none false,.N,.N,.m .s,.m .s] [] [] [4,5,6,7,8,9,10,11] [4,5,6,7,8,9,10,11] rfl rfl rfl ⟨⟨⟨⟨tt_,Qg⟩,⟨(Qk3 _ _ A),Qg⟩⟩,Qg⟩,⟨(Qk3 _ _ B),Qg⟩⟩ rfl (by kernel_rfl) rfl rfl rfl ?_
 obtain⟨j,D,h⟩:=Qb h
 refine Qa f [.O 10 (.var (QT q)),.O 11 (.var (QT t)),9,.A (Qd k),.A (Qm i),.cm (.fn) [] [(53,2),(610,3)] [] [.d,.d] [(2,.var (Qd j.1)),(3,.var (Qm j.2))] (.clo (.func 199) [] [.L 3,.L 2]),3,.K [4,5,6,7,8,10,11,12,53] [4,5,6,7,8,10,11,12,53,610]] rfl (a5_ rfl rfl rfl rfl (Quq _ _ D)) ?_
 obtain⟨E,x,h⟩:=Qb h
 refine Qa f [.adoptO 8 0 608 4,.O 608 (.arr 4 (([]:List Qp).map Qk)),.O 8 (.var [.own 608 ([]:List Qp).length]),.adoptO 12 0 609 4,.O 609 (.arr 4 (([]:List Qp).map Qk)),.O 12 (.var [.own 609 ([]:List Qp).length])] rfl (a4_ rfl rfl rfl rfl) ?_
 rcases E with(u | w)
 ·replace h:QqQ u=some r:=h
  refine AK.rangeF 614 [4,5,6,7,8,10,11,12] [(617,614),(618,4),(619,5),(620,6),(621,7),(622,8),(615,608),(623,10),(624,11),(625,12),(616,609),(626,610),(627,53)] [(608,615),(609,616),(614,617),(4,618),(5,619),(6,620),(7,621),(8,622),(10,623),(11,624),(12,625),(610,626),(53,627)] [608,609] [.d,.d,.d] QaI f hR (fun _=>rfl) rfl rfl rfl rfl fun lpl lpf=>?_
  refine ex_ [(615,.arr 4 (([]:List Qp).map Qk)),(616,.arr 4 (u.map Qk)),(617,.lp lpl (QaI lpf) (Qeh (.L 618) (.L 619) (.L 620) (.L 621) (.L 622) (.L 623) (.L 624) (.L 625)) 0),(618,.var (Qd k)),(619,.var (Qak y)),(620,.var (Qe c)),(621,.var (Qe e)),(622,.var [.own 615 ([]:List Qp).length]),(623,.var (QT q)),(624,.var (QT t)),(625,.var [.own 616 u.length]),(626,.var (Qm j.2)),(627,.var (Qd j.1))] (ex_ (.tup []) (ex_ _ (ex_ _ (ex_ (Qeh (.L 4) (.L 5) (.L 6) (.L 7) (.L 8) (.L 10) (.L 11) (.L 12)) (ex_ 0 (an_ rfl ?_))))))
  refine an_ (QmQ _ _ _ _ _ _ _ _ _ _ _ _ x) (an_ rfl (an_ (bne_iff_ne.1 (show(0 != 1)=true from rfl)) ?_))
  refine QDO rfl ?_
  refine Qa f [6,.O 8 (.var [.own 609 u.length]),3,.frz 609 (u.map Qk) [] [8],.K [8] [8]] rfl (a2_ rfl (a1_ ⟨(QbU Qg),tt_⟩)) ?_
  cases h
  exact AK.done (ex_ [_] (an_ (an_ (ex_ _ (ex_ _ (an_ rfl (an_ rfl (Or.inr (an_ (Qr.ag rfl) rfl)))))) tt_) (gives tt_)))
 replace h:QqR w=some r:=h
 refine AK.rangeF 614 [4,5,6,7,8,10,11,12] [(617,614),(618,4),(619,5),(620,6),(621,7),(622,8),(615,608),(623,10),(624,11),(625,12),(616,609),(626,610),(627,53)] [(608,615),(609,616),(614,617),(4,618),(5,619),(6,620),(7,621),(8,622),(10,623),(11,624),(12,625),(610,626),(53,627)] [608,609] [.d,.d,.d] QaI f hR (fun _=>rfl) rfl rfl rfl rfl fun lpl lpf=>?_
 refine ex_ [(615,.arr 4 (([]:List Qp).map Qk)),(616,.arr 4 (w.map Qk)),(617,.lp lpl (QaI lpf) (Qeh (.L 618) (.L 619) (.L 620) (.L 621) (.L 622) (.L 623) (.L 624) (.L 625)) 2),(618,.var (Qd k)),(619,.var (Qak y)),(620,.var (Qe c)),(621,.var (Qe e)),(622,.var [.own 616 w.length]),(623,.var (QT q)),(624,.var (QT t)),(625,.var [.own 616 w.length]),(626,.var (Qm j.2)),(627,.var (Qd j.1))] (ex_ (.tup []) (ex_ _ (ex_ _ (ex_ (Qeh (.L 4) (.L 5) (.L 6) (.L 7) (.L 8) (.L 10) (.L 11) (.L 12)) (ex_ 2 (an_ rfl ?_))))))
 refine an_ (QmQ _ _ _ _ _ _ _ _ _ _ _ _ x) (an_ rfl (an_ (bne_iff_ne.1 (show(2 != 1)=true from rfl)) ?_))
 refine QES rfl ?_
 refine Qa f [3,.frz 609 (w.map Qk) [] [8],.K [8] [8]] rfl (a1_ (a1_ ⟨(QbU Qg),tt_⟩)) ?_
 cases h
 exact AK.done (ex_ [_] (an_ (an_ (ex_ _ (ex_ _ (an_ rfl (an_ rfl (Or.inr (an_ (Qr.ag rfl) rfl)))))) tt_) (gives tt_)))
def Qtx (e:Qq)(f:QMk)(a:Int)(d:Int)(c:(List Qp)):Option ((Int×(List Qp))⊕(List Qp)):=
 bif (decide (d<(e.Tasks.length:Int)))then
 (QpM e f d (w64 (a-(c.length:Int)))).bind fun b=>
 (chk (decide (c.length+b.length<=4294967296))).bind fun _=>
 some (.inl ((w64 (d+1)),(c++b)))
 else
 some (.inr c)
def Qty (a:(List Qp)):Option (List Qp):=
 some a
def Qxd (b:Qq)(c:QMk)(a:Int):Option (List Qp):=
 (Qy (fun st=>Qtx b c a st.1 st.2) (0,([]:List Qp))).bind (fun q=>Qty q)
theorem QyW (f m a){r}(h:Qxd f m a=some r):Qc prog 45 [.agg (Qd f),.sl 1 (m.map Qf),.I a] [] (Gives (.own 600 r.length) [(600,.arr 4 (r.map Qk))]):=by
 refine wk_ 27 func45 fun C i=>?_
 refine Qa i [16,.o (.ln f.Tasks.length),4,.adopt 7 15 4,.O 15 (.arr 4 (([]:List Qp).map Qk)),.S 7 (.own 15 ([]:List Qp).length),.K [1,2,3,7,11,12] [3,15]] rfl (a3_ Qg rfl (congrArg (fun n=>V.own 15 n) (by simp))) ?_
 obtain⟨p,j,h⟩:=Qb h
 refine AK.loop (body:=(fun st=>Qtx f m a st.1 st.2)) (fun st σ=>σ=⟨[(1,.sl 1 (m.map Qf)),(2,.I a),lk_ 3,(7,.own 15 st.2.length),(11,.I (f.Tasks.length:Int)),(12,.I st.1)],[(3,.var (Qd f)),(15,.arr 4 (st.2.map Qk))]⟩) (fun q e σ=>e=.exit 0/\σ=⟨[(7,.own 15 q.length)],[(15,.arr 4 (q.map Qk))]⟩) j rfl ?_ ?_
 ·rintro ⟨t,s⟩ o σ rfl h
  refine tg_ i [6] ?_
  rcases Qo h with⟨b,h⟩|⟨b,h⟩
  ·obtain⟨g,k,h⟩:=Qb h
   obtain⟨l,h⟩:=Qaq h
   refine Qa i [.T,12,.A (Qd f),6,.o (.C4 (.sl 4 (g.map Qk))),.app ((s++g).map Qk) (s++g).length,8,.K [1,2,3,7,11,12] [3,15]] rfl (a4_ b rfl (Qxc _ _ _ _ k) ⟨Qg,Qba l Qg,Qao,Qbq Qg⟩) ?_
   cases h
   exact QU rfl rfl
  refine Qa i [.F,2,.K [7] [15]] rfl (a1_ b) ?_
  cases h
  exact QW rfl (an_ rfl rfl)
 replace h:Qty p=some r:=h
 rintro e σ ⟨rfl,rfl⟩
 refine tg_ i [9,.K [6] [15],.ren 15 600] ?_
 cases h
 exact d1_ r1_

end Go.Proofs
