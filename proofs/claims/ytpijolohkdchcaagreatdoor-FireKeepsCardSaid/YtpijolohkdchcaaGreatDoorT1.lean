/- What functions of the program do, as functions over plain data, and the walks that show it: printed by a program. -/
import Derived.Test.YtpijolohkdchcaaGreatDoorXVm5
import Derived.Test.YtpijolohkdchcaaGreatDoorProg
set_option linter.unusedVariables false
set_option linter.unusedSimpArgs false
set_option linter.unusedSectionVars false
set_option linter.deprecated false
set_option maxRecDepth 100000
set_option maxHeartbeats 4000000
noncomputable section
namespace Go.Proofs
open Go Go.RowKit Go.Vm
structure Qy where
 Name:ByteArray
 Kind:Int
 Lo:Int
 Hi:Int
 Names:(List ByteArray)
 First:Int
 Then:Int
structure QA where
 Name:ByteArray
 Colour:Int
 First:(List (Int×Int))
structure TVar where
 Name:ByteArray
 Colour:Int
structure Qf where
 Kind:Int
 Num:Int
 Kids:(List Qf)
structure TArc where
 Place:Int
 Expr:Qf
structure Qr where
 Name:ByteArray
 Vars:(List TVar)
 Guard:Qf
 Join:Int
 Split:Int
 Ins:(List TArc)
 Outs:(List TArc)
 Cancel:(List Int)
 After:Int
 Many:(Int×Int×Int)
structure TNet where
 Colours:(List Qy)
 Places:(List QA)
 Tasks:(List Qr)
 From:Int
 To:Int
structure Qk where
 Task:Int
 Vars:(List Int)
 Ins:(List Int)
 Outs:(List Int)
structure QB where
 net:TNet
 m:(List (List (Int×Int)))
 task:Qr
 env:(List Int)
structure Qaa where
 all:(List Qy)
 sizes:(List Int)
 k:Int
structure QdO where
 Kind:Int
 At:Int
def Qdv (x:ByteArray):List V:=[.s x]
def Qe (x:Int):List V:=[.i .i64 x]
theorem QtR (l:List Int):∀r∈l.map Qe,∀v∈r,v.sca=true:=QuZ (fun _=>rfl) l
def Qvo (x:(List ByteArray)):List V:=[.sl 1 (x.map Qdv)]
def Qu (x:Qy):List V:=[.s x.Name,.i .i64 x.Kind,.i .i64 x.Lo,.i .i64 x.Hi,.sl 1 (x.Names.map Qdv),.i .i64 x.First,.i .i64 x.Then]
def Qsl (x:(List Qy)):List V:=[.sl 7 (x.map Qu)]
def Qt (x:(Int×Int)):List V:=[.i .i64 x.1,.i .i64 x.2]
def Qg (x:(List (Int×Int))):List V:=[.sl 2 (x.map Qt)]
def Qs (x:QA):List V:=[.s x.Name,.i .i64 x.Colour,.sl 2 (x.First.map Qt)]
def QsH (x:(List QA)):List V:=[.sl 3 (x.map Qs)]
def QC (x:TVar):List V:=[.s x.Name,.i .i64 x.Colour]
def Qbv (x:(List TVar)):List V:=[.sl 2 (x.map QC)]
mutual
def Qnm : Qf→List V
 | ⟨x0,x1,x2⟩=>[.i .i64 x0,.i .i64 x1,.sl 3 (QaF x2)]
def QaF : List Qf→List (List V)
 | []=>[]
 | e::es=>Qnm e::QaF es
end
def Ql (x:Qf):List V:=[.i .i64 x.Kind,.i .i64 x.Num,.sl 3 (QaF x.Kids)]
theorem QrD : ∀x:Qf,Qnm x=Ql x
 | ⟨x0,x1,x2⟩=>by rw [Qnm];rfl
theorem Qik : ∀l:List Qf,QaF l=l.map Ql
 | []=>by rw [QaF];rfl
 | e::es=>by rw [QaF,Qik es,QrD];rfl
theorem Qil (l:List Qf):(QaF l).length=l.length:=by rw [Qik,List.length_map]
theorem Qdw {l:List Qf}{j:Int}{x:Qf}(h:idx l j=some x):0≤j∧(QaF l)[j.toNat]? = some (Ql x):=by rw [Qik];exact idxM h
def QN (x:TArc):List V:=[.i .i64 x.Place,.i .i64 x.Expr.Kind,.i .i64 x.Expr.Num,.sl 3 (QaF x.Expr.Kids)]
def QtS (x:(List TArc)):List V:=[.sl 4 (x.map QN)]
def Qw (x:(List Int)):List V:=[.sl 1 (x.map Qe)]
def Qq1 (x:(Int×Int×Int)):List V:=[.i .i64 x.1,.i .i64 x.2.1,.i .i64 x.2.2]
def Qi (x:Qr):List V:=[.s x.Name,.sl 2 (x.Vars.map QC),.i .i64 x.Guard.Kind,.i .i64 x.Guard.Num,.sl 3 (QaF x.Guard.Kids),.i .i64 x.Join,.i .i64 x.Split,.sl 4 (x.Ins.map QN),.sl 4 (x.Outs.map QN),.sl 1 (x.Cancel.map Qe),.i .i64 x.After,.i .i64 x.Many.1,.i .i64 x.Many.2.1,.i .i64 x.Many.2.2]
def Qtk (x:(List Qr)):List V:=[.sl 14 (x.map Qi)]
def Qd (x:TNet):List V:=[.sl 7 (x.Colours.map Qu),.sl 3 (x.Places.map Qs),.sl 14 (x.Tasks.map Qi),.i .i64 x.From,.i .i64 x.To]
def Qj (x:Qk):List V:=[.i .i64 x.Task,.sl 1 (x.Vars.map Qe),.sl 1 (x.Ins.map Qe),.sl 1 (x.Outs.map Qe)]
def QT (x:(List (List (Int×Int)))):List V:=[.sl 1 (x.map Qg)]
def Qp (x:QB):List V:=[.sl 7 (x.net.Colours.map Qu),.sl 3 (x.net.Places.map Qs),.sl 14 (x.net.Tasks.map Qi),.i .i64 x.net.From,.i .i64 x.net.To,.sl 1 (x.m.map Qg),.s x.task.Name,.sl 2 (x.task.Vars.map QC),.i .i64 x.task.Guard.Kind,.i .i64 x.task.Guard.Num,.sl 3 (QaF x.task.Guard.Kids),.i .i64 x.task.Join,.i .i64 x.task.Split,.sl 4 (x.task.Ins.map QN),.sl 4 (x.task.Outs.map QN),.sl 1 (x.task.Cancel.map Qe),.i .i64 x.task.After,.i .i64 x.task.Many.1,.i .i64 x.task.Many.2.1,.i .i64 x.task.Many.2.2,.sl 1 (x.env.map Qe)]
def QI (x:Qaa):List V:=[.sl 7 (x.all.map Qu),.sl 1 (x.sizes.map Qe),.i .i64 x.k]
def QF (x:(List (List Int))):List V:=[.sl 1 (x.map Qw)]
def Qtl (x:(List Qk)):List V:=[.sl 4 (x.map Qj)]
def Qcz (x:QdO):List V:=[.i .i64 x.Kind,.i .i64 x.At]
def QeM (fn:Nat):Qga:=rfOf Tryz.f201 0 fn
def Qaq (fn:Nat):Qga:=rfOf Tryz.f88 0 fn
theorem QuS (a0 a1 b0 b1:Int):EqT Tryz.prog 40 [.int .i64 a0,.int .i64 a1] [.int .i64 b0,.int .i64 b1] ((a0==b0)&&(a1==b1)):=by
 refine⟨by kernel_rfl,fun w=>?_⟩
 have u3:=Tryz.underlying3
 have g3:=Tryz.isAgg3
 have z3:=Tryz.sizeOf3
 show(Op.equalIn (9999+1) 40 (.agg #[.int .i64 a0,.int .i64 a1]) (.agg #[.int .i64 b0,.int .i64 b1])).run Tryz.prog w=_
 rw [Op.equalIn]
 simp only [Sem.run_bind,run_underlying Tryz.underlying40,Result.andThen_ok]
 simp only [Std.Legacy.Range.forIn_eq_forIn_range',Std.Legacy.Range.size,Nat.sub_zero,Nat.add_sub_cancel,Nat.div_one,List.range'_succ,List.range'_zero,List.forIn_cons,List.forIn_nil]
 go_simp
 by_cases h0:a0=b0<;>by_cases h1:a1=b1<;>simp [h0,h1]
theorem QvH (a0 a1 a2 b0 b1 b2:Int):EqT Tryz.prog 53 [.int .i64 a0,.int .i64 a1,.int .i64 a2] [.int .i64 b0,.int .i64 b1,.int .i64 b2] ((a0==b0)&&((a1==b1)&&(a2==b2))):=by
 refine⟨by kernel_rfl,fun w=>?_⟩
 have u3:=Tryz.underlying3
 have g3:=Tryz.isAgg3
 have z3:=Tryz.sizeOf3
 show(Op.equalIn (9999+1) 53 (.agg #[.int .i64 a0,.int .i64 a1,.int .i64 a2]) (.agg #[.int .i64 b0,.int .i64 b1,.int .i64 b2])).run Tryz.prog w=_
 rw [Op.equalIn]
 simp only [Sem.run_bind,run_underlying Tryz.underlying53,Result.andThen_ok]
 simp only [Std.Legacy.Range.forIn_eq_forIn_range',Std.Legacy.Range.size,Nat.sub_zero,Nat.add_sub_cancel,Nat.div_one,List.range'_succ,List.range'_zero,List.forIn_cons,List.forIn_nil]
 go_simp
 by_cases h0:a0=b0<;>by_cases h1:a1=b1<;>by_cases h2:a2=b2<;>simp [h0,h1,h2]
theorem Qu1 : Qol Tryz.prog 94 1=some (1,false,1):=by kernel_rfl
theorem Qu2 : Qol Tryz.prog 94 2=some (2,false,1):=by kernel_rfl
def Qut : Go.Shelf.Ren:=⟨fun | 157=>238 | 199=>251 | 229=>250 | 261=>258 | 311=>261 | 312=>262 | n=>n,fun | 0=>0 | 3=>3 | 4=>4 | 5=>5 | 9=>9 | 21=>21 | 31=>92 | 40=>238 | 46=>196 | 49=>258 | 51=>219 | 119=>236 | 141=>250 | 152=>246 | 154=>248 | 193=>254 | 194=>255 | 196=>257 | 198=>260 | 201=>263 | 226=>265 | 227=>266 | n=>n,fun | 0=>0 | 6=>1 | n=>n⟩
theorem QtT : Lays.n157 Tryz.prog Qut where
 mixed:=by kernel_rfl
 f157:=Tryz.func238.trans (congrArg some (by kernel_rfl))
 f199:=Tryz.func251.trans (congrArg some (by kernel_rfl))
 f229:=Tryz.func250.trans (congrArg some (by kernel_rfl))
 f261:=Tryz.func258.trans (congrArg some (by kernel_rfl))
 f311:=Tryz.func261.trans (congrArg some (by kernel_rfl))
 f312:=Tryz.func262.trans (congrArg some (by kernel_rfl))
 t0:=Tryz.underlying0
 a0:=Tryz.isAgg0
 z0:=Tryz.sizeOf0
 v0:=Tryz.zeroValue0
 t3:=Tryz.underlying3
 a3:=Tryz.isAgg3
 z3:=Tryz.sizeOf3
 v3:=Tryz.zeroValue3
 t4:=Tryz.underlying4
 a4:=Tryz.isAgg4
 z4:=Tryz.sizeOf4
 v4:=Tryz.zeroValue4
 t5:=Tryz.underlying5
 a5:=Tryz.isAgg5
 z5:=Tryz.sizeOf5
 v5:=Tryz.zeroValue5
 t9:=Tryz.underlying9
 a9:=Tryz.isAgg9
 z9:=Tryz.sizeOf9
 v9:=Tryz.zeroValue9
 t21:=Tryz.underlying21
 a21:=Tryz.isAgg21
 z21:=Tryz.sizeOf21
 v21:=Tryz.zeroValue21
 t31:=Tryz.underlying92
 a31:=Tryz.isAgg92
 z31:=Tryz.sizeOf92
 v31:=Tryz.zeroValue92
 t40:=Tryz.underlying238
 a40:=Tryz.isAgg238
 z40:=Tryz.sizeOf238
 v40:=Tryz.zeroValue238
 t46:=Tryz.underlying196
 a46:=Tryz.isAgg196
 z46:=Tryz.sizeOf196
 v46:=Tryz.zeroValue196
 t49:=Tryz.underlying258
 a49:=Tryz.isAgg258
 z49:=Tryz.sizeOf258
 v49:=Tryz.zeroValue258
 t51:=Tryz.underlying219
 a51:=Tryz.isAgg219
 z51:=Tryz.sizeOf219
 v51:=Tryz.zeroValue219
 t119:=Tryz.underlying236
 a119:=Tryz.isAgg236
 z119:=Tryz.sizeOf236
 t141:=Tryz.underlying250
 a141:=Tryz.isAgg250
 z141:=Tryz.sizeOf250
 v141:=Tryz.zeroValue250
 t152:=Tryz.underlying246
 a152:=Tryz.isAgg246
 z152:=Tryz.sizeOf246
 v152:=Tryz.zeroValue246
 t154:=Tryz.underlying248
 a154:=Tryz.isAgg248
 z154:=Tryz.sizeOf248
 v154:=Tryz.zeroValue248
 t193:=Tryz.underlying254
 a193:=Tryz.isAgg254
 z193:=Tryz.sizeOf254
 v193:=Tryz.zeroValue254
 t194:=Tryz.underlying255
 a194:=Tryz.isAgg255
 z194:=Tryz.sizeOf255
 v194:=Tryz.zeroValue255
 t196:=Tryz.underlying257
 a196:=Tryz.isAgg257
 z196:=Tryz.sizeOf257
 v196:=Tryz.zeroValue257
 t198:=Tryz.underlying260
 a198:=Tryz.isAgg260
 z198:=Tryz.sizeOf260
 v198:=Tryz.zeroValue260
 t201:=Tryz.underlying263
 a201:=Tryz.isAgg263
 z201:=Tryz.sizeOf263
 v201:=Tryz.zeroValue263
 t226:=Tryz.underlying265
 a226:=Tryz.isAgg265
 z226:=Tryz.sizeOf265
 v226:=Tryz.zeroValue265
 t227:=Tryz.underlying266
 a227:=Tryz.isAgg266
 z227:=Tryz.sizeOf266
 v227:=Tryz.zeroValue266
 g0:=by kernel_rfl
 g6:=by kernel_rfl
theorem Qom : intT Tryz.prog 221 .u64=true:=by kernel_rfl
theorem it_3 : intT Tryz.prog 3 .i64=true:=by kernel_rfl
theorem ky_3 : Qgb Tryz.prog 3 (V.i .i64) (Value.int .i64):=Qgb.int (by kernel_rfl)
theorem ky_9 : Qgb Tryz.prog 9 V.s Value.string:=Qgb.str (by kernel_rfl)
theorem mixed : Tryz.prog.follows .mixedOrders=true:=by kernel_rfl
theorem Qqp : mapT Tryz.prog 202=some (9,4):=by kernel_rfl
theorem Qfz : mapT Tryz.prog 79=some (3,3):=by kernel_rfl
def Quu : Go.Shelf.Ren:=⟨fun | 125=>194 | 128=>221 | 129=>222 | 189=>143 | 215=>245 | 216=>218 | 257=>193 | 294=>212 | 295=>213 | 296=>214 | 297=>215 | 298=>216 | 299=>217 | 300=>219 | 301=>220 | 328=>240 | 329=>241 | 330=>242 | 331=>243 | 332=>244 | 343=>252 | n=>n,fun | 0=>0 | 3=>3 | 4=>4 | 5=>5 | 9=>9 | 28=>29 | 46=>196 | 51=>219 | 53=>221 | 131=>132 | 182=>211 | 183=>212 | 218=>229 | 222=>233 | 228=>239 | 229=>240 | n=>n,fun n=>n⟩
theorem QtU : Lays.n189 Tryz.prog Quu where
 mixed:=by kernel_rfl
 f125:=Tryz.func194.trans (congrArg some (by kernel_rfl))
 f128:=Tryz.func221.trans (congrArg some (by kernel_rfl))
 f129:=Tryz.func222.trans (congrArg some (by kernel_rfl))
 f189:=Tryz.func143.trans (congrArg some (by kernel_rfl))
 f215:=Tryz.func245.trans (congrArg some (by kernel_rfl))
 f216:=Tryz.func218.trans (congrArg some (by kernel_rfl))
 f257:=Tryz.func193.trans (congrArg some (by kernel_rfl))
 f294:=Tryz.func212.trans (congrArg some (by kernel_rfl))
 f295:=Tryz.func213.trans (congrArg some (by kernel_rfl))
 f296:=Tryz.func214.trans (congrArg some (by kernel_rfl))
 f297:=Tryz.func215.trans (congrArg some (by kernel_rfl))
 f298:=Tryz.func216.trans (congrArg some (by kernel_rfl))
 f299:=Tryz.func217.trans (congrArg some (by kernel_rfl))
 f300:=Tryz.func219.trans (congrArg some (by kernel_rfl))
 f301:=Tryz.func220.trans (congrArg some (by kernel_rfl))
 f328:=Tryz.func240.trans (congrArg some (by kernel_rfl))
 f329:=Tryz.func241.trans (congrArg some (by kernel_rfl))
 f330:=Tryz.func242.trans (congrArg some (by kernel_rfl))
 f331:=Tryz.func243.trans (congrArg some (by kernel_rfl))
 f332:=Tryz.func244.trans (congrArg some (by kernel_rfl))
 f343:=Tryz.func252.trans (congrArg some (by kernel_rfl))
 t0:=Tryz.underlying0
 a0:=Tryz.isAgg0
 z0:=Tryz.sizeOf0
 v0:=Tryz.zeroValue0
 t3:=Tryz.underlying3
 a3:=Tryz.isAgg3
 z3:=Tryz.sizeOf3
 v3:=Tryz.zeroValue3
 t4:=Tryz.underlying4
 a4:=Tryz.isAgg4
 z4:=Tryz.sizeOf4
 v4:=Tryz.zeroValue4
 t5:=Tryz.underlying5
 a5:=Tryz.isAgg5
 z5:=Tryz.sizeOf5
 v5:=Tryz.zeroValue5
 t9:=Tryz.underlying9
 a9:=Tryz.isAgg9
 z9:=Tryz.sizeOf9
 v9:=Tryz.zeroValue9
 t28:=Tryz.underlying29
 a28:=Tryz.isAgg29
 z28:=Tryz.sizeOf29
 v28:=Tryz.zeroValue29
 t46:=Tryz.underlying196
 a46:=Tryz.isAgg196
 z46:=Tryz.sizeOf196
 v46:=Tryz.zeroValue196
 t51:=Tryz.underlying219
 a51:=Tryz.isAgg219
 z51:=Tryz.sizeOf219
 v51:=Tryz.zeroValue219
 t53:=Tryz.underlying221
 a53:=Tryz.isAgg221
 z53:=Tryz.sizeOf221
 v53:=Tryz.zeroValue221
 t131:=Tryz.underlying132
 a131:=Tryz.isAgg132
 z131:=Tryz.sizeOf132
 v131:=Tryz.zeroValue132
 t182:=Tryz.underlying211
 a182:=Tryz.isAgg211
 z182:=Tryz.sizeOf211
 v182:=Tryz.zeroValue211
 t183:=Tryz.underlying212
 a183:=Tryz.isAgg212
 z183:=Tryz.sizeOf212
 v183:=Tryz.zeroValue212
 t218:=Tryz.underlying229
 a218:=Tryz.isAgg229
 z218:=Tryz.sizeOf229
 v218:=Tryz.zeroValue229
 t222:=Tryz.underlying233
 a222:=Tryz.isAgg233
 z222:=Tryz.sizeOf233
 v222:=Tryz.zeroValue233
 t228:=Tryz.underlying239
 a228:=Tryz.isAgg239
 z228:=Tryz.sizeOf239
 v228:=Tryz.zeroValue239
 t229:=Tryz.underlying240
 a229:=Tryz.isAgg240
 z229:=Tryz.sizeOf240
 v229:=Tryz.zeroValue240
theorem Qvp : Tryz.prog.underlying 160=some (.slice 29):=by kernel_rfl
theorem QvI : Tryz.prog.underlying 28=some (.slice 35):=by kernel_rfl
theorem QvJ : Tryz.prog.underlying 29=some (.slice 3):=by kernel_rfl
theorem QvK : Tryz.prog.underlying 35=some (.slice 40):=by kernel_rfl
theorem zi_3 : QjD Tryz.prog 3 ((V.i .i64) 0):=QjD.one (v:=.int .i64 0) (by kernel_rfl)
theorem zi_4 : QjD Tryz.prog 4 (V.b false):=QjD.one (v:=.bool false) (by kernel_rfl)
theorem zv_3 : Qap Tryz.prog 3=some [.i .i64 0]:=by kernel_rfl
theorem QvL : Qap Tryz.prog 26=some [.lit (.slice none 0 0),.lit (.slice none 0 0),.lit (.slice none 0 0),.i .i64 0,.i .i64 0]:=by kernel_rfl
theorem QuT : Qap Tryz.prog 29=some [.lit (.slice none 0 0)]:=by kernel_rfl
theorem QvM : Qap Tryz.prog 31=some [.i .i64 0,.lit (.slice none 0 0),.lit (.slice none 0 0),.lit (.slice none 0 0)]:=by kernel_rfl
theorem QvN : Qap Tryz.prog 35=some [.lit (.slice none 0 0)]:=by kernel_rfl
theorem QvO : Qap Tryz.prog 36=some [.i .i64 0]:=by kernel_rfl
theorem QvP : Qap Tryz.prog 40=some [.i .i64 0,.i .i64 0]:=by kernel_rfl
theorem QvQ : Qap Tryz.prog 42=some [.lit (.slice none 0 0)]:=by kernel_rfl
theorem QvR : Qap Tryz.prog 51=some [.i .i64 0,.i .i64 0,.lit (.slice none 0 0)]:=by kernel_rfl
theorem QvS : Qap Tryz.prog 53=some [.i .i64 0,.i .i64 0,.i .i64 0]:=by kernel_rfl
theorem QvT : Qap Tryz.prog 55=some [.s (⟨#[]⟩:ByteArray),.lit (.slice none 0 0),.i .i64 0,.i .i64 0,.lit (.slice none 0 0),.i .i64 0,.i .i64 0,.lit (.slice none 0 0),.lit (.slice none 0 0),.lit (.slice none 0 0),.i .i64 0,.i .i64 0,.i .i64 0,.i .i64 0]:=by kernel_rfl
theorem QvU : Qap Tryz.prog 67=some [.i .i64 0,.i .i64 0]:=by kernel_rfl
theorem QvV : Qap Tryz.prog 89=some [.s (⟨#[]⟩:ByteArray),.i .i64 0,.lit (.slice none 0 0)]:=by kernel_rfl
theorem QvW : Qap Tryz.prog 94=some [.s (⟨#[]⟩:ByteArray),.i .i64 0,.i .i64 0,.i .i64 0,.lit (.slice none 0 0),.i .i64 0,.i .i64 0]:=by kernel_rfl
theorem QvX : Qap Tryz.prog 96=some [.s (⟨#[]⟩:ByteArray),.i .i64 0]:=by kernel_rfl
theorem QvY : Qap Tryz.prog 98=some [.i .i64 0,.i .i64 0,.i .i64 0,.lit (.slice none 0 0)]:=by kernel_rfl
theorem QkP : Qap Tryz.prog 102=some [.lit (.nilFunc),.i .i64 0]:=by kernel_rfl
theorem Qvq : Qap Tryz.prog 113=some [.lit (.slice none 0 0),.lit (.slice none 0 0),.lit (.slice none 0 0),.i .i64 0,.i .i64 0,.lit (.slice none 0 0),.s (⟨#[]⟩:ByteArray),.lit (.slice none 0 0),.i .i64 0,.i .i64 0,.lit (.slice none 0 0),.i .i64 0,.i .i64 0,.lit (.slice none 0 0),.lit (.slice none 0 0),.lit (.slice none 0 0),.i .i64 0,.i .i64 0,.i .i64 0,.i .i64 0,.lit (.slice none 0 0)]:=by kernel_rfl
theorem Qvr : Qap Tryz.prog 136=some [.lit (.slice none 0 0),.lit (.slice none 0 0),.i .i64 0]:=by kernel_rfl
theorem Qvs : Qap Tryz.prog 146=some [.lit (.nilFunc)]:=by kernel_rfl
theorem Qvt : Qap Tryz.prog 151=some [.lit (.nilFunc)]:=by kernel_rfl
theorem Qvu : Qap Tryz.prog 160=some [.lit (.slice none 0 0)]:=by kernel_rfl
theorem Qvv : Qap Tryz.prog 183=some [.lit (.nilFunc)]:=by kernel_rfl
def tab : Tab:={ ag:=[(3,false),(9,false),(22,false),(23,false),(24,false),(26,true),(28,false),(29,false),(31,true),(32,false),(35,false),(36,false),(40,true),(42,false),(48,false),(49,false),(51,true),(52,false),(53,true),(55,true),(67,true),(79,false),(89,true),(92,false),(94,true),(96,true),(98,true),(102,true),(113,true),(116,false),(136,true),(146,false),(151,false),(154,false),(160,false),(183,false)],sz:=[(3,1),(26,5),(29,1),(31,4),(35,1),(36,1),(40,2),(42,1),(51,3),(53,3),(55,14),(67,2),(89,3),(94,7),(96,2),(98,4),(102,2),(113,21),(136,3),(146,1),(151,1),(160,1),(183,1)],fo:=[(26,[0,1,2,3,4]),(31,[0,1,2,3]),(51,[0,1,2]),(55,[0,1,2,5,6,7,8,9,10,11]),(89,[0,1,2]),(94,[0,1,2,3,4,5,6]),(96,[0,1]),(98,[0,1]),(102,[0,1]),(113,[0,5,6,20]),(136,[0,1,2])],sp:=[(26,[(0,1),(1,1),(2,1),(3,1),(4,1)]),(31,[(0,1),(1,1),(2,1),(3,1)]),(51,[(0,1),(1,1),(2,1)]),(55,[(0,1),(1,1),(2,3),(5,1),(6,1),(7,1),(8,1),(9,1),(10,1),(11,3)]),(67,[(0,1),(1,1)]),(89,[(0,1),(1,1),(2,1)]),(94,[(0,1),(1,1),(2,1),(3,1),(4,1),(5,1),(6,1)]),(96,[(0,1),(1,1)]),(98,[(0,1),(1,3)]),(102,[(0,1),(1,1)]),(113,[(0,5),(5,1),(6,14),(20,1)]),(136,[(0,1),(1,1),(2,1)])],es:=[(22,(94,7,80)),(23,(89,3,48)),(24,(55,14,200)),(28,(35,1,24)),(29,(3,1,8)),(35,(40,2,16)),(42,(31,4,80)),(48,(96,2,24)),(49,(51,3,40)),(52,(98,4,48)),(92,(9,1,16)),(140,(102,2,16)),(160,(29,1,24)),(174,(3,1,8))],ar:=[(40,(2,1)),(53,(3,1))],zv:=[(3,[.i .i64 0]),(26,[.lit (.slice none 0 0),.lit (.slice none 0 0),.lit (.slice none 0 0),.i .i64 0,.i .i64 0]),(29,[.lit (.slice none 0 0)]),(31,[.i .i64 0,.lit (.slice none 0 0),.lit (.slice none 0 0),.lit (.slice none 0 0)]),(35,[.lit (.slice none 0 0)]),(36,[.i .i64 0]),(40,[.i .i64 0,.i .i64 0]),(42,[.lit (.slice none 0 0)]),(51,[.i .i64 0,.i .i64 0,.lit (.slice none 0 0)]),(53,[.i .i64 0,.i .i64 0,.i .i64 0]),(55,[.s (⟨#[]⟩:ByteArray),.lit (.slice none 0 0),.i .i64 0,.i .i64 0,.lit (.slice none 0 0),.i .i64 0,.i .i64 0,.lit (.slice none 0 0),.lit (.slice none 0 0),.lit (.slice none 0 0),.i .i64 0,.i .i64 0,.i .i64 0,.i .i64 0]),(67,[.i .i64 0,.i .i64 0]),(89,[.s (⟨#[]⟩:ByteArray),.i .i64 0,.lit (.slice none 0 0)]),(94,[.s (⟨#[]⟩:ByteArray),.i .i64 0,.i .i64 0,.i .i64 0,.lit (.slice none 0 0),.i .i64 0,.i .i64 0]),(96,[.s (⟨#[]⟩:ByteArray),.i .i64 0]),(98,[.i .i64 0,.i .i64 0,.i .i64 0,.lit (.slice none 0 0)]),(102,[.lit (.nilFunc),.i .i64 0]),(113,[.lit (.slice none 0 0),.lit (.slice none 0 0),.lit (.slice none 0 0),.i .i64 0,.i .i64 0,.lit (.slice none 0 0),.s (⟨#[]⟩:ByteArray),.lit (.slice none 0 0),.i .i64 0,.i .i64 0,.lit (.slice none 0 0),.i .i64 0,.i .i64 0,.lit (.slice none 0 0),.lit (.slice none 0 0),.lit (.slice none 0 0),.i .i64 0,.i .i64 0,.i .i64 0,.i .i64 0,.lit (.slice none 0 0)]),(136,[.lit (.slice none 0 0),.lit (.slice none 0 0),.i .i64 0]),(146,[.lit (.nilFunc)]),(151,[.lit (.nilFunc)]),(160,[.lit (.slice none 0 0)]),(183,[.lit (.nilFunc)])],sb:=[9],bo:=[4],cc:=[],en:=[8,9,10,12,14,16,18,19,22,24,25,26,27,28,29,30,31,32,33,34,35,36,40,41,43,45,47,48,49,50,51,52,53,54,55,56,57,58,59,60,61,62,63,64,65,66,67,68,69,70,71,72,73,74,75,85,86,88,90,91,92,93,94,95,96,97,98,99,100,101,102,103,104,105,106,107,108,109,110,111,112,113,114,115,116,117,118,119,120,121,122,123,124,125,126,127,128,129,130,131,132,133,134,135,136,137,138,139,140,141,142,143,153,154,155,156,158,159,160,161,162,163,164,165,166,167,168,169,170,171,172,173,174,175,176,177,178,179,180,181,182,183,184,185,186,187,188,189,190,191,192,199,201,202,203,204,205,206,207,208,209,210,211,230,231,232,233,234,235,236,237,238,239,248,249,253,254,255,256,257,259,260] }
theorem Qo : QcL Tryz.prog tab:=Tab.ok (by kernel_rfl) (List.forall_mem_cons.2 ⟨zv_3,List.forall_mem_cons.2 ⟨QvL,List.forall_mem_cons.2 ⟨QuT,List.forall_mem_cons.2 ⟨QvM,List.forall_mem_cons.2 ⟨QvN,List.forall_mem_cons.2 ⟨QvO,List.forall_mem_cons.2 ⟨QvP,List.forall_mem_cons.2 ⟨QvQ,List.forall_mem_cons.2 ⟨QvR,List.forall_mem_cons.2 ⟨QvS,List.forall_mem_cons.2 ⟨QvT,List.forall_mem_cons.2 ⟨QvU,List.forall_mem_cons.2 ⟨QvV,List.forall_mem_cons.2 ⟨QvW,List.forall_mem_cons.2 ⟨QvX,List.forall_mem_cons.2 ⟨QvY,List.forall_mem_cons.2 ⟨QkP,List.forall_mem_cons.2 ⟨Qvq,List.forall_mem_cons.2 ⟨Qvr,List.forall_mem_cons.2 ⟨Qvs,List.forall_mem_cons.2 ⟨Qvt,List.forall_mem_cons.2 ⟨Qvu,List.forall_mem_cons.2 ⟨Qvv,fun _ h=>(by cases h)⟩⟩⟩⟩⟩⟩⟩⟩⟩⟩⟩⟩⟩⟩⟩⟩⟩⟩⟩⟩⟩⟩⟩)
theorem Qa {C:Ctx}{Q:Exit→St→Prop}{n:Nat}{pt pt1:Pt}{ks ks1:List Fr}{σ σ1:St}{φ:Prop}(hC:Qem Tryz.prog C n)(ds:List Dir)(e:Vm.go Tryz.prog C tab n ds pt ks σ True=some ⟨pt1,ks1,σ1,φ⟩)(hφ:φ)(h:AK Tryz.prog C Q pt1 ks1 σ1):AK Tryz.prog C Q pt ks σ:=AK.go Qo hC ds e hφ h
theorem tt_ : True:=trivial
theorem an_ {a b:Prop}(x:a)(y:b):a∧b:=⟨x,y⟩
theorem ex_ {α:Sort _}{p:α→Prop}(w:α)(h:p w):∃x,p x:=⟨w,h⟩
def Qmu  : Option TNet:=
 some (TNet.mk ([(Qy.mk (⟨#[110]⟩:ByteArray) 1 0 3 ([]:(List ByteArray)) 0 0)]:List Qy) ([(QA.mk (⟨#[97]⟩:ByteArray) 0 ([]:(List (Int×Int)))),(QA.mk (⟨#[98]⟩:ByteArray) 0 ([]:(List (Int×Int)))),(QA.mk (⟨#[99]⟩:ByteArray) 0 ([]:(List (Int×Int))))]:List QA) ([(Qr.mk (⟨#[116]⟩:ByteArray) ([(TVar.mk (⟨#[120]⟩:ByteArray) 0)]:List TVar) (Qf.mk 1 1 ([]:(List Qf))) 1 1 ([(TArc.mk 0 (Qf.mk 2 0 ([]:(List Qf))))]:List TArc) ([(TArc.mk 1 (Qf.mk 5 1 ([(Qf.mk 2 0 ([]:(List Qf))),(Qf.mk 1 1 ([]:(List Qf)))]:List Qf)))]:List TArc) ([2]:List Int) 0 (0,0,0))]:List Qr) 0 1)
theorem Qq2  {r:TNet}(h:Qmu  = some r):Qc Tryz.prog 29 [] [] (Gives (.agg (Qd r)) []):=by
 refine Qc.walk 29 Tryz.func29 rfl Tryz.ntmps29 rfl fun C hC=>?_
 unfold Qmu at h
 refine Qa hC [.n 7,.v .no [none,none,some 3] (.agg (Ql (Qf.mk 2 0 ([]:(List Qf))))),.n 2,.sayO 1 (.var (Ql (Qf.mk 2 0 ([]:(List Qf))))),.n 4,.v .no [none,none,some 3] (.agg (Ql (Qf.mk 1 1 ([]:(List Qf))))),.n 2,.sayO 2 (.var (Ql (Qf.mk 1 1 ([]:(List Qf))))),.n 4,.v .no [] (.agg (Ql (Qf.mk 2 0 ([]:(List Qf))))),.v .no [] (.agg (Ql (Qf.mk 1 1 ([]:(List Qf))))),.v (.bd []) [] (.sl 3 (QaF ([(Qf.mk 2 0 ([]:(List Qf))),(Qf.mk 1 1 ([]:(List Qf)))]:List Qf))),.v .no [] (.agg (Ql (Qf.mk 5 1 ([(Qf.mk 2 0 ([]:(List Qf))),(Qf.mk 1 1 ([]:(List Qf)))]:List Qf)))),.n 2,.sayO 3 (.var (Ql (Qf.mk 5 1 ([(Qf.mk 2 0 ([]:(List Qf))),(Qf.mk 1 1 ([]:(List Qf)))]:List Qf)))),.n 4,.v .no [none,none,none,none,some 1,none,none] (.agg (Qu (Qy.mk (⟨#[110]⟩:ByteArray) 1 0 3 ([]:(List ByteArray)) 0 0))),.v (.bd []) [] (.sl 7 (([(Qy.mk (⟨#[110]⟩:ByteArray) 1 0 3 ([]:(List ByteArray)) 0 0)]:List Qy).map Qu)),.v .no [none,none,some 2] (.agg (Qs (QA.mk (⟨#[97]⟩:ByteArray) 0 ([]:(List (Int×Int)))))),.v .no [none,none,some 2] (.agg (Qs (QA.mk (⟨#[98]⟩:ByteArray) 0 ([]:(List (Int×Int)))))),.v .no [none,none,some 2] (.agg (Qs (QA.mk (⟨#[99]⟩:ByteArray) 0 ([]:(List (Int×Int)))))),.v (.bd []) [] (.sl 3 (([(QA.mk (⟨#[97]⟩:ByteArray) 0 ([]:(List (Int×Int)))),(QA.mk (⟨#[98]⟩:ByteArray) 0 ([]:(List (Int×Int)))),(QA.mk (⟨#[99]⟩:ByteArray) 0 ([]:(List (Int×Int))))]:List QA).map Qs)),.v .no [] (.agg (QC (TVar.mk (⟨#[120]⟩:ByteArray) 0))),.v (.bd []) [] (.sl 2 (([(TVar.mk (⟨#[120]⟩:ByteArray) 0)]:List TVar).map QC)),.v .no [] (.agg (Ql (Qf.mk 1 1 ([]:(List Qf))))),.v .no [] (.agg (Ql (Qf.mk 2 0 ([]:(List Qf))))),.v .no [] (.agg (QN (TArc.mk 0 (Qf.mk 2 0 ([]:(List Qf)))))),.v (.bd []) [] (.sl 4 (([(TArc.mk 0 (Qf.mk 2 0 ([]:(List Qf))))]:List TArc).map QN)),.v .no [] (.agg (Ql (Qf.mk 5 1 ([(Qf.mk 2 0 ([]:(List Qf))),(Qf.mk 1 1 ([]:(List Qf)))]:List Qf)))),.v .no [] (.agg (QN (TArc.mk 1 (Qf.mk 5 1 ([(Qf.mk 2 0 ([]:(List Qf))),(Qf.mk 1 1 ([]:(List Qf)))]:List Qf))))),.v (.bd []) [] (.sl 4 (([(TArc.mk 1 (Qf.mk 5 1 ([(Qf.mk 2 0 ([]:(List Qf))),(Qf.mk 1 1 ([]:(List Qf)))]:List Qf)))]:List TArc).map QN)),.v (.bd []) [] (.sl 1 (([2]:List Int).map Qe)),.v .no [] (.agg (Qi (Qr.mk (⟨#[116]⟩:ByteArray) ([(TVar.mk (⟨#[120]⟩:ByteArray) 0)]:List TVar) (Qf.mk 1 1 ([]:(List Qf))) 1 1 ([(TArc.mk 0 (Qf.mk 2 0 ([]:(List Qf))))]:List TArc) ([(TArc.mk 1 (Qf.mk 5 1 ([(Qf.mk 2 0 ([]:(List Qf))),(Qf.mk 1 1 ([]:(List Qf)))]:List Qf)))]:List TArc) ([2]:List Int) 0 (0,0,0)))),.v (.bd []) [] (.sl 14 (([(Qr.mk (⟨#[116]⟩:ByteArray) ([(TVar.mk (⟨#[120]⟩:ByteArray) 0)]:List TVar) (Qf.mk 1 1 ([]:(List Qf))) 1 1 ([(TArc.mk 0 (Qf.mk 2 0 ([]:(List Qf))))]:List TArc) ([(TArc.mk 1 (Qf.mk 5 1 ([(Qf.mk 2 0 ([]:(List Qf))),(Qf.mk 1 1 ([]:(List Qf)))]:List Qf)))]:List TArc) ([2]:List Int) 0 (0,0,0))]:List Qr).map Qi)),.v .no [] (.agg (Qd (TNet.mk ([(Qy.mk (⟨#[110]⟩:ByteArray) 1 0 3 ([]:(List ByteArray)) 0 0)]:List Qy) ([(QA.mk (⟨#[97]⟩:ByteArray) 0 ([]:(List (Int×Int)))),(QA.mk (⟨#[98]⟩:ByteArray) 0 ([]:(List (Int×Int)))),(QA.mk (⟨#[99]⟩:ByteArray) 0 ([]:(List (Int×Int))))]:List QA) ([(Qr.mk (⟨#[116]⟩:ByteArray) ([(TVar.mk (⟨#[120]⟩:ByteArray) 0)]:List TVar) (Qf.mk 1 1 ([]:(List Qf))) 1 1 ([(TArc.mk 0 (Qf.mk 2 0 ([]:(List Qf))))]:List TArc) ([(TArc.mk 1 (Qf.mk 5 1 ([(Qf.mk 2 0 ([]:(List Qf))),(Qf.mk 1 1 ([]:(List Qf)))]:List Qf)))]:List TArc) ([2]:List Int) 0 (0,0,0))]:List Qr) 0 1))),.n 1,.sayO 0 (.var (Qd (TNet.mk ([(Qy.mk (⟨#[110]⟩:ByteArray) 1 0 3 ([]:(List ByteArray)) 0 0)]:List Qy) ([(QA.mk (⟨#[97]⟩:ByteArray) 0 ([]:(List (Int×Int)))),(QA.mk (⟨#[98]⟩:ByteArray) 0 ([]:(List (Int×Int)))),(QA.mk (⟨#[99]⟩:ByteArray) 0 ([]:(List (Int×Int))))]:List QA) ([(Qr.mk (⟨#[116]⟩:ByteArray) ([(TVar.mk (⟨#[120]⟩:ByteArray) 0)]:List TVar) (Qf.mk 1 1 ([]:(List Qf))) 1 1 ([(TArc.mk 0 (Qf.mk 2 0 ([]:(List Qf))))]:List TArc) ([(TArc.mk 1 (Qf.mk 5 1 ([(Qf.mk 2 0 ([]:(List Qf))),(Qf.mk 1 1 ([]:(List Qf)))]:List Qf)))]:List TArc) ([2]:List Int) 0 (0,0,0))]:List Qr) 0 1))),.n 3,.keep [0] [0]] rfl ⟨⟨⟨⟨⟨⟨⟨⟨⟨⟨⟨⟨⟨⟨⟨⟨⟨⟨⟨⟨⟨⟨⟨⟨⟨⟨⟨⟨⟨tt_,rfl⟩,rfl⟩,rfl⟩,rfl⟩,rfl⟩,rfl⟩,rfl⟩,rfl⟩,rfl⟩,rfl⟩,rfl⟩,rfl⟩,rfl⟩,rfl⟩,rfl⟩,rfl⟩,rfl⟩,rfl⟩,rfl⟩,rfl⟩,rfl⟩,rfl⟩,rfl⟩,rfl⟩,rfl⟩,rfl⟩,rfl⟩,rfl⟩,rfl⟩ ?_
 cases h
 exact AK.done (ex_ [_] (an_ (an_ (ex_ _ (ex_ _ (an_ rfl (an_ rfl (Or.inl (an_ (Qo.ag rfl) (an_ (Qo.sz rfl) rfl))))))) tt_) (gives tt_)))
def Qha (lo1:Int)(hi2:Int):Option Int:=
 bif (decide (hi2<lo1))then
 some 0
 else
 some (w64 ((w64 (min2 (IntKind.u64.wrap ((IntKind.u64.wrap hi2)-(IntKind.u64.wrap lo1))) 1024))+1))
theorem QpG (lo1:Int)(hi2:Int){r:Int}(h:Qha lo1 hi2=some r):Qc Tryz.prog 235 [.i .i64 lo1,.i .i64 hi2] [] (Gives (.i .i64 r) []):=by
 refine Qc.walk 16 Tryz.func235 rfl Tryz.ntmps235 rfl fun C hC=>?_
 unfold Qha at h
 refine Qa hC [.n 13] rfl tt_ ?_
 rcases bifE h with⟨hc5,h⟩|⟨hc5,h⟩
 ·refine Qa hC [.br true,.n 7,.keep [4] []] rfl ⟨tt_,hc5⟩ ?_
  cases h
  exact AK.done (ex_ [_] (an_ (an_ rfl tt_) (gives tt_)))
 ·refine Qa hC [.br false,.n 5,.o (.any (.i .u64 (IntKind.u64.wrap hi2)) none),.n 1,.o (.any (.i .u64 (IntKind.u64.wrap lo1)) none),.n 2,.o (.any (.i .i64 (w64 (min2 (IntKind.u64.wrap ((IntKind.u64.wrap hi2)-(IntKind.u64.wrap lo1))) 1024))) none),.n 5,.keep [4] []] rfl ⟨⟨⟨⟨tt_,hc5⟩,(fun σ h1 h2 _=>Stp.convI rfl rfl (bleN hC.n rfl) (h1 _ _ rfl) it_3 Qom)⟩,(fun σ h1 h2 _=>Stp.convI rfl rfl (bleN hC.n rfl) (h1 _ _ rfl) it_3 Qom)⟩,(fun σ h1 h2 _=>Stp.convI rfl rfl (bleN hC.n rfl) (h1 _ _ rfl) Qom it_3)⟩ ?_
  cases h
  exact AK.done (ex_ [_] (an_ (an_ rfl tt_) (gives tt_)))
def QdP (c1:Int):Option Bool:=
 some (bif (decide (97≤c1))then((decide (c1≤122))||((decide (65≤c1))&&(decide (c1≤90))))else((decide (65≤c1))&&(decide (c1≤90))))
theorem QkQ (c1:Int){r:Bool}(h:QdP c1=some r):Qc Tryz.prog 204 [.i .u8 c1] [] (Gives (.b r) []):=by
 refine Qc.walk 17 Tryz.func204 rfl Tryz.ntmps204 rfl fun C hC=>?_
 unfold QdP at h
 refine Qa hC [.n 6] rfl tt_ ?_
 refine AK.meetX (fun σ=>σ=⟨[(2,.b (bif (decide (97≤c1))then((decide (c1≤122))||((decide (65≤c1))&&(decide (c1≤90))))else((decide (65≤c1))&&(decide (c1≤90)))))],[]⟩) ?_ ?_
 ·refine Qa hC [.n 4] rfl tt_ ?_
  rcases QK (decide (97≤c1))with hc4 | hc4
  ·refine Qa hC [.say 5 (.b true),.n 4] rfl ⟨tt_,(congrArg V.b hc4)⟩ ?_
   rcases QK (decide (c1≤122))with hc5 | hc5
   ·refine Qa hC [.say 9 (.b true),.n 9,.say 2 (.b (bif (decide (97≤c1))then((decide (c1≤122))||((decide (65≤c1))&&(decide (c1≤90))))else((decide (65≤c1))&&(decide (c1≤90))))),.keep [2] []] rfl ⟨⟨tt_,(congrArg V.b hc5)⟩,(congrArg V.b (bifT hc4 (orT hc5 rfl)))⟩ ?_
    exact AK.met rfl
   ·refine Qa hC [.say 9 (.b false),.n 3] rfl ⟨tt_,(congrArg V.b hc5)⟩ ?_
    rcases QK (decide (65≤c1))with hc6 | hc6
    ·refine Qa hC [.say 12 (.b true),.n 6,.say 2 (.b (bif (decide (97≤c1))then((decide (c1≤122))||((decide (65≤c1))&&(decide (c1≤90))))else((decide (65≤c1))&&(decide (c1≤90))))),.keep [2] []] rfl ⟨⟨tt_,(congrArg V.b hc6)⟩,(congrArg V.b (bifT hc4 (orF hc5 (andT hc6 rfl))))⟩ ?_
     exact AK.met rfl
    ·refine Qa hC [.say 12 (.b false),.n 6,.say 2 (.b (bif (decide (97≤c1))then((decide (c1≤122))||((decide (65≤c1))&&(decide (c1≤90))))else((decide (65≤c1))&&(decide (c1≤90))))),.keep [2] []] rfl ⟨⟨tt_,(congrArg V.b hc6)⟩,(congrArg V.b (bifT hc4 (orF hc5 (andF hc6 rfl))))⟩ ?_
     exact AK.met rfl
  ·refine Qa hC [.say 5 (.b false),.n 7] rfl ⟨tt_,(congrArg V.b hc4)⟩ ?_
   rcases QK (decide (65≤c1))with hc7 | hc7
   ·refine Qa hC [.say 12 (.b true),.n 6,.say 2 (.b (bif (decide (97≤c1))then((decide (c1≤122))||((decide (65≤c1))&&(decide (c1≤90))))else((decide (65≤c1))&&(decide (c1≤90))))),.keep [2] []] rfl ⟨⟨tt_,(congrArg V.b hc7)⟩,(congrArg V.b (bifF hc4 (andT hc7 rfl)))⟩ ?_
    exact AK.met rfl
   ·refine Qa hC [.say 12 (.b false),.n 6,.say 2 (.b (bif (decide (97≤c1))then((decide (c1≤122))||((decide (65≤c1))&&(decide (c1≤90))))else((decide (65≤c1))&&(decide (c1≤90))))),.keep [2] []] rfl ⟨⟨tt_,(congrArg V.b hc7)⟩,(congrArg V.b (bifF hc4 (andF hc7 rfl)))⟩ ?_
    exact AK.met rfl
 ·rintro σ rfl
  refine Qa hC [.n 2,.keep [2] []] rfl tt_ ?_
  cases h
  exact AK.done (ex_ [_] (an_ (an_ rfl tt_) (gives tt_)))
def Qjc (s1:ByteArray):Option Bool:=
 bif (QgS s1 (⟨#[]⟩:ByteArray))then
 some true
 else
 bif (decide (32<(s1.size:Int)))then
 some true
 else
 (sidx s1 0).bind fun c8=>
 (QdP c8).bind fun x9=>
 some (!x9)
def Qjd (c14:Int):Option Bool:=
 (QdP c14).bind fun x17=>
 bif (!x17)then
 bif (decide (c14<48))then
 some (c14 != 95)
 else
 bif (decide (57<c14))then
 some (c14 != 95)
 else
 some false
 else
 some false
def QeN (x11:Int)(x15:Bool):Option (Int⊕(Unit⊕Unit)):=
 bif x15 then
 some (.inr (.inl ()))
 else
 some (.inl (w64 (x11+1)))
def Qdn (s1:ByteArray)(x11:Int):Option (Int⊕(Unit⊕Unit)):=
 bif (decide (x11<(s1.size:Int)))then
 (sidx s1 x11).bind fun c14=>
 (Qjd c14).bind (fun x15=>QeN x11 x15)
 else
 some (.inr (.inr ()))
def QeO : Option Bool:=
 some false
def QeP : Option Bool:=
 some true
def QeQ (s1:ByteArray)(x4:Bool):Option Bool:=
 bif x4 then
 some false
 else
 (QE (fun st=>Qdn s1 st) 0).bind (Sum.elim (fun q=>QeO) (fun q=>QeP))
def Qd3 (s1:ByteArray):Option Bool:=
 (Qjc s1).bind (fun x4=>QeQ s1 x4)
theorem Qje (s1:ByteArray){r:Bool}(h:Qd3 s1=some r):Qc Tryz.prog 164 [.s s1] [] (Gives (.b r) []):=by
 refine Qc.walk 42 Tryz.func164 rfl Tryz.ntmps164 rfl fun C hC=>?_
 unfold Qd3 at h
 refine Qa hC [.n 7] rfl tt_ ?_
 obtain⟨x4,hv5,h⟩:=Qb h
 replace h:QeQ s1 x4=some r:=h
 refine AK.meetX (fun σ=>σ=⟨[(0,.s s1),(17,.b x4)],[]⟩) ?_ ?_
 ·replace h:=hv5
  unfold Qjc at h
  refine Qa hC [.n 4] rfl tt_ ?_
  rcases bifE h with⟨hc6,h⟩|⟨hc6,h⟩
  ·refine Qa hC [.say 7 (.b true),.n 11,.keep [0,17] []] rfl ⟨tt_,(congrArg V.b hc6)⟩ ?_
   cases h
   exact AK.met rfl
  ·refine Qa hC [.say 7 (.b false),.n 5] rfl ⟨tt_,(congrArg V.b hc6)⟩ ?_
   rcases bifE h with⟨hc7,h⟩|⟨hc7,h⟩
   ·refine Qa hC [.say 12 (.b true),.n 6,.keep [0,17] []] rfl ⟨tt_,(congrArg V.b hc7)⟩ ?_
    cases h
    exact AK.met rfl
   ·obtain⟨c8,hc8,h⟩:=Qb h
    obtain⟨x9,hx9,h⟩:=Qb h
    refine Qa hC [.say 12 (.b false),.n 1,.o (.num c8),.o (.c false [.d] (.b x9)),.n 3,.keep [0,17] []] rfl ⟨⟨⟨tt_,(congrArg V.b hc7)⟩,hc8⟩,(QkQ _ hx9)⟩ ?_
    cases h
    exact AK.met rfl
 ·rintro σ rfl
  replace h:QeQ s1 x4=some r:=h
  unfold QeQ at h
  refine Qa hC [.n 1] rfl tt_ ?_
  rcases bifE h with⟨hc10,h⟩|⟨hc10,h⟩
  ·refine Qa hC [.br true,.n 7,.keep [2] []] rfl ⟨tt_,hc10⟩ ?_
   cases h
   exact AK.done (ex_ [_] (an_ (an_ rfl tt_) (gives tt_)))
  ·refine Qa hC [.br false,.n 11,.keep [0,19,20] []] rfl ⟨tt_,hc10⟩ ?_
   obtain⟨o22,hl22,h⟩:=Qb h
   refine AK.loop (body:=(fun st=>Qdn s1 st)) (fun st σ=>σ=⟨[(0,.s s1),(19,.i .i64 (s1.size:Int)),(20,.i .i64 st)],[]⟩) (Sum.elim (fun q e σ=>e=.ret∧σ=⟨[(2,.b false)],[]⟩) (fun q e σ=>e=.exit 0∧σ=⟨[],[]⟩)) hl22 rfl ?_ ?_
   ·rintro x11 o σ rfl h
    replace h:Qdn s1 x11=some o:=h
    unfold Qdn at h
    refine Qa hC [.n 6] rfl tt_ ?_
    rcases bifE h with⟨hc13,h⟩|⟨hc13,h⟩
    ·obtain⟨c14,hc14,h⟩:=Qb h
     refine Qa hC [.br true,.n 14,.o (.num c14),.n 4] rfl ⟨⟨tt_,hc13⟩,hc14⟩ ?_
     obtain⟨x15,hv16,h⟩:=Qb h
     replace h:QeN x11 x15=some o:=h
     refine AK.meetX (fun σ=>σ=⟨[(0,.s s1),(19,.i .i64 (s1.size:Int)),(20,.i .i64 x11),(40,.b x15)],[]⟩) ?_ ?_
     ·replace h:=hv16
      unfold Qjd at h
      obtain⟨x17,hx17,h⟩:=Qb h
      refine Qa hC [.n 2,.o (.c false [.d] (.b x17)),.n 2] rfl ⟨tt_,(QkQ _ hx17)⟩ ?_
      rcases bifE h with⟨hc18,h⟩|⟨hc18,h⟩
      ·refine Qa hC [.say 29 (.b true),.n 3] rfl ⟨tt_,(congrArg V.b hc18)⟩ ?_
       rcases bifE h with⟨hc19,h⟩|⟨hc19,h⟩
       ·refine Qa hC [.say 32 (.b true),.n 9,.keep [0,19,20,40] []] rfl ⟨tt_,(congrArg V.b hc19)⟩ ?_
        cases h
        exact AK.met rfl
       ·refine Qa hC [.say 32 (.b false),.n 5] rfl ⟨tt_,(congrArg V.b hc19)⟩ ?_
        rcases bifE h with⟨hc20,h⟩|⟨hc20,h⟩
        ·refine Qa hC [.say 37 (.b true),.n 4,.keep [0,19,20,40] []] rfl ⟨tt_,(congrArg V.b hc20)⟩ ?_
         cases h
         exact AK.met rfl
        ·refine Qa hC [.say 37 (.b false),.n 4,.keep [0,19,20,40] []] rfl ⟨tt_,(congrArg V.b hc20)⟩ ?_
         cases h
         exact AK.met rfl
      ·refine Qa hC [.say 29 (.b false),.n 12,.keep [0,19,20,40] []] rfl ⟨tt_,(congrArg V.b hc18)⟩ ?_
       cases h
       exact AK.met rfl
     ·rintro σ rfl
      replace h:QeN x11 x15=some o:=h
      unfold QeN at h
      refine Qa hC [.n 1] rfl tt_ ?_
      rcases bifE h with⟨hc21,h⟩|⟨hc21,h⟩
      ·refine Qa hC [.br true,.n 8,.keep [2] []] rfl ⟨tt_,hc21⟩ ?_
       cases h
       exact rndR rfl (an_ rfl rfl)
      ·refine Qa hC [.br false,.n 7,.keep [0,19,20] []] rfl ⟨tt_,hc21⟩ ?_
       cases h
       exact rndN rfl rfl
    ·refine Qa hC [.br false,.n 2,.keep [] []] rfl ⟨tt_,hc13⟩ ?_
     cases h
     exact rndX rfl (an_ rfl rfl)
   ·rcases o22 with(_ | _)
    ·replace h:QeO=some r:=h
     unfold QeO at h
     rintro e σ ⟨rfl,rfl⟩
     refine Qa hC [.n 2,.keep [2] []] rfl tt_ ?_
     cases h
     exact AK.done (ex_ [_] (an_ (an_ rfl tt_) (gives tt_)))
    ·replace h:QeP=some r:=h
     unfold QeP at h
     rintro e σ ⟨rfl,rfl⟩
     refine Qa hC [.n 8,.keep [2] []] rfl tt_ ?_
     cases h
     exact AK.done (ex_ [_] (an_ (an_ rfl tt_) (gives tt_)))
def Qiw (e10:ByteArray)(m6:(List (ByteArray×Bool))):Option Bool:=
 (Qd3 e10).bind fun x13=>
 bif (!x13)then
 some true
 else
 some ((mget m6 e10).getD false)
def Qd8 (x5:Int)(m6:(List (ByteArray×Bool)))(e10:ByteArray)(x11:Bool):Option ((Int×(List (ByteArray×Bool)))⊕(Unit⊕Unit)):=
 bif x11 then
 some (.inr (.inl ()))
 else
 some (.inl ((w64 (x5+1)),(mset ltS m6 e10 true)))
def Qc3 (l1:(List ByteArray))(x5:Int)(m6:(List (ByteArray×Bool))):Option ((Int×(List (ByteArray×Bool)))⊕(Unit⊕Unit)):=
 bif (decide (x5<(l1.length:Int)))then
 (idx l1 x5).bind fun e10=>
 (Qiw e10 m6).bind (fun x11=>Qd8 x5 m6 e10 x11)
 else
 some (.inr (.inr ()))
def Qd9 : Option Bool:=
 some false
def Qea : Option Bool:=
 some true
def Qgm (l1:(List ByteArray)):Option Bool:=
 (QE (fun st=>Qc3 l1 st.1 st.2) (0,([]:(List (ByteArray×Bool))))).bind (Sum.elim (fun q=>Qd9) (fun q=>Qea))
theorem Qo4 (l1:(List ByteArray)){r:Bool}(h:Qgm l1=some r):Qc Tryz.prog 236 [.sl 1 (l1.map Qdv)] [] (Gives (.b r) []):=by
 refine Qc.walk 24 Tryz.func236 rfl Tryz.ntmps236 rfl fun C hC=>?_
 unfold Qgm at h
 refine Qa hC [.n 8,.sayO 6 (.map (mapV V.s V.b ([]:(List (ByteArray×Bool))))),.n 7,.o (.ln l1.length),.n 4,.keep [3,7,8,9] [6]] rfl ⟨⟨tt_,rfl⟩,Qh⟩ ?_
 obtain⟨o16,hl16,h⟩:=Qb h
 refine AK.loop (body:=(fun st=>Qc3 l1 st.1 st.2)) (fun st σ=>σ=⟨[(3,.map 6),(7,.sl 1 (l1.map Qdv)),(8,.i .i64 (l1.length:Int)),(9,.i .i64 st.1)],[(6,.map (mapV V.s V.b st.2))]⟩) (Sum.elim (fun q e σ=>e=.ret∧σ=⟨[(2,.b false)],[]⟩) (fun q e σ=>e=.exit 0∧σ=⟨[],[]⟩)) hl16 rfl ?_ ?_
 ·rintro ⟨x5,m6⟩ o σ rfl h
  replace h:Qc3 l1 x5 m6=some o:=h
  unfold Qc3 at h
  refine Qa hC [.n 6] rfl tt_ ?_
  rcases bifE h with⟨hc9,h⟩|⟨hc9,h⟩
  ·obtain⟨e10,he10,h⟩:=Qb h
   refine Qa hC [.br true,.n 6,.o (.row (Qdv e10)),.n 6] rfl ⟨⟨tt_,hc9⟩,(idxM he10)⟩ ?_
   obtain⟨x11,hv12,h⟩:=Qb h
   replace h:Qd8 x5 m6 e10 x11=some o:=h
   refine AK.meetX (fun σ=>σ=⟨[(3,.map 6),(5,.s e10),(7,.sl 1 (l1.map Qdv)),(8,.i .i64 (l1.length:Int)),(9,.i .i64 x5),(20,.b x11)],[(6,.map (mapV V.s V.b m6))]⟩) ?_ ?_
   ·replace h:=hv12
    unfold Qiw at h
    obtain⟨x13,hx13,h⟩:=Qb h
    refine Qa hC [.n 2,.o (.c false [.d] (.b x13)),.n 2] rfl ⟨tt_,(Qje _ hx13)⟩ ?_
    rcases bifE h with⟨hc14,h⟩|⟨hc14,h⟩
    ·refine Qa hC [.say 16 (.b true),.n 5,.keep [3,5,7,8,9,20] [6]] rfl ⟨tt_,(congrArg V.b hc14)⟩ ?_
     cases h
     exact AK.met rfl
    ·refine Qa hC [.say 16 (.b false),.n 2,.o (.any (.b ((mget m6 e10).getD false)) none),.n 2,.keep [3,5,7,8,9,20] [6]] rfl ⟨⟨tt_,(congrArg V.b hc14)⟩,(fun σ h1 h2 _=>Stp.lookup (e:=V.s) (f:=V.b) (l:=m6) (k:=e10) (z:=false) rfl rfl (bleN hC.n rfl) (h1 _ _ rfl) (h2 _ _ rfl) (h1 _ _ rfl) Qqp ky_9 zi_4 rfl)⟩ ?_
     cases h
     exact AK.met rfl
   ·rintro σ rfl
    replace h:Qd8 x5 m6 e10 x11=some o:=h
    unfold Qd8 at h
    refine Qa hC [.n 1] rfl tt_ ?_
    rcases bifE h with⟨hc15,h⟩|⟨hc15,h⟩
    ·refine Qa hC [.br true,.n 9,.keep [2] []] rfl ⟨tt_,hc15⟩ ?_
     cases h
     exact rndR rfl (an_ rfl rfl)
    ·refine Qa hC [.br false,.n 5,.x (fun σ=>σ.set 6 (.map (mapV V.s V.b (mset ltS m6 e10 true)))),.n 7,.keep [3,7,8,9] [6]] rfl ⟨⟨tt_,hc15⟩,(Stp.mapUpdate (e:=V.s) (f:=V.b) (l:=m6) (k:=e10) (v:=true) ltS rfl rfl rfl rfl rfl rfl Qqp ky_9 rfl)⟩ ?_
     cases h
     exact rndN rfl rfl
  ·refine Qa hC [.br false,.n 2,.keep [] []] rfl ⟨tt_,hc9⟩ ?_
   cases h
   exact rndX rfl (an_ rfl rfl)
 ·rcases o16 with(_ | _)
  ·replace h:Qd9=some r:=h
   unfold Qd9 at h
   rintro e σ ⟨rfl,rfl⟩
   refine Qa hC [.n 2,.keep [2] []] rfl tt_ ?_
   cases h
   exact AK.done (ex_ [_] (an_ (an_ rfl tt_) (gives tt_)))
  ·replace h:Qea=some r:=h
   unfold Qea at h
   rintro e σ ⟨rfl,rfl⟩
   refine Qa hC [.n 8,.keep [2] []] rfl tt_ ?_
   cases h
   exact AK.done (ex_ [_] (an_ (an_ rfl tt_) (gives tt_)))
def QbK : Option Int:=
 some 0
def Qhb (c1:Qy)(ahead2:(List Int)):Option Int:=
 bif (c1.Kind==1)then
 (Qha c1.Lo c1.Hi).bind fun x6=>
 some x6
 else
 bif (c1.Kind==2)then
 (Qgm c1.Names).bind fun x8=>
 bif x8 then
 some (c1.Names.length:Int)
 else
 QbK
 else
 bif (c1.Kind==3)then
 bif ((decide (0≤(min2 c1.First c1.Then)))&&(decide ((max2 c1.First c1.Then)<(ahead2.length:Int))))then
 (idx ahead2 c1.First).bind fun e14=>
 (idx ahead2 c1.Then).bind fun e15=>
 some (w64 (e14*e15))
 else
 QbK
 else
 QbK
theorem QpH (c1:Qy)(ahead2:(List Int)){r:Int}(h:Qhb c1 ahead2=some r):Qc Tryz.prog 203 [.agg (Qu c1),.sl 1 (ahead2.map Qe)] [] (Gives (.i .i64 r) []):=by
 refine Qc.walk 51 Tryz.func203 rfl Tryz.ntmps203 rfl fun C hC=>?_
 unfold Qhb at h
 refine Qa hC [.n 6] rfl tt_ ?_
 refine AK.meet (fun σ=>σ=⟨[],[]⟩∧QbK=some r) ?_ ?_
 ·refine Qa hC [.n 13] rfl tt_ ?_
  rcases bifE h with⟨hc5,h⟩|⟨hc5,h⟩
  ·obtain⟨x6,hx6,h⟩:=Qb h
   refine Qa hC [.br true,.n 6,.o (.c false [.d,.d] (.i .i64 x6)),.n 6,.keep [4] []] rfl ⟨⟨tt_,hc5⟩,(QpG _ _ hx6)⟩ ?_
   cases h
   exact AK.done (ex_ [_] (an_ (an_ rfl tt_) (gives tt_)))
  ·refine Qa hC [.br false,.n 6] rfl ⟨tt_,hc5⟩ ?_
   rcases bifE h with⟨hc7,h⟩|⟨hc7,h⟩
   ·obtain⟨x8,hx8,h⟩:=Qb h
    refine Qa hC [.br true,.n 4,.o (.c false [.d] (.b x8)),.n 2] rfl ⟨⟨tt_,hc7⟩,(Qo4 _ hx8)⟩ ?_
    rcases bifE h with⟨hc9,h⟩|⟨hc9,h⟩
    ·refine Qa hC [.br true,.n 4,.o (.ln c1.Names.length),.n 6,.keep [4] []] rfl ⟨⟨tt_,hc9⟩,Qh⟩ ?_
     cases h
     exact AK.done (ex_ [_] (an_ (an_ rfl tt_) (gives tt_)))
    ·refine Qa hC [.br false,.n 2,.keep [] []] rfl ⟨tt_,hc9⟩ ?_
     exact AK.met (an_ rfl h)
   ·refine Qa hC [.br false,.n 6] rfl ⟨tt_,hc7⟩ ?_
    rcases bifE h with⟨hc10,h⟩|⟨hc10,h⟩
    ·refine Qa hC [.br true,.n 1] rfl ⟨tt_,hc10⟩ ?_
     refine AK.meetX (fun σ=>σ=⟨[(1,.sl 1 (ahead2.map Qe)),(2,.loc 2 0 0),(39,.b ((decide (0≤(min2 c1.First c1.Then)))&&(decide ((max2 c1.First c1.Then)<(ahead2.length:Int)))))],[(2,.var (Qu c1))]⟩) ?_ ?_
     ·refine Qa hC [.n 8] rfl tt_ ?_
      rcases QK (decide (0≤(min2 c1.First c1.Then)))with hc12 | hc12
      ·refine Qa hC [.say 30 (.b true),.n 6,.o (.ln ahead2.length),.n 3,.say 39 (.b ((decide (0≤(min2 c1.First c1.Then)))&&(decide ((max2 c1.First c1.Then)<(ahead2.length:Int))))),.keep [1,2,39] [2]] rfl ⟨⟨⟨tt_,(congrArg V.b hc12)⟩,Qh⟩,(congrArg V.b (andT hc12 rfl))⟩ ?_
       exact AK.met rfl
      ·refine Qa hC [.say 30 (.b false),.n 10,.say 39 (.b ((decide (0≤(min2 c1.First c1.Then)))&&(decide ((max2 c1.First c1.Then)<(ahead2.length:Int))))),.keep [1,2,39] [2]] rfl ⟨⟨tt_,(congrArg V.b hc12)⟩,(congrArg V.b (andF hc12 rfl))⟩ ?_
       exact AK.met rfl
     ·rintro σ rfl
      refine Qa hC [.n 1] rfl tt_ ?_
      rcases bifE h with⟨hc13,h⟩|⟨hc13,h⟩
      ·obtain⟨e14,he14,h⟩:=Qb h
       obtain⟨e15,he15,h⟩:=Qb h
       refine Qa hC [.br true,.n 1,.keep [1,2] [2]] rfl ⟨tt_,hc13⟩ ?_
       refine AK.draw2 Qo hC mixed [.a .no none false,.a .no none false,.a .no none false,.a (.row (Qe e14)) none false,.a .no none false,.a .no none false,.a .no none false,.a .no none false,.a (.row (Qe e15)) none false,.a .no none false,.a .no none false,.a .no none false] [] [] [4] [] rfl rfl rfl ⟨⟨tt_,(idxM he14)⟩,(idxM he15)⟩ rfl (by kernel_rfl) rfl rfl rfl ?_
       refine Qa hC [.n 4,.keep [4] []] rfl tt_ ?_
       cases h
       exact AK.done (ex_ [_] (an_ (an_ rfl tt_) (gives tt_)))
      ·refine Qa hC [.br false,.n 2,.keep [] []] rfl ⟨tt_,hc13⟩ ?_
       exact AK.met (an_ rfl h)
    ·refine Qa hC [.br false,.n 2,.keep [] []] rfl ⟨tt_,hc10⟩ ?_
     exact AK.met (an_ rfl h)
 ·rintro σ ⟨rfl,h⟩
  unfold QbK at h
  refine Qa hC [.n 6,.keep [4] []] rfl tt_ ?_
  cases h
  exact AK.done (ex_ [_] (an_ (an_ rfl tt_) (gives tt_)))
def Qix (e16:Qy)(m9:(List (ByteArray×Bool)))(x17:Int):Option Bool:=
 (Qd3 e16.Name).bind fun x20=>
 bif (!x20)then
 some true
 else
 bif ((mget m9 e16.Name).getD false)then
 some true
 else
 bif (decide (x17<1))then
 some true
 else
 some (decide (1024<x17))
def Qeb (l10:(List Int))(x17:Int)(x8:Int)(m9:(List (ByteArray×Bool)))(e16:Qy)(x18:Bool):Option ((Int×(List (ByteArray×Bool))×(List Int))⊕(Unit⊕(List Int))):=
 bif x18 then
 some (.inr (.inl ()))
 else
 (chk (decide (l10.length+([x17]:List Int).length≤4294967296))).bind fun _=>
 some (.inl ((w64 (x8+1)),(mset ltS m9 e16.Name true),(l10++([x17]:List Int))))
def Qc4 (l1:(List Qy))(x8:Int)(m9:(List (ByteArray×Bool)))(l10:(List Int)):Option ((Int×(List (ByteArray×Bool))×(List Int))⊕(Unit⊕(List Int))):=
 bif (decide (x8<(l1.length:Int)))then
 (idx l1 x8).bind fun e16=>
 (Qhb e16 l10).bind fun x17=>
 (Qix e16 m9 x17).bind (fun x18=>Qeb l10 x17 x8 m9 e16 x18)
 else
 some (.inr (.inr l10))
def Qiy : Option ((List Int)×Bool):=
 some (([]:List Int),false)
def Qiz (l14:(List Int)):Option ((List Int)×Bool):=
 some (l14,true)
def Qex (l1:(List Qy)):Option ((List Int)×Bool):=
 bif (decide (32<(l1.length:Int)))then
 some (([]:List Int),false)
 else
 (QE (fun st=>Qc4 l1 st.1 st.2.1 st.2.2) (0,([]:(List (ByteArray×Bool))),([]:List Int))).bind (Sum.elim (fun q=>Qiy) (fun q=>Qiz q))
theorem Qle (l1:(List Qy)){r:((List Int)×Bool)}(h:Qex l1=some r):Qc Tryz.prog 163 [.sl 7 (l1.map Qu)] [] (Gives (.tup [.sl 1 (r.1.map Qe),.b r.2]) []):=by
 refine Qc.walk 49 Tryz.func163 rfl Tryz.ntmps163 rfl fun C hC=>?_
 unfold Qex at h
 refine Qa hC [.n 10,.o (.ln l1.length),.n 3] rfl ⟨tt_,Qh⟩ ?_
 rcases bifE h with⟨hc6,h⟩|⟨hc6,h⟩
 ·refine Qa hC [.br true,.n 8,.denil 2 [some 1],.keep [2,3] []] rfl ⟨tt_,hc6⟩ ?_
  cases h
  exact AK.done (ex_ [_,_] (an_ (an_ rfl (an_ rfl tt_)) (gives tt_)))
 ·refine Qa hC [.br false,.n 5,.sayO 12 (.map (mapV V.s V.b ([]:(List (ByteArray×Bool))))),.n 12,.o (.ln l1.length),.n 4,.adopt 5 43 1,.sayO 43 (.arr 1 (([]:List Int).map Qe)),.say 5 (.own 43 ([]:List Int).length),.keep [4,5,13,14,15] [12,43]] rfl ⟨⟨⟨⟨⟨tt_,hc6⟩,rfl⟩,Qh⟩,rfl⟩,(congrArg (fun n=>V.own 43 n) (by simp))⟩ ?_
  obtain⟨o26,hl26,h⟩:=Qb h
  refine AK.loop (body:=(fun st=>Qc4 l1 st.1 st.2.1 st.2.2)) (fun st σ=>σ=⟨[(4,.map 12),(5,.own 43 st.2.2.length),(13,.sl 7 (l1.map Qu)),(14,.i .i64 (l1.length:Int)),(15,.i .i64 st.1)],[(12,.map (mapV V.s V.b st.2.1)),(43,.arr 1 (st.2.2.map Qe))]⟩) (Sum.elim (fun q e σ=>e=.ret∧σ=⟨[(2,.lit (.slice none 0 0)),(3,.b false)],[]⟩) (fun q e σ=>e=.exit 0∧σ=⟨[(5,.own 43 q.length)],[(43,.arr 1 (q.map Qe))]⟩)) hl26 rfl ?_ ?_
  ·rintro ⟨x8,m9,l10⟩ o σ rfl h
   replace h:Qc4 l1 x8 m9 l10=some o:=h
   unfold Qc4 at h
   refine Qa hC [.n 6] rfl tt_ ?_
   rcases bifE h with⟨hc15,h⟩|⟨hc15,h⟩
   ·obtain⟨e16,he16,h⟩:=Qb h
    obtain⟨x17,hx17,h⟩:=Qb h
    refine Qa hC [.br true,.n 6,.o (.row (Qu e16)),.v .no [] (.agg (Qu e16)),.n 2,.sayO 7 (.var (Qu e16)),.n 4,.v .no [] (.agg (Qu e16)),.n 1,.o (.c true [.d,.o (l10.map Qe)] (.i .i64 x17)),.n 5] rfl ⟨⟨⟨⟨⟨⟨tt_,hc15⟩,(idxM he16)⟩,rfl⟩,rfl⟩,rfl⟩,⟨(QqW rfl),(QpH _ _ hx17)⟩⟩ ?_
    obtain⟨x18,hv19,h⟩:=Qb h
    replace h:Qeb l10 x17 x8 m9 e16 x18=some o:=h
    refine AK.meetX (fun σ=>σ=⟨[(4,.map 12),(5,.own 43 l10.length),(7,.loc 7 0 0),(8,.i .i64 x17),(13,.sl 7 (l1.map Qu)),(14,.i .i64 (l1.length:Int)),(15,.i .i64 x8),(39,.b x18)],[(7,.var (Qu e16)),(12,.map (mapV V.s V.b m9)),(43,.arr 1 (l10.map Qe))]⟩) ?_ ?_
    ·replace h:=hv19
     unfold Qix at h
     obtain⟨x20,hx20,h⟩:=Qb h
     refine Qa hC [.n 3,.o (.c false [.d] (.b x20)),.n 2] rfl ⟨tt_,(Qje _ hx20)⟩ ?_
     rcases bifE h with⟨hc21,h⟩|⟨hc21,h⟩
     ·refine Qa hC [.say 26 (.b true),.n 14,.keep [4,5,7,8,13,14,15,39] [7,12,43]] rfl ⟨tt_,(congrArg V.b hc21)⟩ ?_
      cases h
      exact AK.met rfl
     ·refine Qa hC [.say 26 (.b false),.n 3,.o (.any (.b ((mget m9 e16.Name).getD false)) none),.n 2] rfl ⟨⟨tt_,(congrArg V.b hc21)⟩,(fun σ h1 h2 _=>Stp.lookup (e:=V.s) (f:=V.b) (l:=m9) (k:=e16.Name) (z:=false) rfl rfl (bleN hC.n rfl) (h1 _ _ rfl) (h2 _ _ rfl) (h1 _ _ rfl) Qqp ky_9 zi_4 rfl)⟩ ?_
      rcases bifE h with⟨hc22,h⟩|⟨hc22,h⟩
      ·refine Qa hC [.say 32 (.b true),.n 8,.keep [4,5,7,8,13,14,15,39] [7,12,43]] rfl ⟨tt_,(congrArg V.b hc22)⟩ ?_
       cases h
       exact AK.met rfl
      ·refine Qa hC [.say 32 (.b false),.n 4] rfl ⟨tt_,(congrArg V.b hc22)⟩ ?_
       rcases bifE h with⟨hc23,h⟩|⟨hc23,h⟩
       ·refine Qa hC [.say 36 (.b true),.n 4,.keep [4,5,7,8,13,14,15,39] [7,12,43]] rfl ⟨tt_,(congrArg V.b hc23)⟩ ?_
        cases h
        exact AK.met rfl
       ·refine Qa hC [.say 36 (.b false),.n 4,.keep [4,5,7,8,13,14,15,39] [7,12,43]] rfl ⟨tt_,(congrArg V.b hc23)⟩ ?_
        cases h
        exact AK.met rfl
    ·rintro σ rfl
     replace h:Qeb l10 x17 x8 m9 e16 x18=some o:=h
     unfold Qeb at h
     refine Qa hC [.n 1] rfl tt_ ?_
     rcases bifE h with⟨hc24,h⟩|⟨hc24,h⟩
     ·refine Qa hC [.br true,.n 10,.keep [2,3] []] rfl ⟨tt_,hc24⟩ ?_
      cases h
      exact rndR rfl (an_ rfl rfl)
     ·obtain⟨_,hk25,h⟩:=Qb h
      replace hk25:=chkE hk25
      refine Qa hC [.br false,.n 7,.x (fun σ=>σ.set 12 (.map (mapV V.s V.b (mset ltS m9 e16.Name true)))),.n 5,.v (.bd []) [] (.sl 1 (([x17]:List Int).map Qe)),.app ((l10++([x17]:List Int)).map Qe) (l10++([x17]:List Int)).length,.n 8,.keep [4,5,13,14,15] [12,43]] rfl ⟨⟨⟨⟨tt_,hc24⟩,(Stp.mapUpdate (e:=V.s) (f:=V.b) (l:=m9) (k:=e16.Name) (v:=true) ltS rfl rfl rfl rfl rfl rfl Qqp ky_9 rfl)⟩,rfl⟩,⟨Qh,QeL hk25 Qh,Qdm,QgU Qh⟩⟩ ?_
      cases h
      exact rndN rfl rfl
   ·refine Qa hC [.br false,.n 2,.keep [5] [43]] rfl ⟨tt_,hc15⟩ ?_
    cases h
    exact rndX rfl (an_ rfl rfl)
  ·rcases o26 with(_ | l14)
   ·replace h:Qiy=some r:=h
    unfold Qiy at h
    rintro e σ ⟨rfl,rfl⟩
    refine Qa hC [.n 2,.denil 2 [some 1],.keep [2,3] []] rfl tt_ ?_
    cases h
    exact AK.done (ex_ [_,_] (an_ (an_ rfl (an_ rfl tt_)) (gives tt_)))
   ·replace h:Qiz l14=some r:=h
    unfold Qiz at h
    rintro e σ ⟨rfl,rfl⟩
    refine Qa hC [.n 10,.frz 43 (l14.map Qe) [2] [],.keep [2,3] []] rfl ⟨tt_,⟨tt_,(frzL Qh)⟩⟩ ?_
    cases h
    exact AK.done (ex_ [_,_] (an_ (an_ rfl (an_ rfl tt_)) (gives tt_)))
def Qeu (l1:(List Qy))(k2:Int):Option (Bool×Qaa):=
 (Qex l1).bind fun x7=>
 bif ((!x7.2)||((decide (k2<0))||(decide ((l1.length:Int)≤k2))))then
 some (false,(Qaa.mk ([]:(List Qy)) ([]:(List Int)) 0))
 else
 some (true,(Qaa.mk l1 x7.1 k2))
theorem Qkr (l1:(List Qy))(k2:Int){r:(Bool×Qaa)}(h:Qeu l1 k2=some r):Qc Tryz.prog 98 [.sl 7 (l1.map Qu),.i .i64 k2] [] (Gives (.tup [.agg (QI r.2),.b r.1]) []):=by
 refine Qc.walk 30 Tryz.func98 rfl Tryz.ntmps98 rfl fun C hC=>?_
 unfold Qeu at h
 obtain⟨x7,hx7,h⟩:=Qb h
 refine Qa hC [.n 9,.o (.c false [.d] (.tup [.sl 1 (x7.1.map Qe),.b x7.2])),.n 9] rfl ⟨tt_,(Qle _ hx7)⟩ ?_
 refine AK.meetX (fun σ=>σ=⟨[(0,.sl 7 (l1.map Qu)),(1,.i .i64 k2),(4,.loc 4 0 0),(6,.sl 1 (x7.1.map Qe)),(24,.b ((!x7.2)||((decide (k2<0))||(decide ((l1.length:Int)≤k2)))))],[(4,.var [.lit (.slice none 0 0),.lit (.slice none 0 0),.i .i64 0])]⟩) ?_ ?_
 ·refine Qa hC [.n 4] rfl tt_ ?_
  rcases QK (!x7.2)with hc9 | hc9
  ·refine Qa hC [.say 15 (.b true),.n 10,.say 24 (.b ((!x7.2)||((decide (k2<0))||(decide ((l1.length:Int)≤k2))))),.keep [0,1,4,6,24] [4]] rfl ⟨⟨tt_,(congrArg V.b hc9)⟩,(congrArg V.b (orT hc9 rfl))⟩ ?_
   exact AK.met rfl
  ·refine Qa hC [.say 15 (.b false),.n 4] rfl ⟨tt_,(congrArg V.b hc9)⟩ ?_
   rcases QK (decide (k2<0))with hc10 | hc10
   ·refine Qa hC [.say 19 (.b true),.n 6,.say 24 (.b ((!x7.2)||((decide (k2<0))||(decide ((l1.length:Int)≤k2))))),.keep [0,1,4,6,24] [4]] rfl ⟨⟨tt_,(congrArg V.b hc10)⟩,(congrArg V.b (orF hc9 (orT hc10 rfl)))⟩ ?_
    exact AK.met rfl
   ·refine Qa hC [.say 19 (.b false),.n 2,.o (.ln l1.length),.n 3,.say 24 (.b ((!x7.2)||((decide (k2<0))||(decide ((l1.length:Int)≤k2))))),.keep [0,1,4,6,24] [4]] rfl ⟨⟨⟨tt_,(congrArg V.b hc10)⟩,Qh⟩,(congrArg V.b (orF hc9 (orF hc10 rfl)))⟩ ?_
    exact AK.met rfl
 ·rintro σ rfl
  refine Qa hC [.n 1] rfl tt_ ?_
  rcases bifE h with⟨hc11,h⟩|⟨hc11,h⟩
  ·refine Qa hC [.br true,.n 2,.v .no [some 7,some 1,none] (.agg (QI (Qaa.mk ([]:(List Qy)) ([]:(List Int)) 0))),.n 1,.sayO 4 (.var (QI (Qaa.mk ([]:(List Qy)) ([]:(List Int)) 0))),.n 5,.keep [4,5] [4]] rfl ⟨⟨⟨tt_,hc11⟩,rfl⟩,rfl⟩ ?_
   cases h
   exact AK.done (ex_ [_,_] (an_ (an_ (ex_ _ (ex_ _ (an_ rfl (an_ rfl (Or.inl (an_ (Qo.ag rfl) (an_ (Qo.sz rfl) rfl))))))) (an_ rfl tt_)) (gives tt_)))
  ·refine Qa hC [.br false,.n 7,.v .no [] (.agg (QI (Qaa.mk l1 x7.1 k2))),.n 1,.sayO 4 (.var (QI (Qaa.mk l1 x7.1 k2))),.n 4,.keep [4,5] [4]] rfl ⟨⟨⟨tt_,hc11⟩,rfl⟩,rfl⟩ ?_
   cases h
   exact AK.done (ex_ [_,_] (an_ (an_ (ex_ _ (ex_ _ (an_ rfl (an_ rfl (Or.inl (an_ (Qo.ag rfl) (an_ (Qo.sz rfl) rfl))))))) (an_ rfl tt_)) (gives tt_)))
def Qff (m2:Int)(s1:Qaa):Option Bool:=
 bif (decide (0≤m2))then
 (idx s1.sizes s1.k).bind fun e7=>
 some (decide (m2<e7))
 else
 some false
def Qfg (x4:Bool):Option Bool:=
 some x4
def Qcu (s1:Qaa)(m2:Int):Option Bool:=
 (Qff m2 s1).bind (fun x4=>Qfg x4)
theorem Qkn (s1:Qaa)(m2:Int){r:Bool}(h:Qcu s1 m2=some r):Qc Tryz.prog 160 [.agg (QI s1),.i .i64 m2] [] (Gives (.b r) []):=by
 refine Qc.walk 17 Tryz.func160 rfl Tryz.ntmps160 rfl fun C hC=>?_
 unfold Qcu at h
 refine Qa hC [.n 7] rfl tt_ ?_
 obtain⟨x4,hv5,h⟩:=Qb h
 replace h:Qfg x4=some r:=h
 refine AK.meetX (fun σ=>σ=⟨[(4,.b x4)],[]⟩) ?_ ?_
 ·replace h:=hv5
  unfold Qff at h
  refine Qa hC [.n 4] rfl tt_ ?_
  rcases bifE h with⟨hc6,h⟩|⟨hc6,h⟩
  ·obtain⟨e7,he7,h⟩:=Qb h
   refine Qa hC [.say 7 (.b true),.n 5,.o (.row (Qe e7)),.n 5,.keep [4] []] rfl ⟨⟨tt_,(congrArg V.b hc6)⟩,(idxM he7)⟩ ?_
   cases h
   exact AK.met rfl
  ·refine Qa hC [.say 7 (.b false),.n 11,.keep [4] []] rfl ⟨tt_,(congrArg V.b hc6)⟩ ?_
   cases h
   exact AK.met rfl
 ·rintro σ rfl
  replace h:Qfg x4=some r:=h
  unfold Qfg at h
  refine Qa hC [.n 2,.keep [4] []] rfl tt_ ?_
  cases h
  exact AK.done (ex_ [_] (an_ (an_ rfl tt_) (gives tt_)))
def Qbw (s1:Qaa):Option Qy:=
 (idx s1.all s1.k).bind fun e3=>
 some e3
theorem QfX (s1:Qaa){r:Qy}(h:Qbw s1=some r):Qc Tryz.prog 161 [.agg (QI s1)] [] (Gives (.agg (Qu r)) []):=by
 refine Qc.walk 9 Tryz.func161 rfl Tryz.ntmps161 rfl fun C hC=>?_
 unfold Qbw at h
 obtain⟨e3,he3,h⟩:=Qb h
 refine Qa hC [.n 12,.o (.row (Qu e3)),.v .no [] (.agg (Qu e3)),.n 1,.sayO 2 (.var (Qu e3)),.n 3,.keep [2] [2]] rfl ⟨⟨⟨tt_,(idxM he3)⟩,rfl⟩,rfl⟩ ?_
 cases h
 exact AK.done (ex_ [_] (an_ (an_ (ex_ _ (ex_ _ (an_ rfl (an_ rfl (Or.inl (an_ (Qo.ag rfl) (an_ (Qo.sz rfl) rfl))))))) tt_) (gives tt_)))
def QhX (x8:(Bool×Qaa))(m3:Int):Option Bool:=
 bif (!x8.1)then
 some true
 else
 (Qcu x8.2 m3).bind fun x12=>
 some (!x12)
def QdC (x8:(Bool×Qaa))(m3:Int)(x9:Bool):Option (Int×Bool):=
 bif x9 then
 some (0,false)
 else
 (Qbw x8.2).bind fun x14=>
 bif (x14.Kind==1)then
 (Qbw x8.2).bind fun x16=>
 some ((w64 (x16.Lo+m3)),true)
 else
 some (m3,true)
def QfA (l1:(List Qy))(k2:Int)(m3:Int):Option (Int×Bool):=
 (Qeu l1 k2).bind fun x8=>
 (QhX x8 m3).bind (fun x9=>QdC x8 m3 x9)
theorem Qon (l1:(List Qy))(k2:Int)(m3:Int){r:(Int×Bool)}(h:QfA l1 k2 m3=some r):Qc Tryz.prog 94 [.sl 7 (l1.map Qu),.i .i64 k2,.i .i64 m3] [] (Gives (.tup [.i .i64 r.1,.b r.2]) []):=by
 refine Qc.walk 36 Tryz.func94 rfl Tryz.ntmps94 rfl fun C hC=>?_
 unfold QfA at h
 obtain⟨x8,hx8,h⟩:=Qb h
 refine Qa hC [.n 10,.o (.c false [.d,.d] (.tup [.agg (QI x8.2),.b x8.1])),.n 5,.sayO 8 (.var (QI x8.2)),.n 6] rfl ⟨⟨tt_,(Qkr _ _ hx8)⟩,rfl⟩ ?_
 obtain⟨x9,hv10,h⟩:=Qb h
 replace h:QdC x8 m3 x9=some r:=h
 refine AK.meetX (fun σ=>σ=⟨[(2,.i .i64 m3),(8,.loc 8 0 0),(16,.b x9)],[(8,.var (QI x8.2))]⟩) ?_ ?_
 ·replace h:=hv10
  unfold QhX at h
  refine Qa hC [.n 4] rfl tt_ ?_
  rcases bifE h with⟨hc11,h⟩|⟨hc11,h⟩
  ·refine Qa hC [.say 19 (.b true),.n 7,.keep [2,8,16] [8]] rfl ⟨tt_,(congrArg V.b hc11)⟩ ?_
   cases h
   exact AK.met rfl
  ·obtain⟨x12,hx12,h⟩:=Qb h
   refine Qa hC [.say 19 (.b false),.v .no [] (.agg (QI x8.2)),.n 1,.o (.c false [.d,.d] (.b x12)),.n 4,.keep [2,8,16] [8]] rfl ⟨⟨⟨tt_,(congrArg V.b hc11)⟩,rfl⟩,(Qkn _ _ hx12)⟩ ?_
   cases h
   exact AK.met rfl
 ·rintro σ rfl
  replace h:QdC x8 m3 x9=some r:=h
  unfold QdC at h
  refine Qa hC [.n 1] rfl tt_ ?_
  rcases bifE h with⟨hc13,h⟩|⟨hc13,h⟩
  ·refine Qa hC [.br true,.n 9,.keep [6,7] []] rfl ⟨tt_,hc13⟩ ?_
   cases h
   exact AK.done (ex_ [_,_] (an_ (an_ rfl (an_ rfl tt_)) (gives tt_)))
  ·obtain⟨x14,hx14,h⟩:=Qb h
   refine Qa hC [.br false,.n 2,.v .no [] (.agg (QI x8.2)),.o (.c false [.d] (.agg (Qu x14))),.o (.any (.i .i64 x14.Kind) none),.n 4] rfl ⟨⟨⟨⟨tt_,hc13⟩,rfl⟩,(QfX _ hx14)⟩,(fun σ h1 h2 _=>Stp.field rfl rfl (bleN hC.n rfl) (h1 _ _ rfl) Qu1 rfl)⟩ ?_
   rcases bifE h with⟨hc15,h⟩|⟨hc15,h⟩
   ·obtain⟨x16,hx16,h⟩:=Qb h
    refine Qa hC [.br true,.n 2,.v .no [] (.agg (QI x8.2)),.o (.c false [.d] (.agg (Qu x16))),.o (.any (.i .i64 x16.Lo) none),.n 9,.keep [6,7] []] rfl ⟨⟨⟨⟨tt_,hc15⟩,rfl⟩,(QfX _ hx16)⟩,(fun σ h1 h2 _=>Stp.field rfl rfl (bleN hC.n rfl) (h1 _ _ rfl) Qu2 rfl)⟩ ?_
    cases h
    exact AK.done (ex_ [_,_] (an_ (an_ rfl (an_ rfl tt_)) (gives tt_)))
   ·refine Qa hC [.br false,.n 11,.keep [6,7] []] rfl ⟨tt_,hc15⟩ ?_
    cases h
    exact AK.done (ex_ [_,_] (an_ (an_ rfl (an_ rfl tt_)) (gives tt_)))
def Qfr (e11:Qr)(vars3:(List Int))(n1:TNet)(x15:Int)(l16:(List Int)):Option ((Int×(List Int))⊕(Unit⊕(List Int))):=
 bif (decide (x15<(e11.Vars.length:Int)))then
 (idx e11.Vars x15).bind fun e21=>
 (idx vars3 x15).bind fun e22=>
 (QfA n1.Colours e21.Colour e22).bind fun x23=>
 bif (!x23.2)then
 some (.inr (.inl ()))
 else
 (idx l16 x15).bind fun e25=>
 some (.inl ((w64 (x15+1)),(l16.set x15.toNat x23.1)))
 else
 some (.inr (.inr l16))
def QkX : Option ((List Int)×Int):=
 some (([]:List Int),1)
def QkY (l19:(List Int)):Option ((List Int)×Int):=
 some (l19,0)
def QgV (n1:TNet)(task2:Int)(vars3:(List Int)):Option ((List Int)×Int):=
 bif ((decide (task2<0))||(decide ((n1.Tasks.length:Int)≤task2)))then
 some (([]:List Int),3)
 else
 (idx n1.Tasks task2).bind fun e11=>
 bif ((vars3.length:Int) != (e11.Vars.length:Int))then
 some (([]:List Int),1)
 else
 (chk (decide (0≤(e11.Vars.length:Int))&&decide ((e11.Vars.length:Int)≤(e11.Vars.length:Int))&&decide ((e11.Vars.length:Int)≤4294967296))).bind fun _=>
 (QE (fun st=>Qfr e11 vars3 n1 st.1 st.2) (0,(List.replicate (e11.Vars.length:Int).toNat (0:Int)))).bind (Sum.elim (fun q=>QkX) (fun q=>QkY q))
theorem QkZ (n1:TNet)(task2:Int)(vars3:(List Int)){r:((List Int)×Int)}(h:QgV n1 task2 vars3=some r):Qc Tryz.prog 51 [.agg (Qd n1),.i .i64 task2,.sl 1 (vars3.map Qe)] [] (Gives (.tup [.sl 1 (r.1.map Qe),.i .i64 r.2]) []):=by
 refine Qc.walk 64 Tryz.func51 rfl Tryz.ntmps51 rfl fun C hC=>?_
 unfold QgV at h
 refine Qa hC [.n 9] rfl tt_ ?_
 refine AK.meetX (fun σ=>σ=⟨[(1,.i .i64 task2),(2,.sl 1 (vars3.map Qe)),(3,.loc 3 0 0),(22,.b ((decide (task2<0))||(decide ((n1.Tasks.length:Int)≤task2))))],[(3,.var (Qd n1))]⟩) ?_ ?_
 ·refine Qa hC [.n 4] rfl tt_ ?_
  rcases QK (decide (task2<0))with hc9 | hc9
  ·refine Qa hC [.say 16 (.b true),.n 7,.say 22 (.b ((decide (task2<0))||(decide ((n1.Tasks.length:Int)≤task2)))),.keep [1,2,3,22] [3]] rfl ⟨⟨tt_,(congrArg V.b hc9)⟩,(congrArg V.b (orT hc9 rfl))⟩ ?_
   exact AK.met rfl
  ·refine Qa hC [.say 16 (.b false),.n 3,.o (.ln n1.Tasks.length),.n 3,.say 22 (.b ((decide (task2<0))||(decide ((n1.Tasks.length:Int)≤task2)))),.keep [1,2,3,22] [3]] rfl ⟨⟨⟨tt_,(congrArg V.b hc9)⟩,Qh⟩,(congrArg V.b (orF hc9 rfl))⟩ ?_
   exact AK.met rfl
 ·rintro σ rfl
  refine Qa hC [.n 1] rfl tt_ ?_
  rcases bifE h with⟨hc10,h⟩|⟨hc10,h⟩
  ·refine Qa hC [.br true,.n 8,.denil 6 [some 1],.keep [6,7] []] rfl ⟨tt_,hc10⟩ ?_
   cases h
   exact AK.done (ex_ [_,_] (an_ (an_ rfl (an_ rfl tt_)) (gives tt_)))
  ·obtain⟨e11,he11,h⟩:=Qb h
   refine Qa hC [.br false,.n 7,.o (.row (Qi e11)),.n 9,.o (.ln vars3.length),.n 1,.o (.ln e11.Vars.length),.n 3] rfl ⟨⟨⟨⟨tt_,hc10⟩,(idxM he11)⟩,Qh⟩,Qh⟩ ?_
   rcases bifE h with⟨hc12,h⟩|⟨hc12,h⟩
   ·refine Qa hC [.br true,.n 8,.denil 6 [some 1],.keep [6,7] []] rfl ⟨tt_,hc12⟩ ?_
    cases h
    exact AK.done (ex_ [_,_] (an_ (an_ rfl (an_ rfl tt_)) (gives tt_)))
   ·obtain⟨_,hk13,h⟩:=Qb h
    replace hk13:=chkE hk13
    refine Qa hC [.br false,.n 5,.o (.ln e11.Vars.length),.o (.rows ((List.replicate (e11.Vars.length:Int).toNat (0:Int)).map Qe)),.say 36 (.own 36 (List.replicate (e11.Vars.length:Int).toNat (0:Int)).length),.n 7,.o (.ln e11.Vars.length),.n 4,.keep [2,3,9,37,38,39] [3,36]] rfl ⟨⟨⟨⟨⟨tt_,hc12⟩,Qh⟩,⟨hk13,Qtz rfl⟩⟩,(by simp)⟩,Qh⟩ ?_
    obtain⟨o26,hl26,h⟩:=Qb h
    refine AK.loop (body:=(fun st=>Qfr e11 vars3 n1 st.1 st.2)) (fun st σ=>σ=⟨[(2,.sl 1 (vars3.map Qe)),(3,.loc 3 0 0),(9,.own 36 st.2.length),(37,.sl 2 (e11.Vars.map QC)),(38,.i .i64 (e11.Vars.length:Int)),(39,.i .i64 st.1)],[(3,.var (Qd n1)),(36,.arr 1 (st.2.map Qe))]⟩) (Sum.elim (fun q e σ=>e=.ret∧σ=⟨[(6,.lit (.slice none 0 0)),(7,.i .i64 1)],[]⟩) (fun q e σ=>e=.exit 0∧σ=⟨[(9,.own 36 q.length)],[(36,.arr 1 (q.map Qe))]⟩)) hl26 rfl ?_ ?_
    ·rintro ⟨x15,l16⟩ o σ rfl h
     replace h:Qfr e11 vars3 n1 x15 l16=some o:=h
     unfold Qfr at h
     refine Qa hC [.n 6] rfl tt_ ?_
     rcases bifE h with⟨hc20,h⟩|⟨hc20,h⟩
     ·obtain⟨e21,he21,h⟩:=Qb h
      obtain⟨e22,he22,h⟩:=Qb h
      obtain⟨x23,hx23,h⟩:=Qb h
      refine Qa hC [.br true,.n 7,.o (.row (QC e21)),.v .no [] (.agg (QC e21)),.n 3,.sayO 11 (.var (QC e21)),.n 3,.keep [2,3,9,10,11,37,38,39] [3,11,36]] rfl ⟨⟨⟨⟨tt_,hc20⟩,(idxM he21)⟩,rfl⟩,rfl⟩ ?_
      refine AK.draw2 Qo hC mixed [.a .no none false,.a .no none false,.a .no none false,.a .no none false,.a .no none false,.a .no none false,.a (.row (Qe e22)) none false,.a .no none false,.a (.c false [.d,.d,.d] (.tup [.i .i64 x23.1,.b x23.2])) none false,.a .no none false,.a .no none false,.a .no none false,.a .no none false,.a .no none false] [] [] [2,3,9,10,12,13,37,38,39] [3,36] rfl rfl rfl ⟨⟨tt_,(idxM he22)⟩,(Qon _ _ _ hx23)⟩ rfl (by kernel_rfl) rfl rfl rfl ?_
      refine Qa hC [.n 8] rfl tt_ ?_
      rcases bifE h with⟨hc24,h⟩|⟨hc24,h⟩
      ·refine Qa hC [.br true,.n 10,.keep [6,7] []] rfl ⟨tt_,hc24⟩ ?_
       cases h
       exact rndR rfl (an_ rfl rfl)
      ·obtain⟨e25,he25,h⟩:=Qb h
       refine Qa hC [.br false,.n 7,.st (Qe e25) ((l16.set x15.toNat x23.1).map Qe),.n 7,.say 9 (.own 36 (l16.set x15.toNat x23.1).length),.keep [2,3,9,37,38,39] [3,36]] rfl ⟨⟨⟨⟨tt_,hc24⟩,(Qdc he25 rfl)⟩,⟨(QbJ (idxE he25).2),QjB rfl⟩⟩,(congrArg (fun n=>V.own 36 n) (by simp))⟩ ?_
       cases h
       exact rndN rfl rfl
     ·refine Qa hC [.br false,.n 2,.keep [9] [36]] rfl ⟨tt_,hc20⟩ ?_
      cases h
      exact rndX rfl (an_ rfl rfl)
    ·rcases o26 with(_ | l19)
     ·replace h:QkX=some r:=h
      unfold QkX at h
      rintro e σ ⟨rfl,rfl⟩
      refine Qa hC [.n 2,.denil 6 [some 1],.keep [6,7] []] rfl tt_ ?_
      cases h
      exact AK.done (ex_ [_,_] (an_ (an_ rfl (an_ rfl tt_)) (gives tt_)))
     ·replace h:QkY l19=some r:=h
      unfold QkY at h
      rintro e σ ⟨rfl,rfl⟩
      refine Qa hC [.n 10,.frz 36 (l19.map Qe) [6] [],.keep [6,7] []] rfl ⟨tt_,⟨tt_,(frzL Qh)⟩⟩ ?_
      cases h
      exact AK.done (ex_ [_,_] (an_ (an_ rfl (an_ rfl tt_)) (gives tt_)))
def Qgn (n1:TNet)(m2:(List (List (Int×Int))))(task3:Int)(vars4:(List Int)):Option (Int×QB):=
 (QgV n1 task3 vars4).bind fun x9=>
 bif (x9.2 != 0)then
 some (x9.2,(QB.mk (TNet.mk ([]:(List Qy)) ([]:(List QA)) ([]:(List Qr)) 0 0) ([]:(List (List (Int×Int)))) (Qr.mk (⟨#[]⟩:ByteArray) ([]:(List TVar)) (Qf.mk 0 0 ([]:(List Qf))) 0 0 ([]:(List TArc)) ([]:(List TArc)) ([]:(List Int)) 0 (0,0,0)) ([]:(List Int))))
 else
 (idx n1.Tasks task3).bind fun e11=>
 some (0,(QB.mk n1 m2 e11 x9.1))
theorem Qmm (n1:TNet)(m2:(List (List (Int×Int))))(task3:Int)(vars4:(List Int)){r:(Int×QB)}(h:Qgn n1 m2 task3 vars4=some r):Qc Tryz.prog 70 [.agg (Qd n1),.sl 1 (m2.map Qg),.i .i64 task3,.sl 1 (vars4.map Qe)] [] (Gives (.tup [.agg (Qp r.2),.i .i64 r.1]) []):=by
 refine Qc.walk 32 Tryz.func70 rfl Tryz.ntmps70 rfl fun C hC=>?_
 unfold Qgn at h
 obtain⟨x9,hx9,h⟩:=Qb h
 refine Qa hC [.n 9,.v .no [] (.agg (Qd n1)),.n 2,.o (.c false [.d,.d,.d] (.tup [.sl 1 (x9.1.map Qe),.i .i64 x9.2])),.n 14] rfl ⟨⟨tt_,rfl⟩,(QkZ _ _ _ hx9)⟩ ?_
 rcases bifE h with⟨hc10,h⟩|⟨hc10,h⟩
 ·refine Qa hC [.br true,.n 2,.v .no [some 7,some 3,some 14,none,none,some 1,none,some 2,none,none,some 3,none,none,some 4,some 4,some 1,none,none,none,none,some 1] (.agg (Qp (QB.mk (TNet.mk ([]:(List Qy)) ([]:(List QA)) ([]:(List Qr)) 0 0) ([]:(List (List (Int×Int)))) (Qr.mk (⟨#[]⟩:ByteArray) ([]:(List TVar)) (Qf.mk 0 0 ([]:(List Qf))) 0 0 ([]:(List TArc)) ([]:(List TArc)) ([]:(List Int)) 0 (0,0,0)) ([]:(List Int))))),.n 2,.sayO 8 (.var (Qp (QB.mk (TNet.mk ([]:(List Qy)) ([]:(List QA)) ([]:(List Qr)) 0 0) ([]:(List (List (Int×Int)))) (Qr.mk (⟨#[]⟩:ByteArray) ([]:(List TVar)) (Qf.mk 0 0 ([]:(List Qf))) 0 0 ([]:(List TArc)) ([]:(List TArc)) ([]:(List Int)) 0 (0,0,0)) ([]:(List Int))))),.n 5,.keep [8,9] [8]] rfl ⟨⟨⟨tt_,hc10⟩,rfl⟩,rfl⟩ ?_
  cases h
  exact AK.done (ex_ [_,_] (an_ (an_ (ex_ _ (ex_ _ (an_ rfl (an_ rfl (Or.inl (an_ (Qo.ag rfl) (an_ (Qo.sz rfl) rfl))))))) (an_ rfl tt_)) (gives tt_)))
 ·obtain⟨e11,he11,h⟩:=Qb h
  refine Qa hC [.br false,.n 3,.keep [1,2,4,8,9,10] [4,8]] rfl ⟨tt_,hc10⟩ ?_
  refine AK.draw2 Qo hC mixed [.a .no (some ([],.agg (Qd n1))) false,.a .no none false,.a .no none false,.a .no none false,.a .no none false,.a (.row (Qi e11)) none false,.a .no (some ([],.agg (Qi e11))) false,.a .no none false,.a .no (some ([],.agg (Qp (QB.mk n1 m2 e11 x9.1)))) false,.m .s,.m .s] [] [] [8,9] [8] rfl rfl rfl ⟨⟨⟨⟨tt_,rfl⟩,(idxM he11)⟩,rfl⟩,rfl⟩ rfl (by kernel_rfl) rfl rfl rfl ?_
  refine Qa hC [.sayO 8 (.var (Qp (QB.mk n1 m2 e11 x9.1))),.n 2,.keep [8,9] [8]] rfl ⟨tt_,rfl⟩ ?_
  cases h
  exact AK.done (ex_ [_,_] (an_ (an_ (ex_ _ (ex_ _ (an_ rfl (an_ rfl (Or.inl (an_ (Qo.ag rfl) (an_ (Qo.sz rfl) rfl))))))) (an_ rfl tt_)) (gives tt_)))
def QdQ (e1:Qf)(rec_expr_Depth:Qf→Option Int)(n3:Int)(x4:Int):Option ((Int×Int)⊕Int):=
 bif (decide (x4<(e1.Kids.length:Int)))then
 (idx e1.Kids x4).bind fun e9=>
 (rec_expr_Depth e9).bind fun x10=>
 some (.inl ((max2 n3 x10),(w64 (x4+1))))
 else
 some (.inr n3)
def QhH (n7:Int):Option Int:=
 some (w64 (n7+1))
def Qim (rec_expr_Depth:Qf→Option Int)(e1:Qf):Option Int:=
 (QE (fun st=>QdQ e1 rec_expr_Depth st.1 st.2) (0,0)).bind (fun q=>QhH q)
def Qdo : Nat→Qf→Option Int
 | 0,_=>none
 | n+1,e1=>Qim (Qdo n) e1
def QlD (e1:Qf):Option Int:=Qdo (SizeOf.sizeOf e1) e1
theorem Qo5 (rec_expr_Depth:Qf→Option Int)(hrec_expr_Depth:∀(e1:Qf) {r:Int},rec_expr_Depth e1=some r→Qc Tryz.prog 178 [.agg (Ql e1)] [] (Gives (.i .i64 r) []))(e1:Qf){r:Int}(h:Qim rec_expr_Depth e1=some r):Qc Tryz.prog 178 [.agg (Ql e1)] [] (Gives (.i .i64 r) []):=by
 refine Qc.walk 20 Tryz.func178 rfl Tryz.ntmps178 rfl fun C hC=>?_
 unfold Qim at h
 refine Qa hC [.n 16,.o (.ln e1.Kids.length),.n 4,.keep [3,7,8,9] []] rfl ⟨tt_,Qil _⟩ ?_
 obtain⟨n7,hl11,h⟩:=Qb h
 refine AK.loop (body:=(fun st=>QdQ e1 rec_expr_Depth st.1 st.2)) (fun st σ=>σ=⟨[(3,.i .i64 st.1),(7,.sl 3 (QaF e1.Kids)),(8,.i .i64 (e1.Kids.length:Int)),(9,.i .i64 st.2)],[]⟩) (fun q e σ=>e=.exit 0∧σ=⟨[(3,.i .i64 q)],[]⟩) hl11 rfl ?_ ?_
 ·rintro ⟨n3,x4⟩ o σ rfl h
  replace h:QdQ e1 rec_expr_Depth n3 x4=some o:=h
  unfold QdQ at h
  refine Qa hC [.n 6] rfl tt_ ?_
  rcases bifE h with⟨hc8,h⟩|⟨hc8,h⟩
  ·obtain⟨e9,he9,h⟩:=Qb h
   obtain⟨x10,hx10,h⟩:=Qb h
   refine Qa hC [.br true,.n 6,.o (.row (Ql e9)),.v .no [] (.agg (Ql e9)),.n 2,.sayO 5 (.var (Ql e9)),.n 4,.v .no [] (.agg (Ql e9)),.o (.c false [.d] (.i .i64 x10)),.n 9,.keep [3,7,8,9] []] rfl ⟨⟨⟨⟨⟨⟨tt_,hc8⟩,(Qdw he9)⟩,rfl⟩,rfl⟩,rfl⟩,(hrec_expr_Depth _ hx10)⟩ ?_
   cases h
   exact rndN rfl rfl
  ·refine Qa hC [.br false,.n 2,.keep [3] []] rfl ⟨tt_,hc8⟩ ?_
   cases h
   exact rndX rfl (an_ rfl rfl)
 ·replace h:QhH n7=some r:=h
  unfold QhH at h
  rintro e σ ⟨rfl,rfl⟩
  refine Qa hC [.n 10,.keep [2] []] rfl tt_ ?_
  cases h
  exact AK.done (ex_ [_] (an_ (an_ rfl tt_) (gives tt_)))
theorem Qlf : ∀(fuel:Nat) (e1:Qf) {r:Int},Qdo fuel e1=some r→Qc Tryz.prog 178 [.agg (Ql e1)] [] (Gives (.i .i64 r) [])
 | 0,_,_,h=>by cases h
 | n+1,e1,_,h=>Qo5 (Qdo n) (fun _ _ h=>Qlf n _ h) e1 h
theorem Qqq (e1:Qf){r:Int}(h:QlD e1=some r):Qc Tryz.prog 178 [.agg (Ql e1)] [] (Gives (.i .i64 r) []):=Qlf _ e1 h
def Qey (e1:Qf)(rec_expr_Size:Qf→Option Int)(n3:Int)(x4:Int):Option ((Int×Int)⊕Int):=
 bif (decide (x4<(e1.Kids.length:Int)))then
 (idx e1.Kids x4).bind fun e9=>
 (rec_expr_Size e9).bind fun x10=>
 some (.inl ((w64 (n3+x10)),(w64 (x4+1))))
 else
 some (.inr n3)
def Qin (n7:Int):Option Int:=
 some n7
def Qi0 (rec_expr_Size:Qf→Option Int)(e1:Qf):Option Int:=
 (QE (fun st=>Qey e1 rec_expr_Size st.1 st.2) (1,0)).bind (fun q=>Qin q)
def Qd4 : Nat→Qf→Option Int
 | 0,_=>none
 | n+1,e1=>Qi0 (Qd4 n) e1
def Qmv (e1:Qf):Option Int:=Qd4 (SizeOf.sizeOf e1) e1
theorem QpI (rec_expr_Size:Qf→Option Int)(hrec_expr_Size:∀(e1:Qf) {r:Int},rec_expr_Size e1=some r→Qc Tryz.prog 179 [.agg (Ql e1)] [] (Gives (.i .i64 r) []))(e1:Qf){r:Int}(h:Qi0 rec_expr_Size e1=some r):Qc Tryz.prog 179 [.agg (Ql e1)] [] (Gives (.i .i64 r) []):=by
 refine Qc.walk 19 Tryz.func179 rfl Tryz.ntmps179 rfl fun C hC=>?_
 unfold Qi0 at h
 refine Qa hC [.n 16,.o (.ln e1.Kids.length),.n 4,.keep [3,7,8,9] []] rfl ⟨tt_,Qil _⟩ ?_
 obtain⟨n7,hl11,h⟩:=Qb h
 refine AK.loop (body:=(fun st=>Qey e1 rec_expr_Size st.1 st.2)) (fun st σ=>σ=⟨[(3,.i .i64 st.1),(7,.sl 3 (QaF e1.Kids)),(8,.i .i64 (e1.Kids.length:Int)),(9,.i .i64 st.2)],[]⟩) (fun q e σ=>e=.exit 0∧σ=⟨[(3,.i .i64 q)],[]⟩) hl11 rfl ?_ ?_
 ·rintro ⟨n3,x4⟩ o σ rfl h
  replace h:Qey e1 rec_expr_Size n3 x4=some o:=h
  unfold Qey at h
  refine Qa hC [.n 6] rfl tt_ ?_
  rcases bifE h with⟨hc8,h⟩|⟨hc8,h⟩
  ·obtain⟨e9,he9,h⟩:=Qb h
   obtain⟨x10,hx10,h⟩:=Qb h
   refine Qa hC [.br true,.n 6,.o (.row (Ql e9)),.v .no [] (.agg (Ql e9)),.n 2,.sayO 5 (.var (Ql e9)),.n 4,.v .no [] (.agg (Ql e9)),.o (.c false [.d] (.i .i64 x10)),.n 9,.keep [3,7,8,9] []] rfl ⟨⟨⟨⟨⟨⟨tt_,hc8⟩,(Qdw he9)⟩,rfl⟩,rfl⟩,rfl⟩,(hrec_expr_Size _ hx10)⟩ ?_
   cases h
   exact rndN rfl rfl
  ·refine Qa hC [.br false,.n 2,.keep [3] []] rfl ⟨tt_,hc8⟩ ?_
   cases h
   exact rndX rfl (an_ rfl rfl)
 ·replace h:Qin n7=some r:=h
  unfold Qin at h
  rintro e σ ⟨rfl,rfl⟩
  refine Qa hC [.n 9,.keep [2] []] rfl tt_ ?_
  cases h
  exact AK.done (ex_ [_] (an_ (an_ rfl tt_) (gives tt_)))
theorem QlE : ∀(fuel:Nat) (e1:Qf) {r:Int},Qd4 fuel e1=some r→Qc Tryz.prog 179 [.agg (Ql e1)] [] (Gives (.i .i64 r) [])
 | 0,_,_,h=>by cases h
 | n+1,e1,_,h=>QpI (Qd4 n) (fun _ _ h=>QlE n _ h) e1 h
theorem Qq3 (e1:Qf){r:Int}(h:Qmv e1=some r):Qc Tryz.prog 179 [.agg (Ql e1)] [] (Gives (.i .i64 r) []):=QlE _ e1 h
def Qez (kind1:Int)(x6:Bool):Option Int:=
 bif x6 then
 some 1
 else
 bif (kind1==5)then
 some 2
 else
 bif (kind1==6)then
 some 3
 else
 some (-1)
def QeA (kind1:Int)(x4:Bool):Option Int:=
 bif x4 then
 some 0
 else
 bif (kind1==3)then
 Qez kind1 (kind1==3)
 else
 Qez kind1 (kind1==4)
def QiM (kind1:Int):Option Int:=
 bif (kind1==1)then
 QeA kind1 (kind1==1)
 else
 QeA kind1 (kind1==2)
theorem Qq4 (kind1:Int){r:Int}(h:QiM kind1=some r):Qc Tryz.prog 208 [.i .i64 kind1] [] (Gives (.i .i64 r) []):=by
 refine Qc.walk 14 Tryz.func208 rfl Tryz.ntmps208 rfl fun C hC=>?_
 unfold QiM at h
 refine Qa hC [.n 12] rfl tt_ ?_
 refine AK.meet (fun σ=>∃x4:Bool,σ=⟨[(3,.i .i64 kind1),(4,.b x4)],[]⟩∧QeA kind1 x4=some r) ?_ ?_
 ·refine Qa hC [.n 6] rfl tt_ ?_
  rcases bifE h with⟨hc11,h⟩|⟨hc11,h⟩
  ·refine Qa hC [.br true,.n 1,.keep [3,4] []] rfl ⟨tt_,hc11⟩ ?_
   exact AK.met (ex_ _ (an_ rfl h))
  ·refine Qa hC [.br false,.n 4,.keep [3,4] []] rfl ⟨tt_,hc11⟩ ?_
   exact AK.met (ex_ _ (an_ rfl h))
 ·rintro σ ⟨x4,rfl,h⟩
  unfold QeA at h
  rcases bifE h with⟨hc5,h⟩|⟨hc5,h⟩
  ·refine Qa hC [.br true,.n 8,.keep [2] []] rfl ⟨tt_,hc5⟩ ?_
   cases h
   exact AK.done (ex_ [_] (an_ (an_ rfl tt_) (gives tt_)))
  ·refine Qa hC [.br false] rfl ⟨tt_,hc5⟩ ?_
   refine AK.meet (fun σ=>∃x6:Bool,σ=⟨[(3,.i .i64 kind1),(7,.b x6)],[]⟩∧Qez kind1 x6=some r) ?_ ?_
   ·refine Qa hC [.n 6] rfl tt_ ?_
    rcases bifE h with⟨hc10,h⟩|⟨hc10,h⟩
    ·refine Qa hC [.br true,.n 1,.keep [3,7] []] rfl ⟨tt_,hc10⟩ ?_
     exact AK.met (ex_ _ (an_ rfl h))
    ·refine Qa hC [.br false,.n 4,.keep [3,7] []] rfl ⟨tt_,hc10⟩ ?_
     exact AK.met (ex_ _ (an_ rfl h))
   ·rintro σ ⟨x6,rfl,h⟩
    unfold Qez at h
    rcases bifE h with⟨hc7,h⟩|⟨hc7,h⟩
    ·refine Qa hC [.br true,.n 8,.keep [2] []] rfl ⟨tt_,hc7⟩ ?_
     cases h
     exact AK.done (ex_ [_] (an_ (an_ rfl tt_) (gives tt_)))
    ·refine Qa hC [.br false,.n 6] rfl ⟨tt_,hc7⟩ ?_
     rcases bifE h with⟨hc8,h⟩|⟨hc8,h⟩
     ·refine Qa hC [.br true,.n 8,.keep [2] []] rfl ⟨tt_,hc8⟩ ?_
      cases h
      exact AK.done (ex_ [_] (an_ (an_ rfl tt_) (gives tt_)))
     ·refine Qa hC [.br false,.n 6] rfl ⟨tt_,hc8⟩ ?_
      rcases bifE h with⟨hc9,h⟩|⟨hc9,h⟩
      ·refine Qa hC [.br true,.n 8,.keep [2] []] rfl ⟨tt_,hc9⟩ ?_
       cases h
       exact AK.done (ex_ [_] (an_ (an_ rfl tt_) (gives tt_)))
      ·refine Qa hC [.br false,.n 9,.keep [2] []] rfl ⟨tt_,hc9⟩ ?_
       cases h
       exact AK.done (ex_ [_] (an_ (an_ rfl tt_) (gives tt_)))
def QhY (op1:Int):Option Bool:=
 some ((decide (1≤op1))&&(decide (op1≤11)))
theorem Qqr (op1:Int){r:Bool}(h:QhY op1=some r):Qc Tryz.prog 209 [.i .i64 op1] [] (Gives (.b r) []):=by
 refine Qc.walk 9 Tryz.func209 rfl Tryz.ntmps209 rfl fun C hC=>?_
 unfold QhY at h
 refine Qa hC [.n 6] rfl tt_ ?_
 refine AK.meetX (fun σ=>σ=⟨[(2,.b ((decide (1≤op1))&&(decide (op1≤11))))],[]⟩) ?_ ?_
 ·refine Qa hC [.n 4] rfl tt_ ?_
  rcases QK (decide (1≤op1))with hc4 | hc4
  ·refine Qa hC [.say 5 (.b true),.n 5,.say 2 (.b ((decide (1≤op1))&&(decide (op1≤11)))),.keep [2] []] rfl ⟨⟨tt_,(congrArg V.b hc4)⟩,(congrArg V.b (andT hc4 rfl))⟩ ?_
   exact AK.met rfl
  ·refine Qa hC [.say 5 (.b false),.n 5,.say 2 (.b ((decide (1≤op1))&&(decide (op1≤11)))),.keep [2] []] rfl ⟨⟨tt_,(congrArg V.b hc4)⟩,(congrArg V.b (andF hc4 rfl))⟩ ?_
   exact AK.met rfl
 ·rintro σ rfl
  refine Qa hC [.n 2,.keep [2] []] rfl tt_ ?_
  cases h
  exact AK.done (ex_ [_] (an_ (an_ rfl tt_) (gives tt_)))
def Qio (rec_expr_parts:Qf→Int→Option Bool)(k1:Qf)(v2:Int):Option Bool:=
 (rec_expr_parts k1 v2).bind fun x4=>
 some (!x4)
theorem Qo6 (rec_expr_parts:Qf→Int→Option Bool)(hrec_expr_parts:∀(e1:Qf) (vars2:Int) {r:Bool},rec_expr_parts e1 vars2=some r→Qc Tryz.prog 180 [.agg (Ql e1),.i .i64 vars2] [] (Gives (.b r) []))(k1:Qf)(v2:Int){r:Bool}(h:Qio rec_expr_parts k1 v2=some r):Qc Tryz.prog 211 [.agg (Ql k1),.loc 200000 0 0] [(200000,.var (Qe v2))] (Gives (.b r) [(200000,.var (Qe v2))]):=by
 refine Qc.walk 8 Tryz.func211 rfl Tryz.ntmps211 rfl fun C hC=>?_
 unfold Qio at h
 obtain⟨x4,hx4,h⟩:=Qb h
 refine Qa hC [.n 8,.v .no [] (.agg (Ql k1)),.n 1,.o (.c false [.d,.d] (.b x4)),.n 5,.keep [3] [200000]] rfl ⟨⟨tt_,rfl⟩,(hrec_expr_parts _ _ hx4)⟩ ?_
 cases h
 exact AK.done (ex_ [_] (an_ (an_ rfl tt_) (gives ⟨rfl,tt_⟩)))
def QQ (s1:(List Qf))(rec_expr_parts:Qf→Int→Option Bool)(v2:Int)(x5:Int):Option (Int⊕(Int⊕Unit)):=
 bif (decide (x5<(s1.length:Int)))then
 (idx s1 x5).bind fun e9=>
 (Qio rec_expr_parts e9 v2).bind fun x10=>
 bif x10 then
 some (.inr (.inl x5))
 else
 some (.inl (w64 (x5+1)))
 else
 some (.inr (.inr ()))
def Qbm (x7:Int):Option Int:=
 some x7
def Qbn : Option Int:=
 some (-1)
def QaN (rec_expr_parts:Qf→Int→Option Bool)(s1:(List Qf))(v2:Int):Option Int:=
 (QE (fun st=>QQ s1 rec_expr_parts v2 st) 0).bind (Sum.elim (fun q=>Qbm q) (fun q=>Qbn))
theorem Qhc (rec_expr_parts:Qf→Int→Option Bool)(hrec_expr_parts:∀(e1:Qf) (vars2:Int) {r:Bool},rec_expr_parts e1 vars2=some r→Qc Tryz.prog 180 [.agg (Ql e1),.i .i64 vars2] [] (Gives (.b r) []))(s1:(List Qf))(v2:Int){r:Int}(h:QaN rec_expr_parts s1 v2=some r):Qc Tryz.prog 239 [.sl 3 (QaF s1),.clo (.func 211) [] [.loc 200000 0 0]] [(200000,.var (Qe v2))] (Gives (.i .i64 r) [(200000,.var (Qe v2))]):=by
 refine Qc.walk 19 Tryz.func239 rfl Tryz.ntmps239 rfl fun C hC=>?_
 unfold QaN at h
 refine Qa hC [.n 9,.o (.ln s1.length),.n 4,.keep [0,1,7,8] [200000]] rfl ⟨tt_,Qil _⟩ ?_
 obtain⟨o12,hl12,h⟩:=Qb h
 refine AK.loop (body:=(fun st=>QQ s1 rec_expr_parts v2 st)) (fun st σ=>σ=⟨[(0,.sl 3 (QaF s1)),(1,.clo (.func 211) [] [.loc 200000 0 0]),(7,.i .i64 (s1.length:Int)),(8,.i .i64 st)],[(200000,.var (Qe v2))]⟩) (Sum.elim (fun q e σ=>e=.ret∧σ=⟨[(4,.i .i64 q)],[(200000,.var (Qe v2))]⟩) (fun q e σ=>e=.exit 0∧σ=⟨[],[(200000,.var (Qe v2))]⟩)) hl12 rfl ?_ ?_
 ·rintro x5 o σ rfl h
  replace h:QQ s1 rec_expr_parts v2 x5=some o:=h
  unfold QQ at h
  refine Qa hC [.n 6] rfl tt_ ?_
  rcases bifE h with⟨hc8,h⟩|⟨hc8,h⟩
  ·obtain⟨e9,he9,h⟩:=Qb h
   obtain⟨x10,hx10,h⟩:=Qb h
   refine Qa hC [.br true,.n 15,.o (.row (Ql e9)),.v .no [] (.agg (Ql e9)),.cm (.clo) [(200000,200000)] [(200000,200000)] [] [.d,.d] [(200000,.var (Qe v2))] (.b x10),.n 2] rfl ⟨⟨⟨⟨tt_,hc8⟩,(Qdw he9)⟩,rfl⟩,(Qo6 rec_expr_parts hrec_expr_parts _ _ hx10)⟩ ?_
   rcases bifE h with⟨hc11,h⟩|⟨hc11,h⟩
   ·refine Qa hC [.br true,.n 9,.keep [4] [200000]] rfl ⟨tt_,hc11⟩ ?_
    cases h
    exact rndR rfl (an_ rfl rfl)
   ·refine Qa hC [.br false,.n 7,.keep [0,1,7,8] [200000]] rfl ⟨tt_,hc11⟩ ?_
    cases h
    exact rndN rfl rfl
  ·refine Qa hC [.br false,.n 2,.keep [] [200000]] rfl ⟨tt_,hc8⟩ ?_
   cases h
   exact rndX rfl (an_ rfl rfl)
 ·rcases o12 with(x7 | _)
  ·replace h:Qbm x7=some r:=h
   unfold Qbm at h
   rintro e σ ⟨rfl,rfl⟩
   refine Qa hC [.n 2,.keep [4] [200000]] rfl tt_ ?_
   cases h
   exact AK.done (ex_ [_] (an_ (an_ rfl tt_) (gives ⟨rfl,tt_⟩)))
  ·replace h:Qbn=some r:=h
   unfold Qbn at h
   rintro e σ ⟨rfl,rfl⟩
   refine Qa hC [.n 8,.keep [4] [200000]] rfl tt_ ?_
   cases h
   exact AK.done (ex_ [_] (an_ (an_ rfl tt_) (gives ⟨rfl,tt_⟩)))
def Q6 (rec_expr_parts:Qf→Int→Option Bool)(s1:(List Qf))(v2:Int):Option Bool:=
 (QaN rec_expr_parts s1 v2).bind fun x4=>
 some (decide (0≤x4))
theorem Qgo (rec_expr_parts:Qf→Int→Option Bool)(hrec_expr_parts:∀(e1:Qf) (vars2:Int) {r:Bool},rec_expr_parts e1 vars2=some r→Qc Tryz.prog 180 [.agg (Ql e1),.i .i64 vars2] [] (Gives (.b r) []))(s1:(List Qf))(v2:Int){r:Bool}(h:Q6 rec_expr_parts s1 v2=some r):Qc Tryz.prog 210 [.sl 3 (QaF s1),.clo (.func 211) [] [.loc 200000 0 0]] [(200000,.var (Qe v2))] (Gives (.b r) [(200000,.var (Qe v2))]):=by
 refine Qc.walk 9 Tryz.func210 rfl Tryz.ntmps210 rfl fun C hC=>?_
 unfold Q6 at h
 obtain⟨x4,hx4,h⟩:=Qb h
 refine Qa hC [.n 9,.cm (.fn) [(200000,200000)] [(200000,200000)] [] [.d,.d] [(200000,.var (Qe v2))] (.i .i64 x4),.n 5,.keep [4] [200000]] rfl ⟨tt_,(Qhc rec_expr_parts hrec_expr_parts _ _ hx4)⟩ ?_
 cases h
 exact AK.done (ex_ [_] (an_ (an_ rfl tt_) (gives ⟨rfl,tt_⟩)))
def QjG (e1:Qf):Option Bool:=
 bif (e1.Kind==5)then
 (QhY e1.Num).bind fun x14=>
 some (!x14)
 else
 some false
def QfB (rec_expr_parts:Qf→Int→Option Bool)(e1:Qf)(vars2:Int)(x11:Bool):Option Bool:=
 bif x11 then
 some false
 else
 (Q6 rec_expr_parts e1.Kids vars2).bind fun x16=>
 some (!x16)
def Qip (rec_expr_parts:Qf→Int→Option Bool)(e1:Qf)(vars2:Int):Option Bool:=
 (QiM e1.Kind).bind fun x5=>
 bif ((e1.Kids.length:Int) != x5)then
 some false
 else
 bif ((e1.Kind==2)&&((decide (e1.Num<0))||(decide (vars2≤e1.Num))))then
 some false
 else
 (QjG e1).bind (fun x11=>QfB rec_expr_parts e1 vars2 x11)
def Qdp : Nat→Qf→Int→Option Bool
 | 0,_,_=>none
 | n+1,e1,vars2=>Qip (Qdp n) e1 vars2
def QlF (e1:Qf)(vars2:Int):Option Bool:=Qdp (SizeOf.sizeOf e1) e1 vars2
theorem Qo7 (rec_expr_parts:Qf→Int→Option Bool)(hrec_expr_parts:∀(e1:Qf) (vars2:Int) {r:Bool},rec_expr_parts e1 vars2=some r→Qc Tryz.prog 180 [.agg (Ql e1),.i .i64 vars2] [] (Gives (.b r) []))(e1:Qf)(vars2:Int){r:Bool}(h:Qip rec_expr_parts e1 vars2=some r):Qc Tryz.prog 180 [.agg (Ql e1),.i .i64 vars2] [] (Gives (.b r) []):=by
 refine Qc.walk 43 Tryz.func180 rfl Tryz.ntmps180 rfl fun C hC=>?_
 unfold Qip at h
 obtain⟨x5,hx5,h⟩:=Qb h
 refine Qa hC [.n 10,.keep [2,3] [2,3]] rfl tt_ ?_
 refine AK.draw2 Qo hC mixed [.a .no none false,.a .no none false,.a (.ln e1.Kids.length) none false,.a .no none false,.a .no none false,.a (.c false [.d] (.i .i64 x5)) none false,.a .no none false,.a .no none false] [] [] [2,3,5] [2,3] rfl rfl rfl ⟨⟨tt_,Qil _⟩,(Qq4 _ hx5)⟩ rfl (by kernel_rfl) rfl rfl rfl ?_
 refine Qa hC [.n 1] rfl tt_ ?_
 rcases bifE h with⟨hc6,h⟩|⟨hc6,h⟩
 ·refine Qa hC [.br true,.n 8,.keep [4] []] rfl ⟨tt_,hc6⟩ ?_
  cases h
  exact AK.done (ex_ [_] (an_ (an_ rfl tt_) (gives tt_)))
 ·refine Qa hC [.br false,.n 1] rfl ⟨tt_,hc6⟩ ?_
  refine AK.meetX (fun σ=>σ=⟨[(2,.loc 2 0 0),(3,.loc 3 0 0),(13,.b ((e1.Kind==2)&&((decide (e1.Num<0))||(decide (vars2≤e1.Num)))))],[(2,.var (Ql e1)),(3,.var (Qe vars2))]⟩) ?_ ?_
  ·refine Qa hC [.n 5] rfl tt_ ?_
   rcases QK (e1.Kind==2)with hc8 | hc8
   ·refine Qa hC [.say 17 (.b true),.n 4] rfl ⟨tt_,(congrArg V.b hc8)⟩ ?_
    rcases QK (decide (e1.Num<0))with hc9 | hc9
    ·refine Qa hC [.say 21 (.b true),.n 8,.say 13 (.b ((e1.Kind==2)&&((decide (e1.Num<0))||(decide (vars2≤e1.Num))))),.keep [2,3,13] [2,3]] rfl ⟨⟨tt_,(congrArg V.b hc9)⟩,(congrArg V.b (andT hc8 (orT hc9 rfl)))⟩ ?_
     exact AK.met rfl
    ·refine Qa hC [.say 21 (.b false),.n 8,.say 13 (.b ((e1.Kind==2)&&((decide (e1.Num<0))||(decide (vars2≤e1.Num))))),.keep [2,3,13] [2,3]] rfl ⟨⟨tt_,(congrArg V.b hc9)⟩,(congrArg V.b (andT hc8 (orF hc9 rfl)))⟩ ?_
     exact AK.met rfl
   ·refine Qa hC [.say 17 (.b false),.n 12,.say 13 (.b ((e1.Kind==2)&&((decide (e1.Num<0))||(decide (vars2≤e1.Num))))),.keep [2,3,13] [2,3]] rfl ⟨⟨tt_,(congrArg V.b hc8)⟩,(congrArg V.b (andF hc8 rfl))⟩ ?_
    exact AK.met rfl
  ·rintro σ rfl
   refine Qa hC [.n 1] rfl tt_ ?_
   rcases bifE h with⟨hc10,h⟩|⟨hc10,h⟩
   ·refine Qa hC [.br true,.n 8,.keep [4] []] rfl ⟨tt_,hc10⟩ ?_
    cases h
    exact AK.done (ex_ [_] (an_ (an_ rfl tt_) (gives tt_)))
   ·refine Qa hC [.br false,.n 1] rfl ⟨tt_,hc10⟩ ?_
    obtain⟨x11,hv12,h⟩:=Qb h
    replace h:QfB rec_expr_parts e1 vars2 x11=some r:=h
    refine AK.meetX (fun σ=>σ=⟨[(2,.loc 2 0 0),(3,.loc 3 0 0),(28,.b x11)],[(2,.var (Ql e1)),(3,.var (Qe vars2))]⟩) ?_ ?_
    ·replace h:=hv12
     unfold QjG at h
     refine Qa hC [.n 5] rfl tt_ ?_
     rcases bifE h with⟨hc13,h⟩|⟨hc13,h⟩
     ·obtain⟨x14,hx14,h⟩:=Qb h
      refine Qa hC [.say 32 (.b true),.n 2,.o (.c false [.d] (.b x14)),.n 4,.keep [2,3,28] [2,3]] rfl ⟨⟨tt_,(congrArg V.b hc13)⟩,(Qqr _ hx14)⟩ ?_
      cases h
      exact AK.met rfl
     ·refine Qa hC [.say 32 (.b false),.n 7,.keep [2,3,28] [2,3]] rfl ⟨tt_,(congrArg V.b hc13)⟩ ?_
      cases h
      exact AK.met rfl
    ·rintro σ rfl
     replace h:QfB rec_expr_parts e1 vars2 x11=some r:=h
     unfold QfB at h
     refine Qa hC [.n 1] rfl tt_ ?_
     rcases bifE h with⟨hc15,h⟩|⟨hc15,h⟩
     ·refine Qa hC [.br true,.n 8,.keep [4] []] rfl ⟨tt_,hc15⟩ ?_
      cases h
      exact AK.done (ex_ [_] (an_ (an_ rfl tt_) (gives tt_)))
     ·obtain⟨x16,hx16,h⟩:=Qb h
      refine Qa hC [.br false,.n 8,.cm (.fn) [(200000,3)] [(3,200000)] [] [.d,.d] [(200000,.var (Qe vars2))] (.b x16),.n 5,.keep [4] []] rfl ⟨⟨tt_,hc15⟩,(Qgo rec_expr_parts hrec_expr_parts _ _ hx16)⟩ ?_
      cases h
      exact AK.done (ex_ [_] (an_ (an_ rfl tt_) (gives tt_)))
theorem Qlg : ∀(fuel:Nat) (e1:Qf) (vars2:Int) {r:Bool},Qdp fuel e1 vars2=some r→Qc Tryz.prog 180 [.agg (Ql e1),.i .i64 vars2] [] (Gives (.b r) [])
 | 0,_,_,_,h=>by cases h
 | n+1,e1,vars2,_,h=>Qo7 (Qdp n) (fun _ _ _ h=>Qlg n _ _ h) e1 vars2 h
theorem Qqs (e1:Qf)(vars2:Int){r:Bool}(h:QlF e1 vars2=some r):Qc Tryz.prog 180 [.agg (Ql e1),.i .i64 vars2] [] (Gives (.b r) []):=Qlg _ e1 vars2 h
def QjH (e1:Qf)(vars2:Int):Option Bool:=
 (QlD e1).bind fun x6=>
 bif (decide (x6≤40))then
 (Qmv e1).bind fun x8=>
 bif (decide (x8≤400))then
 (QlF e1 vars2).bind fun x10=>
 some x10
 else
 some false
 else
 some false
def QhI (x4:Bool):Option Bool:=
 some x4
def QeR (e1:Qf)(vars2:Int):Option Bool:=
 (QjH e1 vars2).bind (fun x4=>QhI x4)
theorem QjI (e1:Qf)(vars2:Int){r:Bool}(h:QeR e1 vars2=some r):Qc Tryz.prog 128 [.agg (Ql e1),.i .i64 vars2] [] (Gives (.b r) []):=by
 refine Qc.walk 18 Tryz.func128 rfl Tryz.ntmps128 rfl fun C hC=>?_
 unfold QeR at h
 refine Qa hC [.n 7] rfl tt_ ?_
 obtain⟨x4,hv5,h⟩:=Qb h
 replace h:QhI x4=some r:=h
 refine AK.meetX (fun σ=>σ=⟨[(4,.b x4)],[]⟩) ?_ ?_
 ·replace h:=hv5
  unfold QjH at h
  obtain⟨x6,hx6,h⟩:=Qb h
  refine Qa hC [.n 1,.v .no [] (.agg (Ql e1)),.o (.c false [.d] (.i .i64 x6)),.n 2] rfl ⟨⟨tt_,rfl⟩,(Qqq _ hx6)⟩ ?_
  rcases bifE h with⟨hc7,h⟩|⟨hc7,h⟩
  ·obtain⟨x8,hx8,h⟩:=Qb h
   refine Qa hC [.say 8 (.b true),.v .no [] (.agg (Ql e1)),.o (.c false [.d] (.i .i64 x8)),.n 3] rfl ⟨⟨⟨tt_,(congrArg V.b hc7)⟩,rfl⟩,(Qq3 _ hx8)⟩ ?_
   rcases bifE h with⟨hc9,h⟩|⟨hc9,h⟩
   ·obtain⟨x10,hx10,h⟩:=Qb h
    refine Qa hC [.say 13 (.b true),.v .no [] (.agg (Ql e1)),.n 1,.o (.c false [.d,.d] (.b x10)),.n 3,.keep [4] []] rfl ⟨⟨⟨tt_,(congrArg V.b hc9)⟩,rfl⟩,(Qqs _ _ hx10)⟩ ?_
    cases h
    exact AK.met rfl
   ·refine Qa hC [.say 13 (.b false),.n 6,.keep [4] []] rfl ⟨tt_,(congrArg V.b hc9)⟩ ?_
    cases h
    exact AK.met rfl
  ·refine Qa hC [.say 8 (.b false),.n 11,.keep [4] []] rfl ⟨tt_,(congrArg V.b hc7)⟩ ?_
   cases h
   exact AK.met rfl
 ·rintro σ rfl
  replace h:QhI x4=some r:=h
  unfold QhI at h
  refine Qa hC [.n 2,.keep [4] []] rfl tt_ ?_
  cases h
  exact AK.done (ex_ [_] (an_ (an_ rfl tt_) (gives tt_)))
def Qbe (v1:(List Int))(kind2:Int)(x10:Bool):Option ((List Int)⊕((List Int)⊕((List Int)⊕((List Int)⊕(List Int))))):=
 bif x10 then
 some (.inr (.inr (.inl v1)))
 else
 bif (kind2==5)then
 some (.inr (.inr (.inr (.inl v1))))
 else
 some (.inr (.inr (.inr (.inr v1))))
def Qbx (v1:(List Int))(kind2:Int):Option ((List Int)⊕((List Int)⊕((List Int)⊕((List Int)⊕(List Int))))):=
 bif (kind2==1)then
 some (.inl v1)
 else
 bif (kind2==2)then
 some (.inr (.inl v1))
 else
 bif (kind2==3)then
 Qbe v1 kind2 (kind2==3)
 else
 Qbe v1 kind2 (kind2==4)
theorem QdD (v1:(List Int))(kind2:Int){r:((List Int)⊕((List Int)⊕((List Int)⊕((List Int)⊕(List Int)))))}(h:Qbx v1 kind2=some r):Qc Tryz.prog 202 [.sl 1 (v1.map Qe),.i .i64 kind2] [] ((Sum.elim (fun q=>(Gives (.clo (.func 230) [.sl 1 (q.map Qe)] []) [])) (Sum.elim (fun q=>(Gives (.clo (.func 231) [.sl 1 (q.map Qe)] []) [])) (Sum.elim (fun q=>(Gives (.clo (.func 232) [.sl 1 (q.map Qe)] []) [])) (Sum.elim (fun q=>(Gives (.clo (.func 233) [.sl 1 (q.map Qe)] []) [])) (fun q=>(Gives (.clo (.func 234) [.sl 1 (q.map Qe)] []) [])))))) r):=by
 refine Qc.walk 25 Tryz.func202 rfl Tryz.ntmps202 rfl fun C hC=>?_
 unfold Qbx at h
 refine Qa hC [.n 18] rfl tt_ ?_
 rcases bifE h with⟨hc8,h⟩|⟨hc8,h⟩
 ·refine Qa hC [.br true,.n 10,.keep [4] []] rfl ⟨tt_,hc8⟩ ?_
  cases h
  exact AK.done (ex_ [_] (an_ (an_ rfl tt_) (gives tt_)))
 ·refine Qa hC [.br false,.n 6] rfl ⟨tt_,hc8⟩ ?_
  rcases bifE h with⟨hc9,h⟩|⟨hc9,h⟩
  ·refine Qa hC [.br true,.n 10,.keep [4] []] rfl ⟨tt_,hc9⟩ ?_
   cases h
   exact AK.done (ex_ [_] (an_ (an_ rfl tt_) (gives tt_)))
  ·refine Qa hC [.br false] rfl ⟨tt_,hc9⟩ ?_
   refine AK.meet (fun σ=>∃x10:Bool,σ=⟨[(0,.sl 1 (v1.map Qe)),(5,.i .i64 kind2),(14,.b x10)],[]⟩∧Qbe v1 kind2 x10=some r) ?_ ?_
   ·refine Qa hC [.n 6] rfl tt_ ?_
    rcases bifE h with⟨hc13,h⟩|⟨hc13,h⟩
    ·refine Qa hC [.br true,.n 1,.keep [0,5,14] []] rfl ⟨tt_,hc13⟩ ?_
     exact AK.met (ex_ _ (an_ rfl h))
    ·refine Qa hC [.br false,.n 4,.keep [0,5,14] []] rfl ⟨tt_,hc13⟩ ?_
     exact AK.met (ex_ _ (an_ rfl h))
   ·rintro σ ⟨x10,rfl,h⟩
    unfold Qbe at h
    rcases bifE h with⟨hc11,h⟩|⟨hc11,h⟩
    ·refine Qa hC [.br true,.n 10,.keep [4] []] rfl ⟨tt_,hc11⟩ ?_
     cases h
     exact AK.done (ex_ [_] (an_ (an_ rfl tt_) (gives tt_)))
    ·refine Qa hC [.br false,.n 6] rfl ⟨tt_,hc11⟩ ?_
     rcases bifE h with⟨hc12,h⟩|⟨hc12,h⟩
     ·refine Qa hC [.br true,.n 10,.keep [4] []] rfl ⟨tt_,hc12⟩ ?_
      cases h
      exact AK.done (ex_ [_] (an_ (an_ rfl tt_) (gives tt_)))
     ·refine Qa hC [.br false,.n 11,.keep [4] []] rfl ⟨tt_,hc12⟩ ?_
      cases h
      exact AK.done (ex_ [_] (an_ (an_ rfl tt_) (gives tt_)))
def QiA (v1:(List Int))(e2:Qf):Option (Int×Int):=
 some (e2.Num,0)
theorem Qnn (v1:(List Int))(e2:Qf){r:(Int×Int)}(h:QiA v1 e2=some r):Qc Tryz.prog 230 [.sl 1 (v1.map Qe),.agg (Ql e2)] [] (Gives (.tup [.i .i64 r.1,.i .i64 r.2]) []):=by
 refine Qc.walk 8 Tryz.func230 rfl Tryz.ntmps230 rfl fun C hC=>?_
 unfold QiA at h
 refine Qa hC [.n 16,.keep [4,5] []] rfl tt_ ?_
 cases h
 exact AK.done (ex_ [_,_] (an_ (an_ rfl (an_ rfl tt_)) (gives tt_)))
def Qfh (v1:(List Int))(e2:Qf):Option (Int×Int):=
 (idx v1 e2.Num).bind fun e5=>
 some (e5,0)
theorem Qmw (v1:(List Int))(e2:Qf){r:(Int×Int)}(h:Qfh v1 e2=some r):Qc Tryz.prog 231 [.sl 1 (v1.map Qe),.agg (Ql e2)] [] (Gives (.tup [.i .i64 r.1,.i .i64 r.2]) []):=by
 refine Qc.walk 11 Tryz.func231 rfl Tryz.ntmps231 rfl fun C hC=>?_
 unfold Qfh at h
 obtain⟨e5,he5,h⟩:=Qb h
 refine Qa hC [.n 12,.o (.row (Qe e5)),.n 6,.keep [4,5] []] rfl ⟨tt_,(idxM he5)⟩ ?_
 cases h
 exact AK.done (ex_ [_,_] (an_ (an_ rfl (an_ rfl tt_)) (gives tt_)))
def QjJ (a1:Int)(b2:Int):Option (Int×Int):=
 bif (((decide (a1<0))==(decide (b2<0)))&&((decide ((w64 (a1+b2))<0)) != (decide (a1<0))))then
 some (0,6)
 else
 some ((w64 (a1+b2)),0)
theorem QrE (a1:Int)(b2:Int){r:(Int×Int)}(h:QjJ a1 b2=some r):Qc Tryz.prog 253 [.i .i64 a1,.i .i64 b2] [] (Gives (.tup [.i .i64 r.1,.i .i64 r.2]) []):=by
 refine Qc.walk 23 Tryz.func253 rfl Tryz.ntmps253 rfl fun C hC=>?_
 unfold QjJ at h
 refine Qa hC [.n 16] rfl tt_ ?_
 refine AK.meetX (fun σ=>σ=⟨[(6,.i .i64 (w64 (a1+b2))),(21,.b (((decide (a1<0))==(decide (b2<0)))&&((decide ((w64 (a1+b2))<0)) != (decide (a1<0)))))],[]⟩) ?_ ?_
 ·refine Qa hC [.n 7] rfl tt_ ?_
  rcases QK ((decide (a1<0))==(decide (b2<0)))with hc8 | hc8
  ·refine Qa hC [.say 15 (.b true),.n 7,.say 21 (.b (((decide (a1<0))==(decide (b2<0)))&&((decide ((w64 (a1+b2))<0)) != (decide (a1<0))))),.keep [6,21] []] rfl ⟨⟨tt_,(congrArg V.b hc8)⟩,(congrArg V.b (andT hc8 rfl))⟩ ?_
   exact AK.met rfl
  ·refine Qa hC [.say 15 (.b false),.n 7,.say 21 (.b (((decide (a1<0))==(decide (b2<0)))&&((decide ((w64 (a1+b2))<0)) != (decide (a1<0))))),.keep [6,21] []] rfl ⟨⟨tt_,(congrArg V.b hc8)⟩,(congrArg V.b (andF hc8 rfl))⟩ ?_
   exact AK.met rfl
 ·rintro σ rfl
  refine Qa hC [.n 1] rfl tt_ ?_
  rcases bifE h with⟨hc9,h⟩|⟨hc9,h⟩
  ·refine Qa hC [.br true,.n 8,.keep [4,5] []] rfl ⟨tt_,hc9⟩ ?_
   cases h
   exact AK.done (ex_ [_,_] (an_ (an_ rfl (an_ rfl tt_)) (gives tt_)))
  ·refine Qa hC [.br false,.n 10,.keep [4,5] []] rfl ⟨tt_,hc9⟩ ?_
   cases h
   exact AK.done (ex_ [_,_] (an_ (an_ rfl (an_ rfl tt_)) (gives tt_)))
def Qec (a1:Int)(b2:Int):Option (Int×Int):=
 bif (((decide (a1<0)) != (decide (b2<0)))&&((decide ((w64 (a1-b2))<0)) != (decide (a1<0))))then
 some (0,6)
 else
 some ((w64 (a1-b2)),0)
theorem Qno (a1:Int)(b2:Int){r:(Int×Int)}(h:Qec a1 b2=some r):Qc Tryz.prog 254 [.i .i64 a1,.i .i64 b2] [] (Gives (.tup [.i .i64 r.1,.i .i64 r.2]) []):=by
 refine Qc.walk 23 Tryz.func254 rfl Tryz.ntmps254 rfl fun C hC=>?_
 unfold Qec at h
 refine Qa hC [.n 16] rfl tt_ ?_
 refine AK.meetX (fun σ=>σ=⟨[(6,.i .i64 (w64 (a1-b2))),(21,.b (((decide (a1<0)) != (decide (b2<0)))&&((decide ((w64 (a1-b2))<0)) != (decide (a1<0)))))],[]⟩) ?_ ?_
 ·refine Qa hC [.n 7] rfl tt_ ?_
  rcases QK ((decide (a1<0)) != (decide (b2<0)))with hc8 | hc8
  ·refine Qa hC [.say 15 (.b true),.n 7,.say 21 (.b (((decide (a1<0)) != (decide (b2<0)))&&((decide ((w64 (a1-b2))<0)) != (decide (a1<0))))),.keep [6,21] []] rfl ⟨⟨tt_,(congrArg V.b hc8)⟩,(congrArg V.b (andT hc8 rfl))⟩ ?_
   exact AK.met rfl
  ·refine Qa hC [.say 15 (.b false),.n 7,.say 21 (.b (((decide (a1<0)) != (decide (b2<0)))&&((decide ((w64 (a1-b2))<0)) != (decide (a1<0))))),.keep [6,21] []] rfl ⟨⟨tt_,(congrArg V.b hc8)⟩,(congrArg V.b (andF hc8 rfl))⟩ ?_
   exact AK.met rfl
 ·rintro σ rfl
  refine Qa hC [.n 1] rfl tt_ ?_
  rcases bifE h with⟨hc9,h⟩|⟨hc9,h⟩
  ·refine Qa hC [.br true,.n 8,.keep [4,5] []] rfl ⟨tt_,hc9⟩ ?_
   cases h
   exact AK.done (ex_ [_,_] (an_ (an_ rfl (an_ rfl tt_)) (gives tt_)))
  ·refine Qa hC [.br false,.n 10,.keep [4,5] []] rfl ⟨tt_,hc9⟩ ?_
   cases h
   exact AK.done (ex_ [_,_] (an_ (an_ rfl (an_ rfl tt_)) (gives tt_)))
def Qhp (a1:Int):Option Int:=
 bif (decide (a1<0))then
 some (IntKind.u64.wrap (0-(IntKind.u64.wrap a1)))
 else
 some (IntKind.u64.wrap a1)
theorem QmM (a1:Int){r:Int}(h:Qhp a1=some r):Qc Tryz.prog 260 [.i .i64 a1] [] (Gives (.i .u64 r) []):=by
 refine Qc.walk 10 Tryz.func260 rfl Tryz.ntmps260 rfl fun C hC=>?_
 unfold Qhp at h
 refine Qa hC [.n 12] rfl tt_ ?_
 rcases bifE h with⟨hc4,h⟩|⟨hc4,h⟩
 ·refine Qa hC [.br true,.n 3,.o (.any (.i .u64 (IntKind.u64.wrap a1)) none),.n 6,.keep [2] []] rfl ⟨⟨tt_,hc4⟩,(fun σ h1 h2 _=>Stp.convI rfl rfl (bleN hC.n rfl) (h1 _ _ rfl) it_3 Qom)⟩ ?_
  cases h
  exact AK.done (ex_ [_] (an_ (an_ rfl tt_) (gives tt_)))
 ·refine Qa hC [.br false,.n 5,.o (.any (.i .u64 (IntKind.u64.wrap a1)) none),.n 4,.keep [2] []] rfl ⟨⟨tt_,hc4⟩,(fun σ h1 h2 _=>Stp.convI rfl rfl (bleN hC.n rfl) (h1 _ _ rfl) it_3 Qom)⟩ ?_
  cases h
  exact AK.done (ex_ [_] (an_ (an_ rfl tt_) (gives tt_)))
def Qed (p1:Int)(y2:Int):Option (Int×Int):=
 some ((IntKind.u64.wrap ((IntKind.u64.wrap ((IntKind.u64.wrap ((shrI .u64 p1 32)*(shrI .u64 y2 32)))+(shrI .u64 (IntKind.u64.wrap ((IntKind.u64.wrap ((shrI .u64 p1 32)*(andI .u64 y2 4294967295)))+(shrI .u64 (IntKind.u64.wrap ((andI .u64 p1 4294967295)*(andI .u64 y2 4294967295))) 32))) 32)))+(shrI .u64 (IntKind.u64.wrap ((andI .u64 (IntKind.u64.wrap ((IntKind.u64.wrap ((shrI .u64 p1 32)*(andI .u64 y2 4294967295)))+(shrI .u64 (IntKind.u64.wrap ((andI .u64 p1 4294967295)*(andI .u64 y2 4294967295))) 32))) 4294967295)+(IntKind.u64.wrap ((andI .u64 p1 4294967295)*(shrI .u64 y2 32))))) 32))),(IntKind.u64.wrap (p1*y2)))
theorem Qnp (p1:Int)(y2:Int){r:(Int×Int)}(h:Qed p1 y2=some r):Qc Tryz.prog 259 [.i .u64 p1,.i .u64 y2] [] (Gives (.tup [.i .u64 r.1,.i .u64 r.2]) []):=by
 refine Qc.walk 51 Tryz.func259 rfl Tryz.ntmps259 rfl fun C hC=>?_
 unfold Qed at h
 refine Qa hC [.n 9,.o (.any (.i .u64 (andI .u64 p1 4294967295)) none),.n 6,.o (.any (.i .u64 (shrI .u64 p1 32)) none),.n 6,.o (.any (.i .u64 (andI .u64 y2 4294967295)) none),.n 6,.o (.any (.i .u64 (shrI .u64 y2 32)) none),.n 17,.o (.any (.i .u64 (shrI .u64 (IntKind.u64.wrap ((andI .u64 p1 4294967295)*(andI .u64 y2 4294967295))) 32)) none),.n 7,.o (.any (.i .u64 (andI .u64 (IntKind.u64.wrap ((IntKind.u64.wrap ((shrI .u64 p1 32)*(andI .u64 y2 4294967295)))+(shrI .u64 (IntKind.u64.wrap ((andI .u64 p1 4294967295)*(andI .u64 y2 4294967295))) 32))) 4294967295)) none),.n 6,.o (.any (.i .u64 (shrI .u64 (IntKind.u64.wrap ((IntKind.u64.wrap ((shrI .u64 p1 32)*(andI .u64 y2 4294967295)))+(shrI .u64 (IntKind.u64.wrap ((andI .u64 p1 4294967295)*(andI .u64 y2 4294967295))) 32))) 32)) none),.n 21,.o (.any (.i .u64 (shrI .u64 (IntKind.u64.wrap ((andI .u64 (IntKind.u64.wrap ((IntKind.u64.wrap ((shrI .u64 p1 32)*(andI .u64 y2 4294967295)))+(shrI .u64 (IntKind.u64.wrap ((andI .u64 p1 4294967295)*(andI .u64 y2 4294967295))) 32))) 4294967295)+(IntKind.u64.wrap ((andI .u64 p1 4294967295)*(shrI .u64 y2 32))))) 32)) none),.n 13,.keep [4,5] []] rfl ⟨⟨⟨⟨⟨⟨⟨⟨tt_,(fun σ h1 h2 _=>Stp.andB rfl rfl (bleN hC.n rfl) (h1 _ _ rfl) (h1 _ _ rfl))⟩,(fun σ h1 h2 _=>Stp.shr rfl rfl (bleN hC.n rfl) (h1 _ _ rfl) (h1 _ _ rfl) (by decide))⟩,(fun σ h1 h2 _=>Stp.andB rfl rfl (bleN hC.n rfl) (h1 _ _ rfl) (h1 _ _ rfl))⟩,(fun σ h1 h2 _=>Stp.shr rfl rfl (bleN hC.n rfl) (h1 _ _ rfl) (h1 _ _ rfl) (by decide))⟩,(fun σ h1 h2 _=>Stp.shr rfl rfl (bleN hC.n rfl) (h1 _ _ rfl) (h1 _ _ rfl) (by decide))⟩,(fun σ h1 h2 _=>Stp.andB rfl rfl (bleN hC.n rfl) (h1 _ _ rfl) (h1 _ _ rfl))⟩,(fun σ h1 h2 _=>Stp.shr rfl rfl (bleN hC.n rfl) (h1 _ _ rfl) (h1 _ _ rfl) (by decide))⟩,(fun σ h1 h2 _=>Stp.shr rfl rfl (bleN hC.n rfl) (h1 _ _ rfl) (h1 _ _ rfl) (by decide))⟩ ?_
 cases h
 exact AK.done (ex_ [_,_] (an_ (an_ rfl (an_ rfl tt_)) (gives tt_)))
def Qc5 (x9:(Int×Int))(a1:Int)(b2:Int)(most10:Int):Option (Int×Int):=
 bif ((decide (0<x9.1))||(decide (most10<x9.2)))then
 some (0,6)
 else
 some ((w64 (a1*b2)),0)
def Qgp (a1:Int)(b2:Int):Option (Int×Int):=
 (Qhp a1).bind fun x7=>
 (Qhp b2).bind fun x8=>
 (Qed x7 x8).bind fun x9=>
 bif ((decide (a1<0)) != (decide (b2<0)))then
 Qc5 x9 a1 b2 (IntKind.u64.wrap (9223372036854775807+1))
 else
 Qc5 x9 a1 b2 9223372036854775807
theorem Qo8 (a1:Int)(b2:Int){r:(Int×Int)}(h:Qgp a1 b2=some r):Qc Tryz.prog 255 [.i .i64 a1,.i .i64 b2] [] (Gives (.tup [.i .i64 r.1,.i .i64 r.2]) []):=by
 refine Qc.walk 34 Tryz.func255 rfl Tryz.ntmps255 rfl fun C hC=>?_
 unfold Qgp at h
 obtain⟨x7,hx7,h⟩:=Qb h
 obtain⟨x8,hx8,h⟩:=Qb h
 obtain⟨x9,hx9,h⟩:=Qb h
 refine Qa hC [.n 9,.o (.c false [.d] (.i .u64 x7)),.n 1,.o (.c false [.d] (.i .u64 x8)),.o (.c false [.d,.d] (.tup [.i .u64 x9.1,.i .u64 x9.2])),.n 12] rfl ⟨⟨⟨tt_,(QmM _ hx7)⟩,(QmM _ hx8)⟩,(Qnp _ _ hx9)⟩ ?_
 refine AK.meet (fun σ=>∃most10:Int,σ=⟨[(0,.i .i64 a1),(1,.i .i64 b2),(6,.i .u64 x9.1),(7,.i .u64 x9.2),(8,.i .u64 most10)],[]⟩∧Qc5 x9 a1 b2 most10=some r) ?_ ?_
 ·refine Qa hC [.n 9] rfl tt_ ?_
  rcases bifE h with⟨hc14,h⟩|⟨hc14,h⟩
  ·refine Qa hC [.br true,.n 5,.keep [0,1,6,7,8] []] rfl ⟨tt_,hc14⟩ ?_
   exact AK.met (ex_ _ (an_ rfl h))
  ·refine Qa hC [.br false,.n 1,.keep [0,1,6,7,8] []] rfl ⟨tt_,hc14⟩ ?_
   exact AK.met (ex_ _ (an_ rfl h))
 ·rintro σ ⟨most10,rfl,h⟩
  unfold Qc5 at h
  refine Qa hC [.n 2] rfl tt_ ?_
  refine AK.meetX (fun σ=>σ=⟨[(0,.i .i64 a1),(1,.i .i64 b2),(30,.b ((decide (0<x9.1))||(decide (most10<x9.2))))],[]⟩) ?_ ?_
  ·refine Qa hC [.n 4] rfl tt_ ?_
   rcases QK (decide (0<x9.1))with hc12 | hc12
   ·refine Qa hC [.say 26 (.b true),.n 5,.say 30 (.b ((decide (0<x9.1))||(decide (most10<x9.2)))),.keep [0,1,30] []] rfl ⟨⟨tt_,(congrArg V.b hc12)⟩,(congrArg V.b (orT hc12 rfl))⟩ ?_
    exact AK.met rfl
   ·refine Qa hC [.say 26 (.b false),.n 5,.say 30 (.b ((decide (0<x9.1))||(decide (most10<x9.2)))),.keep [0,1,30] []] rfl ⟨⟨tt_,(congrArg V.b hc12)⟩,(congrArg V.b (orF hc12 rfl))⟩ ?_
    exact AK.met rfl
  ·rintro σ rfl
   refine Qa hC [.n 1] rfl tt_ ?_
   rcases bifE h with⟨hc13,h⟩|⟨hc13,h⟩
   ·refine Qa hC [.br true,.n 8,.keep [4,5] []] rfl ⟨tt_,hc13⟩ ?_
    cases h
    exact AK.done (ex_ [_,_] (an_ (an_ rfl (an_ rfl tt_)) (gives tt_)))
   ·refine Qa hC [.br false,.n 12,.keep [4,5] []] rfl ⟨tt_,hc13⟩ ?_
    cases h
    exact AK.done (ex_ [_,_] (an_ (an_ rfl (an_ rfl tt_)) (gives tt_)))
def QdR (a1:Int)(b2:Int):Option (Int×Int×Int):=
 bif (b2==0)then
 some (0,0,7)
 else
 bif ((a1==(-9223372036854775808))&&(b2==(-1)))then
 some (0,0,6)
 else
 (chk (b2 != 0)).bind fun _=>
 (chk (b2 != 0)).bind fun _=>
 some ((w64 (Int.tdiv a1 b2)),(Int.tmod a1 b2),0)
theorem QkR (a1:Int)(b2:Int){r:(Int×Int×Int)}(h:QdR a1 b2=some r):Qc Tryz.prog 256 [.i .i64 a1,.i .i64 b2] [] (Gives (.tup [.i .i64 r.1,.i .i64 r.2.1,.i .i64 r.2.2]) []):=by
 refine Qc.walk 23 Tryz.func256 rfl Tryz.ntmps256 rfl fun C hC=>?_
 unfold QdR at h
 refine Qa hC [.n 16] rfl tt_ ?_
 rcases bifE h with⟨hc9,h⟩|⟨hc9,h⟩
 ·refine Qa hC [.br true,.n 10,.keep [4,5,6] []] rfl ⟨tt_,hc9⟩ ?_
  cases h
  exact AK.done (ex_ [_,_,_] (an_ (an_ rfl (an_ rfl (an_ rfl tt_))) (gives tt_)))
 ·refine Qa hC [.br false,.n 1] rfl ⟨tt_,hc9⟩ ?_
  refine AK.meetX (fun σ=>σ=⟨[(0,.i .i64 a1),(1,.i .i64 b2),(10,.b ((a1==(-9223372036854775808))&&(b2==(-1))))],[]⟩) ?_ ?_
  ·refine Qa hC [.n 4] rfl tt_ ?_
   rcases QK (a1==(-9223372036854775808))with hc11 | hc11
   ·refine Qa hC [.say 13 (.b true),.n 5,.say 10 (.b ((a1==(-9223372036854775808))&&(b2==(-1)))),.keep [0,1,10] []] rfl ⟨⟨tt_,(congrArg V.b hc11)⟩,(congrArg V.b (andT hc11 rfl))⟩ ?_
    exact AK.met rfl
   ·refine Qa hC [.say 13 (.b false),.n 5,.say 10 (.b ((a1==(-9223372036854775808))&&(b2==(-1)))),.keep [0,1,10] []] rfl ⟨⟨tt_,(congrArg V.b hc11)⟩,(congrArg V.b (andF hc11 rfl))⟩ ?_
    exact AK.met rfl
  ·rintro σ rfl
   refine Qa hC [.n 1] rfl tt_ ?_
   rcases bifE h with⟨hc12,h⟩|⟨hc12,h⟩
   ·refine Qa hC [.br true,.n 10,.keep [4,5,6] []] rfl ⟨tt_,hc12⟩ ?_
    cases h
    exact AK.done (ex_ [_,_,_] (an_ (an_ rfl (an_ rfl (an_ rfl tt_))) (gives tt_)))
   ·obtain⟨_,hk13,h⟩:=Qb h
    replace hk13:=chkE hk13
    obtain⟨_,hk14,h⟩:=Qb h
    replace hk14:=chkE hk14
    refine Qa hC [.br false,.n 4,.keep [0,1] []] rfl ⟨tt_,hc12⟩ ?_
    refine AK.draw2 Qo hC mixed [.a .no none false,.a .no none false,.a .no none false,.a .no none false,.a .no none false,.a .no none false,.a .no none false,.a .no none false,.a .no none false] [] [] [4,5,6] [] rfl rfl rfl ⟨⟨tt_,(neZ hk13)⟩,(neZ hk14)⟩ rfl (by kernel_rfl) rfl rfl rfl ?_
    refine Qa hC [.n 2,.keep [4,5,6] []] rfl tt_ ?_
    cases h
    exact AK.done (ex_ [_,_,_] (an_ (an_ rfl (an_ rfl (an_ rfl tt_))) (gives tt_)))
def Qcp (is1:Bool):Option (Int×Int):=
 bif is1 then
 some (1,0)
 else
 some (0,0)
theorem Qc8 (is1:Bool){r:(Int×Int)}(h:Qcp is1=some r):Qc Tryz.prog 257 [.b is1] [] (Gives (.tup [.i .i64 r.1,.i .i64 r.2]) []):=by
 refine Qc.walk 5 Tryz.func257 rfl Tryz.ntmps257 rfl fun C hC=>?_
 unfold Qcp at h
 refine Qa hC [.n 12] rfl tt_ ?_
 rcases bifE h with⟨hc5,h⟩|⟨hc5,h⟩
 ·refine Qa hC [.br true,.n 8,.keep [2,3] []] rfl ⟨tt_,hc5⟩ ?_
  cases h
  exact AK.done (ex_ [_,_] (an_ (an_ rfl (an_ rfl tt_)) (gives tt_)))
 ·refine Qa hC [.br false,.n 9,.keep [2,3] []] rfl ⟨tt_,hc5⟩ ?_
  cases h
  exact AK.done (ex_ [_,_] (an_ (an_ rfl (an_ rfl tt_)) (gives tt_)))
def QlG (a2:Int)(b3:Int):Option (Int×Int):=
 bif (a2 != 0)then
 (Qcp (b3 != 0)).bind fun x31=>
 some (x31.1,x31.2)
 else
 (Qcp false).bind fun x32=>
 some (x32.1,x32.2)
def QhZ (x27:Int)(x28:Int):Option (Int×Int):=
 some (x27,x28)
def QlH (a2:Int)(b3:Int):Option (Int×Int):=
 bif (a2 != 0)then
 (Qcp true).bind fun x38=>
 some (x38.1,x38.2)
 else
 (Qcp (b3 != 0)).bind fun x39=>
 some (x39.1,x39.2)
def Qh0 (x34:Int)(x35:Int):Option (Int×Int):=
 some (x34,x35)
def QgP (op1:Int)(a2:Int)(b3:Int):Option (Int×Int):=
 bif (op1==1)then
 (QjJ a2 b3).bind fun x9=>
 some (x9.1,x9.2)
 else
 bif (op1==2)then
 (Qec a2 b3).bind fun x11=>
 some (x11.1,x11.2)
 else
 bif (op1==3)then
 (Qgp a2 b3).bind fun x13=>
 some (x13.1,x13.2)
 else
 bif (op1==4)then
 (QdR a2 b3).bind fun x15=>
 some (x15.1,x15.2.2)
 else
 bif (op1==5)then
 (QdR a2 b3).bind fun x17=>
 some (x17.2.1,x17.2.2)
 else
 bif (op1==6)then
 (Qcp (a2==b3)).bind fun x19=>
 some (x19.1,x19.2)
 else
 bif (op1==7)then
 (Qcp (a2 != b3)).bind fun x21=>
 some (x21.1,x21.2)
 else
 bif (op1==8)then
 (Qcp (decide (a2<b3))).bind fun x23=>
 some (x23.1,x23.2)
 else
 bif (op1==9)then
 (Qcp (decide (a2≤b3))).bind fun x25=>
 some (x25.1,x25.2)
 else
 bif (op1==10)then
 (QlG a2 b3).bind (fun v=>QhZ v.1 v.2)
 else
 bif (op1==11)then
 (QlH a2 b3).bind (fun v=>Qh0 v.1 v.2)
 else
 some (0,1)
theorem QjK (op1:Int)(a2:Int)(b3:Int){r:(Int×Int)}(h:QgP op1 a2 b3=some r):Qc Tryz.prog 249 [.i .i64 op1,.i .i64 a2,.i .i64 b3] [] (Gives (.tup [.i .i64 r.1,.i .i64 r.2]) []):=by
 refine Qc.walk 112 Tryz.func249 rfl Tryz.ntmps249 rfl fun C hC=>?_
 unfold QgP at h
 refine Qa hC [.n 19] rfl tt_ ?_
 rcases bifE h with⟨hc8,h⟩|⟨hc8,h⟩
 ·obtain⟨x9,hx9,h⟩:=Qb h
  refine Qa hC [.br true,.n 4,.o (.c false [.d,.d] (.tup [.i .i64 x9.1,.i .i64 x9.2])),.n 9,.keep [6,7] []] rfl ⟨⟨tt_,hc8⟩,(QrE _ _ hx9)⟩ ?_
  cases h
  exact AK.done (ex_ [_,_] (an_ (an_ rfl (an_ rfl tt_)) (gives tt_)))
 ·refine Qa hC [.br false,.n 6] rfl ⟨tt_,hc8⟩ ?_
  rcases bifE h with⟨hc10,h⟩|⟨hc10,h⟩
  ·obtain⟨x11,hx11,h⟩:=Qb h
   refine Qa hC [.br true,.n 4,.o (.c false [.d,.d] (.tup [.i .i64 x11.1,.i .i64 x11.2])),.n 9,.keep [6,7] []] rfl ⟨⟨tt_,hc10⟩,(Qno _ _ hx11)⟩ ?_
   cases h
   exact AK.done (ex_ [_,_] (an_ (an_ rfl (an_ rfl tt_)) (gives tt_)))
  ·refine Qa hC [.br false,.n 6] rfl ⟨tt_,hc10⟩ ?_
   rcases bifE h with⟨hc12,h⟩|⟨hc12,h⟩
   ·obtain⟨x13,hx13,h⟩:=Qb h
    refine Qa hC [.br true,.n 4,.o (.c false [.d,.d] (.tup [.i .i64 x13.1,.i .i64 x13.2])),.n 9,.keep [6,7] []] rfl ⟨⟨tt_,hc12⟩,(Qo8 _ _ hx13)⟩ ?_
    cases h
    exact AK.done (ex_ [_,_] (an_ (an_ rfl (an_ rfl tt_)) (gives tt_)))
   ·refine Qa hC [.br false,.n 6] rfl ⟨tt_,hc12⟩ ?_
    rcases bifE h with⟨hc14,h⟩|⟨hc14,h⟩
    ·obtain⟨x15,hx15,h⟩:=Qb h
     refine Qa hC [.br true,.n 4,.o (.c false [.d,.d] (.tup [.i .i64 x15.1,.i .i64 x15.2.1,.i .i64 x15.2.2])),.n 20,.keep [6,7] []] rfl ⟨⟨tt_,hc14⟩,(QkR _ _ hx15)⟩ ?_
     cases h
     exact AK.done (ex_ [_,_] (an_ (an_ rfl (an_ rfl tt_)) (gives tt_)))
    ·refine Qa hC [.br false,.n 6] rfl ⟨tt_,hc14⟩ ?_
     rcases bifE h with⟨hc16,h⟩|⟨hc16,h⟩
     ·obtain⟨x17,hx17,h⟩:=Qb h
      refine Qa hC [.br true,.n 4,.o (.c false [.d,.d] (.tup [.i .i64 x17.1,.i .i64 x17.2.1,.i .i64 x17.2.2])),.n 20,.keep [6,7] []] rfl ⟨⟨tt_,hc16⟩,(QkR _ _ hx17)⟩ ?_
      cases h
      exact AK.done (ex_ [_,_] (an_ (an_ rfl (an_ rfl tt_)) (gives tt_)))
     ·refine Qa hC [.br false,.n 6] rfl ⟨tt_,hc16⟩ ?_
      rcases bifE h with⟨hc18,h⟩|⟨hc18,h⟩
      ·obtain⟨x19,hx19,h⟩:=Qb h
       refine Qa hC [.br true,.n 5,.o (.c false [.d] (.tup [.i .i64 x19.1,.i .i64 x19.2])),.n 9,.keep [6,7] []] rfl ⟨⟨tt_,hc18⟩,(Qc8 _ hx19)⟩ ?_
       cases h
       exact AK.done (ex_ [_,_] (an_ (an_ rfl (an_ rfl tt_)) (gives tt_)))
      ·refine Qa hC [.br false,.n 6] rfl ⟨tt_,hc18⟩ ?_
       rcases bifE h with⟨hc20,h⟩|⟨hc20,h⟩
       ·obtain⟨x21,hx21,h⟩:=Qb h
        refine Qa hC [.br true,.n 5,.o (.c false [.d] (.tup [.i .i64 x21.1,.i .i64 x21.2])),.n 9,.keep [6,7] []] rfl ⟨⟨tt_,hc20⟩,(Qc8 _ hx21)⟩ ?_
        cases h
        exact AK.done (ex_ [_,_] (an_ (an_ rfl (an_ rfl tt_)) (gives tt_)))
       ·refine Qa hC [.br false,.n 6] rfl ⟨tt_,hc20⟩ ?_
        rcases bifE h with⟨hc22,h⟩|⟨hc22,h⟩
        ·obtain⟨x23,hx23,h⟩:=Qb h
         refine Qa hC [.br true,.n 5,.o (.c false [.d] (.tup [.i .i64 x23.1,.i .i64 x23.2])),.n 9,.keep [6,7] []] rfl ⟨⟨tt_,hc22⟩,(Qc8 _ hx23)⟩ ?_
         cases h
         exact AK.done (ex_ [_,_] (an_ (an_ rfl (an_ rfl tt_)) (gives tt_)))
        ·refine Qa hC [.br false,.n 6] rfl ⟨tt_,hc22⟩ ?_
         rcases bifE h with⟨hc24,h⟩|⟨hc24,h⟩
         ·obtain⟨x25,hx25,h⟩:=Qb h
          refine Qa hC [.br true,.n 5,.o (.c false [.d] (.tup [.i .i64 x25.1,.i .i64 x25.2])),.n 9,.keep [6,7] []] rfl ⟨⟨tt_,hc24⟩,(Qc8 _ hx25)⟩ ?_
          cases h
          exact AK.done (ex_ [_,_] (an_ (an_ rfl (an_ rfl tt_)) (gives tt_)))
         ·refine Qa hC [.br false,.n 6] rfl ⟨tt_,hc24⟩ ?_
          rcases bifE h with⟨hc26,h⟩|⟨hc26,h⟩
          ·refine Qa hC [.br true,.n 1] rfl ⟨tt_,hc26⟩ ?_
           obtain⟨v,hv29,h⟩:=Qb h
           replace h:QhZ v.1 v.2=some r:=h
           refine AK.meetX (fun σ=>σ=⟨[(6,.i .i64 v.1),(7,.i .i64 v.2)],[]⟩) ?_ ?_
           ·replace h:=hv29
            unfold QlG at h
            refine Qa hC [.n 4] rfl tt_ ?_
            rcases bifE h with⟨hc30,h⟩|⟨hc30,h⟩
            ·obtain⟨x31,hx31,h⟩:=Qb h
             refine Qa hC [.say 94 (.b true),.n 3,.o (.c false [.d] (.tup [.i .i64 x31.1,.i .i64 x31.2])),.n 5,.keep [6,7] []] rfl ⟨⟨tt_,(congrArg V.b hc30)⟩,(Qc8 _ hx31)⟩ ?_
             cases h
             exact AK.met rfl
            ·obtain⟨x32,hx32,h⟩:=Qb h
             refine Qa hC [.say 94 (.b false),.n 3,.o (.c false [.d] (.tup [.i .i64 x32.1,.i .i64 x32.2])),.n 5,.keep [6,7] []] rfl ⟨⟨tt_,(congrArg V.b hc30)⟩,(Qc8 _ hx32)⟩ ?_
             cases h
             exact AK.met rfl
           ·rintro σ rfl
            obtain⟨x27,x28⟩:=v
            replace h:QhZ x27 x28=some r:=h
            unfold QhZ at h
            refine Qa hC [.n 4,.keep [6,7] []] rfl tt_ ?_
            cases h
            exact AK.done (ex_ [_,_] (an_ (an_ rfl (an_ rfl tt_)) (gives tt_)))
          ·refine Qa hC [.br false,.n 6] rfl ⟨tt_,hc26⟩ ?_
           rcases bifE h with⟨hc33,h⟩|⟨hc33,h⟩
           ·refine Qa hC [.br true,.n 1] rfl ⟨tt_,hc33⟩ ?_
            obtain⟨v,hv36,h⟩:=Qb h
            replace h:Qh0 v.1 v.2=some r:=h
            refine AK.meetX (fun σ=>σ=⟨[(6,.i .i64 v.1),(7,.i .i64 v.2)],[]⟩) ?_ ?_
            ·replace h:=hv36
             unfold QlH at h
             refine Qa hC [.n 4] rfl tt_ ?_
             rcases bifE h with⟨hc37,h⟩|⟨hc37,h⟩
             ·obtain⟨x38,hx38,h⟩:=Qb h
              refine Qa hC [.say 105 (.b true),.n 3,.o (.c false [.d] (.tup [.i .i64 x38.1,.i .i64 x38.2])),.n 5,.keep [6,7] []] rfl ⟨⟨tt_,(congrArg V.b hc37)⟩,(Qc8 _ hx38)⟩ ?_
              cases h
              exact AK.met rfl
             ·obtain⟨x39,hx39,h⟩:=Qb h
              refine Qa hC [.say 105 (.b false),.n 3,.o (.c false [.d] (.tup [.i .i64 x39.1,.i .i64 x39.2])),.n 5,.keep [6,7] []] rfl ⟨⟨tt_,(congrArg V.b hc37)⟩,(Qc8 _ hx39)⟩ ?_
              cases h
              exact AK.met rfl
            ·rintro σ rfl
             obtain⟨x34,x35⟩:=v
             replace h:Qh0 x34 x35=some r:=h
             unfold Qh0 at h
             refine Qa hC [.n 4,.keep [6,7] []] rfl tt_ ?_
             cases h
             exact AK.done (ex_ [_,_] (an_ (an_ rfl (an_ rfl tt_)) (gives tt_)))
           ·refine Qa hC [.br false,.n 10,.keep [6,7] []] rfl ⟨tt_,hc33⟩ ?_
            cases h
            exact AK.done (ex_ [_,_] (an_ (an_ rfl (an_ rfl tt_)) (gives tt_)))
def QjL (a1:Int):Option (Int×Int):=
 (QgP 2 0 a1).bind fun x4=>
 some (x4.1,x4.2)
theorem QrF (a1:Int){r:(Int×Int)}(h:QjL a1=some r):Qc Tryz.prog 248 [.i .i64 a1] [] (Gives (.tup [.i .i64 r.1,.i .i64 r.2]) []):=by
 refine Qc.walk 8 Tryz.func248 rfl Tryz.ntmps248 rfl fun C hC=>?_
 unfold QjL at h
 obtain⟨x4,hx4,h⟩:=Qb h
 refine Qa hC [.n 9,.o (.c false [.d,.d,.d] (.tup [.i .i64 x4.1,.i .i64 x4.2])),.n 7,.keep [2,3] []] rfl ⟨tt_,(QjK _ _ _ hx4)⟩ ?_
 cases h
 exact AK.done (ex_ [_,_] (an_ (an_ rfl (an_ rfl tt_)) (gives tt_)))
def Qee (rec_expr_env_eval:(List Int)→Qf→Option (Int×Int))(v1:(List Int))(e2:Qf):Option (Int×Int):=
 (idx e2.Kids 0).bind fun e7=>
 (rec_expr_env_eval v1 e7).bind fun x8=>
 bif (x8.2 != 0)then
 some (0,x8.2)
 else
 bif (e2.Kind==3)then
 (QjL x8.1).bind fun x11=>
 some (x11.1,x11.2)
 else
 (QgP 6 x8.1 0).bind fun x12=>
 some (x12.1,x12.2)
theorem Qnq (rec_expr_env_eval:(List Int)→Qf→Option (Int×Int))(hrec_expr_env_eval:∀(v1:(List Int)) (e2:Qf) {r:(Int×Int)},rec_expr_env_eval v1 e2=some r→Qc Tryz.prog 162 [.sl 1 (v1.map Qe),.agg (Ql e2)] [] (Gives (.tup [.i .i64 r.1,.i .i64 r.2]) []))(v1:(List Int))(e2:Qf){r:(Int×Int)}(h:Qee rec_expr_env_eval v1 e2=some r):Qc Tryz.prog 232 [.sl 1 (v1.map Qe),.agg (Ql e2)] [] (Gives (.tup [.i .i64 r.1,.i .i64 r.2]) []):=by
 refine Qc.walk 33 Tryz.func232 rfl Tryz.ntmps232 rfl fun C hC=>?_
 unfold Qee at h
 obtain⟨e7,he7,h⟩:=Qb h
 obtain⟨x8,hx8,h⟩:=Qb h
 refine Qa hC [.n 12,.o (.row (Ql e7)),.v .no [] (.agg (Ql e7)),.o (.c false [.d,.d] (.tup [.i .i64 x8.1,.i .i64 x8.2])),.n 16] rfl ⟨⟨⟨tt_,(Qdw he7)⟩,rfl⟩,(hrec_expr_env_eval _ _ hx8)⟩ ?_
 rcases bifE h with⟨hc9,h⟩|⟨hc9,h⟩
 ·refine Qa hC [.br true,.n 10,.keep [4,5] []] rfl ⟨tt_,hc9⟩ ?_
  cases h
  exact AK.done (ex_ [_,_] (an_ (an_ rfl (an_ rfl tt_)) (gives tt_)))
 ·refine Qa hC [.br false,.n 8] rfl ⟨tt_,hc9⟩ ?_
  rcases bifE h with⟨hc10,h⟩|⟨hc10,h⟩
  ·obtain⟨x11,hx11,h⟩:=Qb h
   refine Qa hC [.br true,.n 3,.o (.c false [.d] (.tup [.i .i64 x11.1,.i .i64 x11.2])),.n 9,.keep [4,5] []] rfl ⟨⟨tt_,hc10⟩,(QrF _ hx11)⟩ ?_
   cases h
   exact AK.done (ex_ [_,_] (an_ (an_ rfl (an_ rfl tt_)) (gives tt_)))
  ·obtain⟨x12,hx12,h⟩:=Qb h
   refine Qa hC [.br false,.n 6,.o (.c false [.d,.d,.d] (.tup [.i .i64 x12.1,.i .i64 x12.2])),.n 7,.keep [4,5] []] rfl ⟨⟨tt_,hc10⟩,(QjK _ _ _ hx12)⟩ ?_
   cases h
   exact AK.done (ex_ [_,_] (an_ (an_ rfl (an_ rfl tt_)) (gives tt_)))
def Qb5 (x8:(Int×Int))(e2:Qf)(rec_expr_env_eval:(List Int)→Qf→Option (Int×Int))(v1:(List Int))(x10:Bool):Option (Int×Int):=
 bif x10 then
 (QgP 7 x8.1 0).bind fun x12=>
 some (x12.1,x12.2)
 else
 (idx e2.Kids 1).bind fun e13=>
 (rec_expr_env_eval v1 e13).bind fun x14=>
 bif (x14.2 != 0)then
 some (0,x14.2)
 else
 (QgP e2.Num x8.1 x14.1).bind fun x16=>
 some (x16.1,x16.2)
def Qiq (rec_expr_env_eval:(List Int)→Qf→Option (Int×Int))(v1:(List Int))(e2:Qf):Option (Int×Int):=
 (idx e2.Kids 0).bind fun e7=>
 (rec_expr_env_eval v1 e7).bind fun x8=>
 bif (x8.2 != 0)then
 some (0,x8.2)
 else
 bif ((e2.Num==10)&&(x8.1==0))then
 Qb5 x8 e2 rec_expr_env_eval v1 ((e2.Num==10)&&(x8.1==0))
 else
 bif (e2.Num==11)then
 Qb5 x8 e2 rec_expr_env_eval v1 (x8.1 != 0)
 else
 Qb5 x8 e2 rec_expr_env_eval v1 false
theorem Qo9 (rec_expr_env_eval:(List Int)→Qf→Option (Int×Int))(hrec_expr_env_eval:∀(v1:(List Int)) (e2:Qf) {r:(Int×Int)},rec_expr_env_eval v1 e2=some r→Qc Tryz.prog 162 [.sl 1 (v1.map Qe),.agg (Ql e2)] [] (Gives (.tup [.i .i64 r.1,.i .i64 r.2]) []))(v1:(List Int))(e2:Qf){r:(Int×Int)}(h:Qiq rec_expr_env_eval v1 e2=some r):Qc Tryz.prog 233 [.sl 1 (v1.map Qe),.agg (Ql e2)] [] (Gives (.tup [.i .i64 r.1,.i .i64 r.2]) []):=by
 refine Qc.walk 60 Tryz.func233 rfl Tryz.ntmps233 rfl fun C hC=>?_
 unfold Qiq at h
 obtain⟨e7,he7,h⟩:=Qb h
 obtain⟨x8,hx8,h⟩:=Qb h
 refine Qa hC [.n 12,.o (.row (Ql e7)),.v .no [] (.agg (Ql e7)),.o (.c false [.d,.d] (.tup [.i .i64 x8.1,.i .i64 x8.2])),.n 16] rfl ⟨⟨⟨tt_,(Qdw he7)⟩,rfl⟩,(hrec_expr_env_eval _ _ hx8)⟩ ?_
 rcases bifE h with⟨hc9,h⟩|⟨hc9,h⟩
 ·refine Qa hC [.br true,.n 10,.keep [4,5] []] rfl ⟨tt_,hc9⟩ ?_
  cases h
  exact AK.done (ex_ [_,_] (an_ (an_ rfl (an_ rfl tt_)) (gives tt_)))
 ·refine Qa hC [.br false] rfl ⟨tt_,hc9⟩ ?_
  refine AK.meet (fun σ=>∃x10:Bool,σ=⟨[(0,.sl 1 (v1.map Qe)),(3,.loc 3 0 0),(6,.i .i64 x8.1),(22,.b x10)],[(3,.var (Ql e2))]⟩∧Qb5 x8 e2 rec_expr_env_eval v1 x10=some r) ?_ ?_
  ·refine Qa hC [.n 1] rfl tt_ ?_
   refine AK.meetX (fun σ=>σ=⟨[(0,.sl 1 (v1.map Qe)),(3,.loc 3 0 0),(6,.i .i64 x8.1),(22,.b ((e2.Num==10)&&(x8.1==0)))],[(3,.var (Ql e2))]⟩) ?_ ?_
   ·refine Qa hC [.n 5] rfl tt_ ?_
    rcases QK (e2.Num==10)with hc18 | hc18
    ·refine Qa hC [.say 26 (.b true),.n 5,.say 22 (.b ((e2.Num==10)&&(x8.1==0))),.keep [0,3,6,22] [3]] rfl ⟨⟨tt_,(congrArg V.b hc18)⟩,(congrArg V.b (andT hc18 rfl))⟩ ?_
     exact AK.met rfl
    ·refine Qa hC [.say 26 (.b false),.n 5,.say 22 (.b ((e2.Num==10)&&(x8.1==0))),.keep [0,3,6,22] [3]] rfl ⟨⟨tt_,(congrArg V.b hc18)⟩,(congrArg V.b (andF hc18 rfl))⟩ ?_
     exact AK.met rfl
   ·rintro σ rfl
    refine Qa hC [.n 1] rfl tt_ ?_
    rcases bifE h with⟨hc19,h⟩|⟨hc19,h⟩
    ·refine Qa hC [.br true,.n 1,.keep [0,3,6,22] [3]] rfl ⟨tt_,hc19⟩ ?_
     exact AK.met (ex_ _ (an_ rfl h))
    ·refine Qa hC [.br false,.n 5] rfl ⟨tt_,hc19⟩ ?_
     rcases bifE h with⟨hc20,h⟩|⟨hc20,h⟩
     ·refine Qa hC [.say 33 (.b true),.n 5,.keep [0,3,6,22] [3]] rfl ⟨tt_,(congrArg V.b hc20)⟩ ?_
      exact AK.met (ex_ _ (an_ rfl h))
     ·refine Qa hC [.say 33 (.b false),.n 5,.keep [0,3,6,22] [3]] rfl ⟨tt_,(congrArg V.b hc20)⟩ ?_
      exact AK.met (ex_ _ (an_ rfl h))
  ·rintro σ ⟨x10,rfl,h⟩
   unfold Qb5 at h
   rcases bifE h with⟨hc11,h⟩|⟨hc11,h⟩
   ·obtain⟨x12,hx12,h⟩:=Qb h
    refine Qa hC [.br true,.n 3,.o (.c false [.d,.d,.d] (.tup [.i .i64 x12.1,.i .i64 x12.2])),.n 9,.keep [4,5] []] rfl ⟨⟨tt_,hc11⟩,(QjK _ _ _ hx12)⟩ ?_
    cases h
    exact AK.done (ex_ [_,_] (an_ (an_ rfl (an_ rfl tt_)) (gives tt_)))
   ·obtain⟨e13,he13,h⟩:=Qb h
    obtain⟨x14,hx14,h⟩:=Qb h
    refine Qa hC [.br false,.n 8,.o (.row (Ql e13)),.v .no [] (.agg (Ql e13)),.o (.c false [.d,.d] (.tup [.i .i64 x14.1,.i .i64 x14.2])),.n 14] rfl ⟨⟨⟨⟨tt_,hc11⟩,(Qdw he13)⟩,rfl⟩,(hrec_expr_env_eval _ _ hx14)⟩ ?_
    rcases bifE h with⟨hc15,h⟩|⟨hc15,h⟩
    ·refine Qa hC [.br true,.n 9,.keep [4,5] []] rfl ⟨tt_,hc15⟩ ?_
     cases h
     exact AK.done (ex_ [_,_] (an_ (an_ rfl (an_ rfl tt_)) (gives tt_)))
    ·obtain⟨x16,hx16,h⟩:=Qb h
     refine Qa hC [.br false,.n 8,.o (.c false [.d,.d,.d] (.tup [.i .i64 x16.1,.i .i64 x16.2])),.n 7,.keep [4,5] []] rfl ⟨⟨tt_,hc15⟩,(QjK _ _ _ hx16)⟩ ?_
     cases h
     exact AK.done (ex_ [_,_] (an_ (an_ rfl (an_ rfl tt_)) (gives tt_)))
def Qgc (rec_expr_env_eval:(List Int)→Qf→Option (Int×Int))(v1:(List Int))(e2:Qf):Option (Int×Int):=
 (idx e2.Kids 0).bind fun e7=>
 (rec_expr_env_eval v1 e7).bind fun x8=>
 bif (x8.2 != 0)then
 some (0,x8.2)
 else
 bif (x8.1 != 0)then
 (idx e2.Kids 1).bind fun e11=>
 (rec_expr_env_eval v1 e11).bind fun x12=>
 some (x12.1,x12.2)
 else
 (idx e2.Kids 2).bind fun e13=>
 (rec_expr_env_eval v1 e13).bind fun x14=>
 some (x14.1,x14.2)
theorem Qnr (rec_expr_env_eval:(List Int)→Qf→Option (Int×Int))(hrec_expr_env_eval:∀(v1:(List Int)) (e2:Qf) {r:(Int×Int)},rec_expr_env_eval v1 e2=some r→Qc Tryz.prog 162 [.sl 1 (v1.map Qe),.agg (Ql e2)] [] (Gives (.tup [.i .i64 r.1,.i .i64 r.2]) []))(v1:(List Int))(e2:Qf){r:(Int×Int)}(h:Qgc rec_expr_env_eval v1 e2=some r):Qc Tryz.prog 234 [.sl 1 (v1.map Qe),.agg (Ql e2)] [] (Gives (.tup [.i .i64 r.1,.i .i64 r.2]) []):=by
 refine Qc.walk 40 Tryz.func234 rfl Tryz.ntmps234 rfl fun C hC=>?_
 unfold Qgc at h
 obtain⟨e7,he7,h⟩:=Qb h
 obtain⟨x8,hx8,h⟩:=Qb h
 refine Qa hC [.n 12,.o (.row (Ql e7)),.v .no [] (.agg (Ql e7)),.o (.c false [.d,.d] (.tup [.i .i64 x8.1,.i .i64 x8.2])),.n 16] rfl ⟨⟨⟨tt_,(Qdw he7)⟩,rfl⟩,(hrec_expr_env_eval _ _ hx8)⟩ ?_
 rcases bifE h with⟨hc9,h⟩|⟨hc9,h⟩
 ·refine Qa hC [.br true,.n 10,.keep [4,5] []] rfl ⟨tt_,hc9⟩ ?_
  cases h
  exact AK.done (ex_ [_,_] (an_ (an_ rfl (an_ rfl tt_)) (gives tt_)))
 ·refine Qa hC [.br false,.n 7] rfl ⟨tt_,hc9⟩ ?_
  rcases bifE h with⟨hc10,h⟩|⟨hc10,h⟩
  ·obtain⟨e11,he11,h⟩:=Qb h
   obtain⟨x12,hx12,h⟩:=Qb h
   refine Qa hC [.br true,.n 5,.o (.row (Ql e11)),.v .no [] (.agg (Ql e11)),.o (.c false [.d,.d] (.tup [.i .i64 x12.1,.i .i64 x12.2])),.n 9,.keep [4,5] []] rfl ⟨⟨⟨⟨tt_,hc10⟩,(Qdw he11)⟩,rfl⟩,(hrec_expr_env_eval _ _ hx12)⟩ ?_
   cases h
   exact AK.done (ex_ [_,_] (an_ (an_ rfl (an_ rfl tt_)) (gives tt_)))
  ·obtain⟨e13,he13,h⟩:=Qb h
   obtain⟨x14,hx14,h⟩:=Qb h
   refine Qa hC [.br false,.n 8,.o (.row (Ql e13)),.v .no [] (.agg (Ql e13)),.o (.c false [.d,.d] (.tup [.i .i64 x14.1,.i .i64 x14.2])),.n 7,.keep [4,5] []] rfl ⟨⟨⟨⟨tt_,hc10⟩,(Qdw he13)⟩,rfl⟩,(hrec_expr_env_eval _ _ hx14)⟩ ?_
   cases h
   exact AK.done (ex_ [_,_] (an_ (an_ rfl (an_ rfl tt_)) (gives tt_)))
def Qh1 (e2:Qf)(a8:(List Int)):Option (Int×Int):=
 (QiA a8 e2).bind fun x13=>
 some (x13.1,x13.2)
def QdE (e2:Qf)(a9:(List Int)):Option (Int×Int):=
 (Qfh a9 e2).bind fun x14=>
 some (x14.1,x14.2)
def QbL (rec_expr_env_eval:(List Int)→Qf→Option (Int×Int))(e2:Qf)(a10:(List Int)):Option (Int×Int):=
 (Qee rec_expr_env_eval a10 e2).bind fun x15=>
 some (x15.1,x15.2)
def QdF (rec_expr_env_eval:(List Int)→Qf→Option (Int×Int))(e2:Qf)(a11:(List Int)):Option (Int×Int):=
 (Qiq rec_expr_env_eval a11 e2).bind fun x16=>
 some (x16.1,x16.2)
def QdG (rec_expr_env_eval:(List Int)→Qf→Option (Int×Int))(e2:Qf)(a12:(List Int)):Option (Int×Int):=
 (Qgc rec_expr_env_eval a12 e2).bind fun x17=>
 some (x17.1,x17.2)
def Qgd (rec_expr_env_eval:(List Int)→Qf→Option (Int×Int))(v1:(List Int))(e2:Qf):Option (Int×Int):=
 (Qbx v1 e2.Kind).bind fun x7=>
 (Sum.elim (fun q=>Qh1 e2 q) (Sum.elim (fun q=>QdE e2 q) (Sum.elim (fun q=>QbL rec_expr_env_eval e2 q) (Sum.elim (fun q=>QdF rec_expr_env_eval e2 q) (fun q=>QdG rec_expr_env_eval e2 q))))) x7
def Qai : Nat→(List Int)→Qf→Option (Int×Int)
 | 0,_,_=>none
 | n+1,v1,e2=>Qgd (Qai n) v1 e2
def QjM (v1:(List Int))(e2:Qf):Option (Int×Int):=Qai (SizeOf.sizeOf e2) v1 e2
theorem Qns (rec_expr_env_eval:(List Int)→Qf→Option (Int×Int))(hrec_expr_env_eval:∀(v1:(List Int)) (e2:Qf) {r:(Int×Int)},rec_expr_env_eval v1 e2=some r→Qc Tryz.prog 162 [.sl 1 (v1.map Qe),.agg (Ql e2)] [] (Gives (.tup [.i .i64 r.1,.i .i64 r.2]) []))(v1:(List Int))(e2:Qf){r:(Int×Int)}(h:Qgd rec_expr_env_eval v1 e2=some r):Qc Tryz.prog 162 [.sl 1 (v1.map Qe),.agg (Ql e2)] [] (Gives (.tup [.i .i64 r.1,.i .i64 r.2]) []):=by
 refine Qc.walk 14 Tryz.func162 rfl Tryz.ntmps162 rfl fun C hC=>?_
 unfold Qgd at h
 refine Qa hC [.n 8] rfl tt_ ?_
 obtain⟨x7,hx7,h⟩:=Qb h
 rcases x7 with(a8 | (a9 | (a10 | (a11 | a12))))
 ·replace h:Qh1 e2 a8=some r:=h
  unfold Qh1 at h
  obtain⟨x13,hx13,h⟩:=Qb h
  refine Qa hC [.keep [0,3,4,5] [3]] rfl tt_ ?_
  refine AK.draw2 Qo hC mixed [.a .no none false,.a .no none false,.a .no none false,.a (.any (.clo (.func 230) [.sl 1 (a8.map Qe)] []) none) none false,.a .no (some ([],.agg (Ql e2))) false,.a (.c false [.d,.d] (.tup [.i .i64 x13.1,.i .i64 x13.2])) none false,.a .no none false,.a .no none false,.m .s,.m .s] [] [] [4,5] [] rfl rfl rfl ⟨⟨⟨tt_,(fun σ h1 h2 _=>Stp.callSame (md:=.cm (.fn) [] [] [] [.d,.d] [] (.clo (.func 230) [.sl 1 (a8.map Qe)] []) []) Qo hC h1 h2 rfl ⟨tt_,(QdD _ _ hx7)⟩)⟩,rfl⟩,(Qnn _ _ hx13)⟩ rfl (by kernel_rfl) rfl rfl rfl ?_
  refine Qa hC [.n 2,.keep [4,5] []] rfl tt_ ?_
  cases h
  exact AK.done (ex_ [_,_] (an_ (an_ rfl (an_ rfl tt_)) (gives tt_)))
 ·replace h:QdE e2 a9=some r:=h
  unfold QdE at h
  obtain⟨x14,hx14,h⟩:=Qb h
  refine Qa hC [.keep [0,3,4,5] [3]] rfl tt_ ?_
  refine AK.draw2 Qo hC mixed [.a .no none false,.a .no none false,.a .no none false,.a (.any (.clo (.func 231) [.sl 1 (a9.map Qe)] []) none) none false,.a .no (some ([],.agg (Ql e2))) false,.a (.c false [.d,.d] (.tup [.i .i64 x14.1,.i .i64 x14.2])) none false,.a .no none false,.a .no none false,.m .s,.m .s] [] [] [4,5] [] rfl rfl rfl ⟨⟨⟨tt_,(fun σ h1 h2 _=>Stp.callSame (md:=.cm (.fn) [] [] [] [.d,.d] [] (.clo (.func 231) [.sl 1 (a9.map Qe)] []) []) Qo hC h1 h2 rfl ⟨tt_,(QdD _ _ hx7)⟩)⟩,rfl⟩,(Qmw _ _ hx14)⟩ rfl (by kernel_rfl) rfl rfl rfl ?_
  refine Qa hC [.n 2,.keep [4,5] []] rfl tt_ ?_
  cases h
  exact AK.done (ex_ [_,_] (an_ (an_ rfl (an_ rfl tt_)) (gives tt_)))
 ·replace h:QbL rec_expr_env_eval e2 a10=some r:=h
  unfold QbL at h
  obtain⟨x15,hx15,h⟩:=Qb h
  refine Qa hC [.keep [0,3,4,5] [3]] rfl tt_ ?_
  refine AK.draw2 Qo hC mixed [.a .no none false,.a .no none false,.a .no none false,.a (.any (.clo (.func 232) [.sl 1 (a10.map Qe)] []) none) none false,.a .no (some ([],.agg (Ql e2))) false,.a (.c false [.d,.d] (.tup [.i .i64 x15.1,.i .i64 x15.2])) none false,.a .no none false,.a .no none false,.m .s,.m .s] [] [] [4,5] [] rfl rfl rfl ⟨⟨⟨tt_,(fun σ h1 h2 _=>Stp.callSame (md:=.cm (.fn) [] [] [] [.d,.d] [] (.clo (.func 232) [.sl 1 (a10.map Qe)] []) []) Qo hC h1 h2 rfl ⟨tt_,(QdD _ _ hx7)⟩)⟩,rfl⟩,(Qnq rec_expr_env_eval hrec_expr_env_eval _ _ hx15)⟩ rfl (by kernel_rfl) rfl rfl rfl ?_
  refine Qa hC [.n 2,.keep [4,5] []] rfl tt_ ?_
  cases h
  exact AK.done (ex_ [_,_] (an_ (an_ rfl (an_ rfl tt_)) (gives tt_)))
 ·replace h:QdF rec_expr_env_eval e2 a11=some r:=h
  unfold QdF at h
  obtain⟨x16,hx16,h⟩:=Qb h
  refine Qa hC [.keep [0,3,4,5] [3]] rfl tt_ ?_
  refine AK.draw2 Qo hC mixed [.a .no none false,.a .no none false,.a .no none false,.a (.any (.clo (.func 233) [.sl 1 (a11.map Qe)] []) none) none false,.a .no (some ([],.agg (Ql e2))) false,.a (.c false [.d,.d] (.tup [.i .i64 x16.1,.i .i64 x16.2])) none false,.a .no none false,.a .no none false,.m .s,.m .s] [] [] [4,5] [] rfl rfl rfl ⟨⟨⟨tt_,(fun σ h1 h2 _=>Stp.callSame (md:=.cm (.fn) [] [] [] [.d,.d] [] (.clo (.func 233) [.sl 1 (a11.map Qe)] []) []) Qo hC h1 h2 rfl ⟨tt_,(QdD _ _ hx7)⟩)⟩,rfl⟩,(Qo9 rec_expr_env_eval hrec_expr_env_eval _ _ hx16)⟩ rfl (by kernel_rfl) rfl rfl rfl ?_
  refine Qa hC [.n 2,.keep [4,5] []] rfl tt_ ?_
  cases h
  exact AK.done (ex_ [_,_] (an_ (an_ rfl (an_ rfl tt_)) (gives tt_)))
 ·replace h:QdG rec_expr_env_eval e2 a12=some r:=h
  unfold QdG at h
  obtain⟨x17,hx17,h⟩:=Qb h
  refine Qa hC [.keep [0,3,4,5] [3]] rfl tt_ ?_
  refine AK.draw2 Qo hC mixed [.a .no none false,.a .no none false,.a .no none false,.a (.any (.clo (.func 234) [.sl 1 (a12.map Qe)] []) none) none false,.a .no (some ([],.agg (Ql e2))) false,.a (.c false [.d,.d] (.tup [.i .i64 x17.1,.i .i64 x17.2])) none false,.a .no none false,.a .no none false,.m .s,.m .s] [] [] [4,5] [] rfl rfl rfl ⟨⟨⟨tt_,(fun σ h1 h2 _=>Stp.callSame (md:=.cm (.fn) [] [] [] [.d,.d] [] (.clo (.func 234) [.sl 1 (a12.map Qe)] []) []) Qo hC h1 h2 rfl ⟨tt_,(QdD _ _ hx7)⟩)⟩,rfl⟩,(Qnr rec_expr_env_eval hrec_expr_env_eval _ _ hx17)⟩ rfl (by kernel_rfl) rfl rfl rfl ?_
  refine Qa hC [.n 2,.keep [4,5] []] rfl tt_ ?_
  cases h
  exact AK.done (ex_ [_,_] (an_ (an_ rfl (an_ rfl tt_)) (gives tt_)))
theorem QjN : ∀(fuel:Nat) (v1:(List Int)) (e2:Qf) {r:(Int×Int)},Qai fuel v1 e2=some r→Qc Tryz.prog 162 [.sl 1 (v1.map Qe),.agg (Ql e2)] [] (Gives (.tup [.i .i64 r.1,.i .i64 r.2]) [])
 | 0,_,_,_,h=>by cases h
 | n+1,v1,e2,_,h=>Qns (Qai n) (fun _ _ _ h=>QjN n _ _ h) v1 e2 h
theorem Qoo (v1:(List Int))(e2:Qf){r:(Int×Int)}(h:QjM v1 e2=some r):Qc Tryz.prog 162 [.sl 1 (v1.map Qe),.agg (Ql e2)] [] (Gives (.tup [.i .i64 r.1,.i .i64 r.2]) []):=QjN _ v1 e2 h
def Qhq (e1:Qf)(vars2:(List Int)):Option (Int×Int):=
 (QeR e1 (vars2.length:Int)).bind fun x7=>
 bif (!x7)then
 some (0,1)
 else
 (QjM vars2 e1).bind fun x9=>
 some (x9.1,x9.2)
theorem QmN (e1:Qf)(vars2:(List Int)){r:(Int×Int)}(h:Qhq e1 vars2=some r):Qc Tryz.prog 95 [.agg (Ql e1),.sl 1 (vars2.map Qe)] [] (Gives (.tup [.i .i64 r.1,.i .i64 r.2]) []):=by
 refine Qc.walk 16 Tryz.func95 rfl Tryz.ntmps95 rfl fun C hC=>?_
 unfold Qhq at h
 obtain⟨x7,hx7,h⟩:=Qb h
 refine Qa hC [.n 10,.v .no [] (.agg (Ql e1)),.n 1,.o (.ln vars2.length),.o (.c false [.d,.d] (.b x7)),.n 3] rfl ⟨⟨⟨tt_,rfl⟩,Qh⟩,(QjI _ _ hx7)⟩ ?_
 rcases bifE h with⟨hc8,h⟩|⟨hc8,h⟩
 ·refine Qa hC [.br true,.n 8,.keep [4,5] []] rfl ⟨tt_,hc8⟩ ?_
  cases h
  exact AK.done (ex_ [_,_] (an_ (an_ rfl (an_ rfl tt_)) (gives tt_)))
 ·obtain⟨x9,hx9,h⟩:=Qb h
  refine Qa hC [.br false,.n 5,.v .no [] (.agg (Ql e1)),.o (.c false [.d,.d] (.tup [.i .i64 x9.1,.i .i64 x9.2])),.n 7,.keep [4,5] []] rfl ⟨⟨⟨tt_,hc8⟩,rfl⟩,(Qoo _ _ hx9)⟩ ?_
  cases h
  exact AK.done (ex_ [_,_] (an_ (an_ rfl (an_ rfl tt_)) (gives tt_)))
def QbH (b1:QB):Option Int:=
 (Qhq b1.task.Guard b1.env).bind fun x4=>
 bif (x4.2 != 0)then
 some x4.2
 else
 bif (x4.1==0)then
 some 9
 else
 some 0
theorem Qh2 (b1:QB){r:Int}(h:QbH b1=some r):Qc Tryz.prog 71 [.agg (Qp b1)] [] (Gives (.i .i64 r) []):=by
 refine Qc.walk 21 Tryz.func71 rfl Tryz.ntmps71 rfl fun C hC=>?_
 unfold QbH at h
 obtain⟨x4,hx4,h⟩:=Qb h
 refine Qa hC [.n 10,.v .no [] (.agg (Ql b1.task.Guard)),.n 2,.o (.c false [.d,.d] (.tup [.i .i64 x4.1,.i .i64 x4.2])),.n 16] rfl ⟨⟨tt_,rfl⟩,(QmN _ _ hx4)⟩ ?_
 rcases bifE h with⟨hc5,h⟩|⟨hc5,h⟩
 ·refine Qa hC [.br true,.n 9,.keep [2] []] rfl ⟨tt_,hc5⟩ ?_
  cases h
  exact AK.done (ex_ [_] (an_ (an_ rfl tt_) (gives tt_)))
 ·refine Qa hC [.br false,.n 7] rfl ⟨tt_,hc5⟩ ?_
  rcases bifE h with⟨hc6,h⟩|⟨hc6,h⟩
  ·refine Qa hC [.br true,.n 8,.keep [2] []] rfl ⟨tt_,hc6⟩ ?_
   cases h
   exact AK.done (ex_ [_] (an_ (an_ rfl tt_) (gives tt_)))
  ·refine Qa hC [.br false,.n 9,.keep [2] []] rfl ⟨tt_,hc6⟩ ?_
   cases h
   exact AK.done (ex_ [_] (an_ (an_ rfl tt_) (gives tt_)))
def Qc6 (l10:(List (List Int))):Option (List (List Int)):=
 some l10
def Qge (arcs2:Int)(x13:Int)(l14:(List Int)):Option ((Int×(List Int))⊕(List Int)):=
 bif (decide (x13<arcs2))then
 (chk (decide (l14.length+([x13]:List Int).length≤4294967296))).bind fun _=>
 some (.inl ((w64 (x13+1)),(l14++([x13]:List Int))))
 else
 some (.inr l14)
def QiB (l17:(List Int)):Option (List (List Int)):=
 some ([l17]:List (List Int))
def Qgf (arcs2:Int)(x23:Int)(l24:(List (List Int))):Option ((Int×(List (List Int)))⊕(List (List Int))):=
 bif (decide (x23<arcs2))then
 (chk (decide (l24.length+([([x23]:List Int)]:List (List Int)).length≤4294967296))).bind fun _=>
 some (.inl ((w64 (x23+1)),(l24++([([x23]:List Int)]:List (List Int)))))
 else
 some (.inr l24)
def QiC (l27:(List (List Int))):Option (List (List Int)):=
 Qc6 l27
def Qgg (x41:Int)(l47:(List Int)):Option ((Int×(List Int))⊕(List Int)):=
 some (.inl ((w64 (x41+1)),l47))
def Qgh (arcs2:Int)(set_33:Int)(x41:Int)(l42:(List Int)):Option ((Int×(List Int))⊕(List Int)):=
 bif (decide (x41<arcs2))then
 (chk (decide (0≤x41))).bind fun _=>
 bif ((andI .i64 (shrI .i64 set_33 x41) 1)==1)then
 (chk (decide (l42.length+([x41]:List Int).length≤4294967296))).bind fun _=>
 Qgg x41 (l42++([x41]:List Int))
 else
 Qgg x41 l42
 else
 some (.inr l42)
def QiD (l34:(List (List Int)))(set_33:Int)(l45:(List Int)):Option ((Int×(List (List Int)))⊕(List (List Int))):=
 (chk (decide (l34.length+([l45]:List (List Int)).length≤4294967296))).bind fun _=>
 some (.inl ((w64 (set_33+1)),(l34++([l45]:List (List Int)))))
def Qgi (arcs2:Int)(set_33:Int)(l34:(List (List Int))):Option ((Int×(List (List Int)))⊕(List (List Int))):=
 (chk (decide (0≤arcs2))).bind fun _=>
 bif (decide (set_33<(shlI .i64 1 arcs2)))then
 (QE (fun st=>Qgh arcs2 set_33 st.1 st.2) (0,([]:List Int))).bind (fun q=>QiD l34 set_33 q)
 else
 some (.inr l34)
def Qh3 (l37:(List (List Int))):Option (List (List Int)):=
 Qc6 l37
def QcA (kind1:Int)(arcs2:Int):Option (List (List Int)):=
 bif ((decide (arcs2<0))||((decide (16<arcs2))||((kind1==3)&&(decide (4<arcs2)))))then
 some ([]:List (List Int))
 else
 bif (kind1==1)then
 (QE (fun st=>Qge arcs2 st.1 st.2) (0,([]:List Int))).bind (fun q=>QiB q)
 else
 bif (kind1==2)then
 (QE (fun st=>Qgf arcs2 st.1 st.2) (0,([]:List (List Int)))).bind (fun q=>QiC q)
 else
 bif (kind1==3)then
 (QE (fun st=>Qgi arcs2 st.1 st.2) (1,([]:List (List Int)))).bind (fun q=>Qh3 q)
 else
 Qc6 ([]:List (List Int))
theorem QiE (kind1:Int)(arcs2:Int){r:(List (List Int))}(h:QcA kind1 arcs2=some r):Qc Tryz.prog 137 [.i .i64 kind1,.i .i64 arcs2] [] (Gives (.own 30000 r.length) [(30000,.arr 1 (r.map Qw))]):=by
 refine Qc.walk 79 Tryz.func137 rfl Tryz.ntmps137 rfl fun C hC=>?_
 unfold QcA at h
 refine Qa hC [.n 7] rfl tt_ ?_
 refine AK.meetX (fun σ=>σ=⟨[(0,.i .i64 kind1),(1,.i .i64 arcs2),(25,.b ((decide (arcs2<0))||((decide (16<arcs2))||((kind1==3)&&(decide (4<arcs2))))))],[]⟩) ?_ ?_
 ·refine Qa hC [.n 4] rfl tt_ ?_
  rcases QK (decide (arcs2<0))with hc6 | hc6
  ·refine Qa hC [.say 14 (.b true),.n 12,.say 25 (.b ((decide (arcs2<0))||((decide (16<arcs2))||((kind1==3)&&(decide (4<arcs2)))))),.keep [0,1,25] []] rfl ⟨⟨tt_,(congrArg V.b hc6)⟩,(congrArg V.b (orT hc6 rfl))⟩ ?_
   exact AK.met rfl
  ·refine Qa hC [.say 14 (.b false),.n 4] rfl ⟨tt_,(congrArg V.b hc6)⟩ ?_
   rcases QK (decide (16<arcs2))with hc7 | hc7
   ·refine Qa hC [.say 18 (.b true),.n 8,.say 25 (.b ((decide (arcs2<0))||((decide (16<arcs2))||((kind1==3)&&(decide (4<arcs2)))))),.keep [0,1,25] []] rfl ⟨⟨tt_,(congrArg V.b hc7)⟩,(congrArg V.b (orF hc6 (orT hc7 rfl)))⟩ ?_
    exact AK.met rfl
   ·refine Qa hC [.say 18 (.b false),.n 3] rfl ⟨tt_,(congrArg V.b hc7)⟩ ?_
    rcases QK (kind1==3)with hc8 | hc8
    ·refine Qa hC [.say 21 (.b true),.n 5,.say 25 (.b ((decide (arcs2<0))||((decide (16<arcs2))||((kind1==3)&&(decide (4<arcs2)))))),.keep [0,1,25] []] rfl ⟨⟨tt_,(congrArg V.b hc8)⟩,(congrArg V.b (orF hc6 (orF hc7 (andT hc8 rfl))))⟩ ?_
     exact AK.met rfl
    ·refine Qa hC [.say 21 (.b false),.n 5,.say 25 (.b ((decide (arcs2<0))||((decide (16<arcs2))||((kind1==3)&&(decide (4<arcs2)))))),.keep [0,1,25] []] rfl ⟨⟨tt_,(congrArg V.b hc8)⟩,(congrArg V.b (orF hc6 (orF hc7 (andF hc8 rfl))))⟩ ?_
     exact AK.met rfl
 ·rintro σ rfl
  refine Qa hC [.n 1] rfl tt_ ?_
  rcases bifE h with⟨hc9,h⟩|⟨hc9,h⟩
  ·refine Qa hC [.br true,.n 7,.adopt 4 30000 1,.sayO 30000 (.arr 1 (([]:List (List Int)).map Qw)),.say 4 (.own 30000 ([]:List (List Int)).length),.keep [4] [30000]] rfl ⟨⟨⟨tt_,hc9⟩,rfl⟩,rfl⟩ ?_
   cases h
   exact AK.done (ex_ [_] (an_ (an_ rfl tt_) (gives ⟨rfl,tt_⟩)))
  ·refine Qa hC [.br false,.n 7] rfl ⟨tt_,hc9⟩ ?_
   refine AK.meet (fun σ=>∃l10:(List (List Int)),σ=⟨[(5,.own 40005 l10.length)],[(40005,.arr 1 (l10.map Qw))]⟩∧Qc6 l10=some r) ?_ ?_
   ·refine Qa hC [.n 12] rfl tt_ ?_
    rcases bifE h with⟨hc11,h⟩|⟨hc11,h⟩
    ·refine Qa hC [.br true,.n 13,.adopt 6 33 1,.sayO 33 (.arr 1 (([]:List Int).map Qe)),.say 6 (.own 33 ([]:List Int).length),.keep [6,29,30] [33]] rfl ⟨⟨⟨tt_,hc11⟩,rfl⟩,(congrArg (fun n=>V.own 33 n) (by simp))⟩ ?_
     obtain⟨l17,hl20,h⟩:=Qb h
     refine AK.loop (body:=(fun st=>Qge arcs2 st.1 st.2)) (fun st σ=>σ=⟨[(6,.own 33 st.2.length),(29,.i .i64 arcs2),(30,.i .i64 st.1)],[(33,.arr 1 (st.2.map Qe))]⟩) (fun q e σ=>e=.exit 1∧σ=⟨[(6,.own 33 q.length)],[(33,.arr 1 (q.map Qe))]⟩) hl20 rfl ?_ ?_
     ·rintro ⟨x13,l14⟩ o σ rfl h
      replace h:Qge arcs2 x13 l14=some o:=h
      unfold Qge at h
      refine Qa hC [.n 6] rfl tt_ ?_
      rcases bifE h with⟨hc18,h⟩|⟨hc18,h⟩
      ·obtain⟨_,hk19,h⟩:=Qb h
       replace hk19:=chkE hk19
       refine Qa hC [.br true,.n 13,.v (.bd []) [] (.sl 1 (([x13]:List Int).map Qe)),.app ((l14++([x13]:List Int)).map Qe) (l14++([x13]:List Int)).length,.n 8,.keep [6,29,30] [33]] rfl ⟨⟨⟨tt_,hc18⟩,rfl⟩,⟨Qh,QeL hk19 Qh,Qdm,QgU Qh⟩⟩ ?_
       cases h
       exact rndN rfl rfl
      ·refine Qa hC [.br false,.n 2,.keep [6] [33]] rfl ⟨tt_,hc18⟩ ?_
       cases h
       exact rndX rfl (an_ rfl rfl)
     ·replace h:QiB l17=some r:=h
      unfold QiB at h
      rintro e σ ⟨rfl,rfl⟩
      refine Qa hC [.n 5,.frz 33 (l17.map Qe) [6,38] [],.n 1,.sayO 39 (.arr 1 (([l17]:List (List Int)).map Qw)),.say 39 (.own 39 ([l17]:List (List Int)).length),.n 6,.keep [4] [39],.ren 39 30000,.keep [4] [30000]] rfl ⟨⟨⟨tt_,⟨⟨tt_,(frzL Qh)⟩,(frzL Qh)⟩⟩,rfl⟩,rfl⟩ ?_
      cases h
      exact AK.done (ex_ [_] (an_ (an_ rfl tt_) (gives ⟨rfl,tt_⟩)))
    ·refine Qa hC [.br false,.n 6] rfl ⟨tt_,hc11⟩ ?_
     rcases bifE h with⟨hc21,h⟩|⟨hc21,h⟩
     ·refine Qa hC [.br true,.n 7,.adopt 5 46 1,.sayO 46 (.arr 1 (([]:List (List Int)).map Qw)),.say 5 (.own 46 ([]:List (List Int)).length),.keep [5,42,43] [46]] rfl ⟨⟨⟨tt_,hc21⟩,rfl⟩,(congrArg (fun n=>V.own 46 n) (by simp))⟩ ?_
      obtain⟨l27,hl30,h⟩:=Qb h
      refine AK.loop (body:=(fun st=>Qgf arcs2 st.1 st.2)) (fun st σ=>σ=⟨[(5,.own 46 st.2.length),(42,.i .i64 arcs2),(43,.i .i64 st.1)],[(46,.arr 1 (st.2.map Qw))]⟩) (fun q e σ=>e=.exit 3∧σ=⟨[(5,.own 46 q.length)],[(46,.arr 1 (q.map Qw))]⟩) hl30 rfl ?_ ?_
      ·rintro ⟨x23,l24⟩ o σ rfl h
       replace h:Qgf arcs2 x23 l24=some o:=h
       unfold Qgf at h
       refine Qa hC [.n 6] rfl tt_ ?_
       rcases bifE h with⟨hc28,h⟩|⟨hc28,h⟩
       ·obtain⟨_,hk29,h⟩:=Qb h
        replace hk29:=chkE hk29
        refine Qa hC [.br true,.n 13,.v (.bd []) [] (.sl 1 (([x23]:List Int).map Qe)),.v (.bd []) [] (.sl 1 (([([x23]:List Int)]:List (List Int)).map Qw)),.app ((l24++([([x23]:List Int)]:List (List Int))).map Qw) (l24++([([x23]:List Int)]:List (List Int))).length,.n 8,.keep [5,42,43] [46]] rfl ⟨⟨⟨⟨tt_,hc28⟩,rfl⟩,rfl⟩,⟨Qh,QeL hk29 Qh,Qdm,QgU Qh⟩⟩ ?_
        cases h
        exact rndN rfl rfl
       ·refine Qa hC [.br false,.n 2,.keep [5] [46]] rfl ⟨tt_,hc28⟩ ?_
        cases h
        exact rndX rfl (an_ rfl rfl)
      ·replace h:QiC l27=some r:=h
       unfold QiC at h
       rintro e σ ⟨rfl,rfl⟩
       refine Qa hC [.n 2,.ren 46 40005,.keep [5] [40005]] rfl tt_ ?_
       exact AK.met (ex_ _ (an_ rfl h))
     ·refine Qa hC [.br false,.n 6] rfl ⟨tt_,hc21⟩ ?_
      rcases bifE h with⟨hc31,h⟩|⟨hc31,h⟩
      ·refine Qa hC [.br true,.n 6,.adopt 5 74 1,.sayO 74 (.arr 1 (([]:List (List Int)).map Qw)),.say 5 (.own 74 ([]:List (List Int)).length),.keep [1,5,9] [74]] rfl ⟨⟨⟨tt_,hc31⟩,rfl⟩,(congrArg (fun n=>V.own 74 n) (by simp))⟩ ?_
       obtain⟨l37,hl53,h⟩:=Qb h
       refine AK.loop (body:=(fun st=>Qgi arcs2 st.1 st.2)) (fun st σ=>σ=⟨[(1,.i .i64 arcs2),(5,.own 74 st.2.length),(9,.i .i64 st.1)],[(74,.arr 1 (st.2.map Qw))]⟩) (fun q e σ=>e=.exit 5∧σ=⟨[(5,.own 74 q.length)],[(74,.arr 1 (q.map Qw))]⟩) hl53 rfl ?_ ?_
       ·rintro ⟨set_33,l34⟩ o σ rfl h
        replace h:Qgi arcs2 set_33 l34=some o:=h
        unfold Qgi at h
        obtain⟨_,hk38,h⟩:=Qb h
        replace hk38:=chkE hk38
        refine Qa hC [.n 5,.o (.any (.i .i64 (shlI .i64 1 arcs2)) none),.n 3] rfl ⟨tt_,(fun σ h1 h2 _=>Stp.shl rfl rfl (bleN hC.n rfl) (h1 _ _ rfl) (h1 _ _ rfl) (of_decide_eq_true hk38))⟩ ?_
        rcases bifE h with⟨hc39,h⟩|⟨hc39,h⟩
        ·refine Qa hC [.br true,.n 17,.adopt 10 69 1,.sayO 69 (.arr 1 (([]:List Int).map Qe)),.say 10 (.own 69 ([]:List Int).length),.keep [1,5,9,10,60,61] [69,74]] rfl ⟨⟨⟨tt_,hc39⟩,rfl⟩,(congrArg (fun n=>V.own 69 n) (by simp))⟩ ?_
         obtain⟨l45,hl51,h⟩:=Qb h
         refine AK.loop (body:=(fun st=>Qgh arcs2 set_33 st.1 st.2)) (fun st σ=>σ=⟨[(1,.i .i64 arcs2),(5,.own 74 l34.length),(9,.i .i64 set_33),(10,.own 69 st.2.length),(60,.i .i64 arcs2),(61,.i .i64 st.1)],[(69,.arr 1 (st.2.map Qe)),(74,.arr 1 (l34.map Qw))]⟩) (fun q e σ=>e=.exit 7∧σ=⟨[(1,.i .i64 arcs2),(5,.own 74 l34.length),(9,.i .i64 set_33),(10,.own 69 q.length)],[(69,.arr 1 (q.map Qe)),(74,.arr 1 (l34.map Qw))]⟩) hl51 rfl ?_ ?_
         ·rintro ⟨x41,l42⟩ o σ rfl h
          replace h:Qgh arcs2 set_33 x41 l42=some o:=h
          unfold Qgh at h
          refine Qa hC [.n 6] rfl tt_ ?_
          rcases bifE h with⟨hc46,h⟩|⟨hc46,h⟩
          ·refine Qa hC [.br true,.n 2] rfl ⟨tt_,hc46⟩ ?_
           refine AK.meet (fun σ=>∃l47:(List Int),σ=⟨[(1,.i .i64 arcs2),(5,.own 74 l34.length),(9,.i .i64 set_33),(10,.own 69 l47.length),(60,.i .i64 arcs2),(61,.i .i64 x41)],[(69,.arr 1 (l47.map Qe)),(74,.arr 1 (l34.map Qw))]⟩∧Qgg x41 l47=some o) ?_ ?_
           ·obtain⟨_,hk48,h⟩:=Qb h
            replace hk48:=chkE hk48
            refine Qa hC [.n 11,.o (.any (.i .i64 (shrI .i64 set_33 x41)) none),.o (.any (.i .i64 (andI .i64 (shrI .i64 set_33 x41) 1)) none),.n 3] rfl ⟨⟨tt_,(fun σ h1 h2 _=>Stp.shr rfl rfl (bleN hC.n rfl) (h1 _ _ rfl) (h1 _ _ rfl) (of_decide_eq_true hk48))⟩,(fun σ h1 h2 _=>Stp.andB rfl rfl (bleN hC.n rfl) (h1 _ _ rfl) (h1 _ _ rfl))⟩ ?_
            rcases bifE h with⟨hc49,h⟩|⟨hc49,h⟩
            ·obtain⟨_,hk50,h⟩:=Qb h
             replace hk50:=chkE hk50
             refine Qa hC [.br true,.n 3,.v (.bd []) [] (.sl 1 (([x41]:List Int).map Qe)),.app ((l42++([x41]:List Int)).map Qe) (l42++([x41]:List Int)).length,.n 3,.keep [1,5,9,10,60,61] [69,74]] rfl ⟨⟨⟨tt_,hc49⟩,rfl⟩,⟨Qh,QeL hk50 Qh,Qdm,QgU Qh⟩⟩ ?_
             exact AK.met (ex_ _ (an_ rfl h))
            ·refine Qa hC [.br false,.n 2,.keep [1,5,9,10,60,61] [69,74]] rfl ⟨tt_,hc49⟩ ?_
             exact AK.met (ex_ _ (an_ rfl h))
           ·rintro σ ⟨l47,rfl,h⟩
            unfold Qgg at h
            refine Qa hC [.n 4,.keep [1,5,9,10,60,61] [69,74]] rfl tt_ ?_
            cases h
            exact rndN rfl rfl
          ·refine Qa hC [.br false,.n 2,.keep [1,5,9,10] [69,74]] rfl ⟨tt_,hc46⟩ ?_
           cases h
           exact rndX rfl (an_ rfl rfl)
         ·replace h:QiD l34 set_33 l45=some o:=h
          unfold QiD at h
          rintro e σ ⟨rfl,rfl⟩
          obtain⟨_,hk52,h⟩:=Qb h
          replace hk52:=chkE hk52
          refine Qa hC [.n 5,.frz 69 (l45.map Qe) [10,75] [],.v (.bd []) [] (.sl 1 (([l45]:List (List Int)).map Qw)),.app ((l34++([l45]:List (List Int))).map Qw) (l34++([l45]:List (List Int))).length,.n 9,.keep [1,5,9] [74]] rfl ⟨⟨⟨tt_,⟨⟨tt_,(frzL Qh)⟩,(frzL Qh)⟩⟩,rfl⟩,⟨Qh,QeL hk52 Qh,Qdm,QgU Qh⟩⟩ ?_
          cases h
          exact rndN rfl rfl
        ·refine Qa hC [.br false,.n 2,.keep [5] [74]] rfl ⟨tt_,hc39⟩ ?_
         cases h
         exact rndX rfl (an_ rfl rfl)
       ·replace h:Qh3 l37=some r:=h
        unfold Qh3 at h
        rintro e σ ⟨rfl,rfl⟩
        refine Qa hC [.n 2,.ren 74 40005,.keep [5] [40005]] rfl tt_ ?_
        exact AK.met (ex_ _ (an_ rfl h))
      ·refine Qa hC [.br false,.n 2,.adopt 5 40005 1,.sayO 40005 (.arr 1 (([]:List (List Int)).map Qw)),.say 5 (.own 40005 ([]:List (List Int)).length),.keep [5] [40005]] rfl ⟨⟨⟨tt_,hc31⟩,rfl⟩,(congrArg (fun n=>V.own 40005 n) (by simp))⟩ ?_
       exact AK.met (ex_ _ (an_ rfl h))
   ·rintro σ ⟨l10,rfl,h⟩
    unfold Qc6 at h
    refine Qa hC [.n 7,.keep [4] [40005],.ren 40005 30000,.keep [4] [30000]] rfl tt_ ?_
    cases h
    exact AK.done (ex_ [_] (an_ (an_ rfl tt_) (gives ⟨rfl,tt_⟩)))
def QaQ (s1:(List Int))(s2:(List Int))(x6:Int):Option (Int⊕(Unit⊕Unit)):=
 bif (decide (x6<(s1.length:Int)))then
 (idx s1 x6).bind fun e9=>
 (idx s2 x6).bind fun e10=>
 bif (e9 != e10)then
 some (.inr (.inl ()))
 else
 some (.inl (w64 (x6+1)))
 else
 some (.inr (.inr ()))
def Qeo : Option Bool:=
 some false
def Qep : Option Bool:=
 some true
def Qcf (s1:(List Int))(s2:(List Int)):Option Bool:=
 bif ((s1.length:Int) != (s2.length:Int))then
 some false
 else
 (QE (fun st=>QaQ s1 s2 st) 0).bind (Sum.elim (fun q=>Qeo) (fun q=>Qep))
theorem Qlp (s1:(List Int))(s2:(List Int)){r:Bool}(h:Qcf s1 s2=some r):Qc Tryz.prog 139 [.sl 1 (s1.map Qe),.sl 1 (s2.map Qe)] [] (Gives (.b r) []):=by
 refine Qc.walk 26 Tryz.func139 rfl Tryz.ntmps139 rfl fun C hC=>?_
 unfold Qcf at h
 refine Qa hC [.n 9,.o (.ln s1.length),.n 1,.o (.ln s2.length),.n 3] rfl ⟨⟨tt_,Qh⟩,Qh⟩ ?_
 rcases bifE h with⟨hc5,h⟩|⟨hc5,h⟩
 ·refine Qa hC [.br true,.n 7,.keep [4] []] rfl ⟨tt_,hc5⟩ ?_
  cases h
  exact AK.done (ex_ [_] (an_ (an_ rfl tt_) (gives tt_)))
 ·refine Qa hC [.br false,.n 6,.o (.ln s1.length),.n 4,.keep [0,1,12,13] []] rfl ⟨⟨tt_,hc5⟩,Qh⟩ ?_
  obtain⟨o12,hl12,h⟩:=Qb h
  refine AK.loop (body:=(fun st=>QaQ s1 s2 st)) (fun st σ=>σ=⟨[(0,.sl 1 (s1.map Qe)),(1,.sl 1 (s2.map Qe)),(12,.i .i64 (s1.length:Int)),(13,.i .i64 st)],[]⟩) (Sum.elim (fun q e σ=>e=.ret∧σ=⟨[(4,.b false)],[]⟩) (fun q e σ=>e=.exit 0∧σ=⟨[],[]⟩)) hl12 rfl ?_ ?_
  ·rintro x6 o σ rfl h
   replace h:QaQ s1 s2 x6=some o:=h
   unfold QaQ at h
   refine Qa hC [.n 6] rfl tt_ ?_
   rcases bifE h with⟨hc8,h⟩|⟨hc8,h⟩
   ·obtain⟨e9,he9,h⟩:=Qb h
    obtain⟨e10,he10,h⟩:=Qb h
    refine Qa hC [.br true,.n 11,.keep [0,1,5,12,13] []] rfl ⟨tt_,hc8⟩ ?_
    refine AK.draw2 Qo hC mixed [.a .no none false,.a .no none false,.a (.row (Qe e9)) none false,.a .no none false,.a .no none false,.a .no none false,.a (.row (Qe e10)) none false,.a .no none false,.a .no none false] [] [] [0,1,12,13,24] [] rfl rfl rfl ⟨⟨tt_,(idxM he9)⟩,(idxM he10)⟩ rfl (by kernel_rfl) rfl rfl rfl ?_
    refine Qa hC [.n 1] rfl tt_ ?_
    rcases bifE h with⟨hc11,h⟩|⟨hc11,h⟩
    ·refine Qa hC [.br true,.n 8,.keep [4] []] rfl ⟨tt_,hc11⟩ ?_
     cases h
     exact rndR rfl (an_ rfl rfl)
    ·refine Qa hC [.br false,.n 7,.keep [0,1,12,13] []] rfl ⟨tt_,hc11⟩ ?_
     cases h
     exact rndN rfl rfl
   ·refine Qa hC [.br false,.n 2,.keep [] []] rfl ⟨tt_,hc8⟩ ?_
    cases h
    exact rndX rfl (an_ rfl rfl)
  ·rcases o12 with(_ | _)
   ·replace h:Qeo=some r:=h
    unfold Qeo at h
    rintro e σ ⟨rfl,rfl⟩
    refine Qa hC [.n 2,.keep [4] []] rfl tt_ ?_
    cases h
    exact AK.done (ex_ [_] (an_ (an_ rfl tt_) (gives tt_)))
   ·replace h:Qep=some r:=h
    unfold Qep at h
    rintro e σ ⟨rfl,rfl⟩
    refine Qa hC [.n 8,.keep [4] []] rfl tt_ ?_
    cases h
    exact AK.done (ex_ [_] (an_ (an_ rfl tt_) (gives tt_)))
def QhJ (p1:(List Int))(v2:(List Int)):Option Bool:=
 (Qcf p1 v2).bind fun x4=>
 some x4
theorem Qop (p1:(List Int))(v2:(List Int)){r:Bool}(h:QhJ p1 v2=some r):Qc Tryz.prog 138 [.sl 1 (p1.map Qe),.loc 200000 0 0] [(200000,.var (Qw v2))] (Gives (.b r) [(200000,.var (Qw v2))]):=by
 refine Qc.walk 7 Tryz.func138 rfl Tryz.ntmps138 rfl fun C hC=>?_
 unfold QhJ at h
 obtain⟨x4,hx4,h⟩:=Qb h
 refine Qa hC [.n 9,.o (.c false [.d,.d] (.b x4)),.n 4,.keep [3] [200000]] rfl ⟨tt_,(Qlp _ _ hx4)⟩ ?_
 cases h
 exact AK.done (ex_ [_] (an_ (an_ rfl tt_) (gives ⟨rfl,tt_⟩)))
def Qaz (s1:(List (List Int)))(v2:(List Int))(x5:Int):Option (Int⊕(Int⊕Unit)):=
 bif (decide (x5<(s1.length:Int)))then
 (idx s1 x5).bind fun e9=>
 (QhJ e9 v2).bind fun x10=>
 bif x10 then
 some (.inr (.inl x5))
 else
 some (.inl (w64 (x5+1)))
 else
 some (.inr (.inr ()))
def Qda (x7:Int):Option Int:=
 some x7
def Qdb : Option Int:=
 some (-1)
def Qcq (s1:(List (List Int)))(v2:(List Int)):Option Int:=
 (QE (fun st=>Qaz s1 v2 st) 0).bind (Sum.elim (fun q=>Qda q) (fun q=>Qdb))
theorem Qkl (s1:(List (List Int)))(v2:(List Int)){r:Int}(h:Qcq s1 v2=some r):Qc Tryz.prog 190 [.sl 1 (s1.map Qw),.clo (.func 138) [] [.loc 200000 0 0]] [(200000,.var (Qw v2))] (Gives (.i .i64 r) [(200000,.var (Qw v2))]):=by
 refine Qc.walk 19 Tryz.func190 rfl Tryz.ntmps190 rfl fun C hC=>?_
 unfold Qcq at h
 refine Qa hC [.n 9,.o (.ln s1.length),.n 4,.keep [0,1,7,8] [200000]] rfl ⟨tt_,Qh⟩ ?_
 obtain⟨o12,hl12,h⟩:=Qb h
 refine AK.loop (body:=(fun st=>Qaz s1 v2 st)) (fun st σ=>σ=⟨[(0,.sl 1 (s1.map Qw)),(1,.clo (.func 138) [] [.loc 200000 0 0]),(7,.i .i64 (s1.length:Int)),(8,.i .i64 st)],[(200000,.var (Qw v2))]⟩) (Sum.elim (fun q e σ=>e=.ret∧σ=⟨[(4,.i .i64 q)],[(200000,.var (Qw v2))]⟩) (fun q e σ=>e=.exit 0∧σ=⟨[],[(200000,.var (Qw v2))]⟩)) hl12 rfl ?_ ?_
 ·rintro x5 o σ rfl h
  replace h:Qaz s1 v2 x5=some o:=h
  unfold Qaz at h
  refine Qa hC [.n 6] rfl tt_ ?_
  rcases bifE h with⟨hc8,h⟩|⟨hc8,h⟩
  ·obtain⟨e9,he9,h⟩:=Qb h
   obtain⟨x10,hx10,h⟩:=Qb h
   refine Qa hC [.br true,.n 15,.o (.row (Qw e9)),.n 1,.cm (.clo) [(200000,200000)] [(200000,200000)] [] [.d,.d] [(200000,.var (Qw v2))] (.b x10),.n 2] rfl ⟨⟨⟨tt_,hc8⟩,(idxM he9)⟩,(Qop _ _ hx10)⟩ ?_
   rcases bifE h with⟨hc11,h⟩|⟨hc11,h⟩
   ·refine Qa hC [.br true,.n 9,.keep [4] [200000]] rfl ⟨tt_,hc11⟩ ?_
    cases h
    exact rndR rfl (an_ rfl rfl)
   ·refine Qa hC [.br false,.n 7,.keep [0,1,7,8] [200000]] rfl ⟨tt_,hc11⟩ ?_
    cases h
    exact rndN rfl rfl
  ·refine Qa hC [.br false,.n 2,.keep [] [200000]] rfl ⟨tt_,hc8⟩ ?_
   cases h
   exact rndX rfl (an_ rfl rfl)
 ·rcases o12 with(x7 | _)
  ·replace h:Qda x7=some r:=h
   unfold Qda at h
   rintro e σ ⟨rfl,rfl⟩
   refine Qa hC [.n 2,.keep [4] [200000]] rfl tt_ ?_
   cases h
   exact AK.done (ex_ [_] (an_ (an_ rfl tt_) (gives ⟨rfl,tt_⟩)))
  ·replace h:Qdb=some r:=h
   unfold Qdb at h
   rintro e σ ⟨rfl,rfl⟩
   refine Qa hC [.n 8,.keep [4] [200000]] rfl tt_ ?_
   cases h
   exact AK.done (ex_ [_] (an_ (an_ rfl tt_) (gives ⟨rfl,tt_⟩)))
def QbI (s1:(List (List Int)))(v2:(List Int)):Option Bool:=
 (Qcq s1 v2).bind fun x4=>
 some (decide (0≤x4))
theorem Qjf (s1:(List (List Int)))(v2:(List Int)){r:Bool}(h:QbI s1 v2=some r):Qc Tryz.prog 136 [.sl 1 (s1.map Qw),.clo (.func 138) [] [.loc 200000 0 0]] [(200000,.var (Qw v2))] (Gives (.b r) [(200000,.var (Qw v2))]):=by
 refine Qc.walk 9 Tryz.func136 rfl Tryz.ntmps136 rfl fun C hC=>?_
 unfold QbI at h
 obtain⟨x4,hx4,h⟩:=Qb h
 refine Qa hC [.n 9,.cm (.fn) [(200000,200000)] [(200000,200000)] [] [.d,.d] [(200000,.var (Qw v2))] (.i .i64 x4),.n 5,.keep [4] [200000]] rfl ⟨tt_,(Qkl _ _ hx4)⟩ ?_
 cases h
 exact AK.done (ex_ [_] (an_ (an_ rfl tt_) (gives ⟨rfl,tt_⟩)))
def Qfs (kind1:Int)(arcs2:Int)(row3:(List Int)):Option Bool:=
 (QcA kind1 arcs2).bind fun x5=>
 (QbI x5 row3).bind fun x6=>
 some x6
theorem QlI (kind1:Int)(arcs2:Int)(row3:(List Int)){r:Bool}(h:Qfs kind1 arcs2 row3=some r):Qc Tryz.prog 72 [.i .i64 kind1,.i .i64 arcs2,.sl 1 (row3.map Qe)] [] (Gives (.b r) []):=by
 refine Qc.walk 12 Tryz.func72 rfl Tryz.ntmps72 rfl fun C hC=>?_
 unfold Qfs at h
 obtain⟨x5,hx5,h⟩:=Qb h
 obtain⟨x6,hx6,h⟩:=Qb h
 refine Qa hC [.n 10,.o (.co false [.d,.d] 1 (x5.map Qw) x5.length),.n 1,.frz 9 (x5.map Qw) [9] [],.cm (.fn) [(200000,5)] [(5,200000)] [] [.d,.d] [(200000,.var (Qw row3))] (.b x6),.n 4,.keep [6] []] rfl ⟨⟨⟨tt_,⟨(QiE _ _ hx5),Qh,.inl rfl⟩⟩,⟨tt_,(frzL Qh)⟩⟩,(Qjf _ _ hx6)⟩ ?_
 cases h
 exact AK.done (ex_ [_] (an_ (an_ rfl tt_) (gives tt_)))
def Qbf (x8:(Bool×Qaa))(n10:Int):Option (Int×Bool):=
 (Qcu x8.2 n10).bind fun x11=>
 bif (!x11)then
 some (0,false)
 else
 some (n10,true)
def QcS (l1:(List Qy))(k2:Int)(n3:Int):Option (Int×Bool):=
 (Qeu l1 k2).bind fun x8=>
 bif (!x8.1)then
 some (0,false)
 else
 (Qbw x8.2).bind fun x13=>
 bif (x13.Kind==1)then
 bif ((decide (n3<x13.Lo))||(decide (x13.Hi<n3)))then
 some (0,false)
 else
 Qbf x8 (w64 (n3-x13.Lo))
 else
 Qbf x8 n3
theorem Qoq (l1:(List Qy))(k2:Int)(n3:Int){r:(Int×Bool)}(h:QcS l1 k2 n3=some r):Qc Tryz.prog 96 [.sl 7 (l1.map Qu),.i .i64 k2,.i .i64 n3] [] (Gives (.tup [.i .i64 r.1,.b r.2]) []):=by
 refine Qc.walk 43 Tryz.func96 rfl Tryz.ntmps96 rfl fun C hC=>?_
 unfold QcS at h
 obtain⟨x8,hx8,h⟩:=Qb h
 refine Qa hC [.n 10,.o (.c false [.d,.d] (.tup [.agg (QI x8.2),.b x8.1])),.n 5,.sayO 8 (.var (QI x8.2)),.n 10] rfl ⟨⟨tt_,(Qkr _ _ hx8)⟩,rfl⟩ ?_
 rcases bifE h with⟨hc9,h⟩|⟨hc9,h⟩
 ·refine Qa hC [.br true,.n 8,.keep [6,7] []] rfl ⟨tt_,hc9⟩ ?_
  cases h
  exact AK.done (ex_ [_,_] (an_ (an_ rfl (an_ rfl tt_)) (gives tt_)))
 ·refine Qa hC [.br false,.n 2] rfl ⟨tt_,hc9⟩ ?_
  refine AK.meet (fun σ=>∃n10:Int,σ=⟨[(2,.i .i64 n10),(8,.loc 8 0 0)],[(8,.var (QI x8.2))]⟩∧Qbf x8 n10=some r) ?_ ?_
  ·obtain⟨x13,hx13,h⟩:=Qb h
   refine Qa hC [.n 2,.v .no [] (.agg (QI x8.2)),.o (.c false [.d] (.agg (Qu x13))),.n 2,.sayO 10 (.var (Qu x13)),.n 9] rfl ⟨⟨⟨tt_,rfl⟩,(QfX _ hx13)⟩,rfl⟩ ?_
   rcases bifE h with⟨hc14,h⟩|⟨hc14,h⟩
   ·refine Qa hC [.br true,.n 2] rfl ⟨tt_,hc14⟩ ?_
    refine AK.meetX (fun σ=>σ=⟨[(2,.i .i64 n3),(8,.loc 8 0 0),(10,.loc 10 0 0),(33,.b ((decide (n3<x13.Lo))||(decide (x13.Hi<n3))))],[(8,.var (QI x8.2)),(10,.var (Qu x13))]⟩) ?_ ?_
    ·refine Qa hC [.n 6] rfl tt_ ?_
     rcases QK (decide (n3<x13.Lo))with hc16 | hc16
     ·refine Qa hC [.say 28 (.b true),.n 6,.say 33 (.b ((decide (n3<x13.Lo))||(decide (x13.Hi<n3)))),.keep [2,8,10,33] [8,10]] rfl ⟨⟨tt_,(congrArg V.b hc16)⟩,(congrArg V.b (orT hc16 rfl))⟩ ?_
      exact AK.met rfl
     ·refine Qa hC [.say 28 (.b false),.n 6,.say 33 (.b ((decide (n3<x13.Lo))||(decide (x13.Hi<n3)))),.keep [2,8,10,33] [8,10]] rfl ⟨⟨tt_,(congrArg V.b hc16)⟩,(congrArg V.b (orF hc16 rfl))⟩ ?_
      exact AK.met rfl
    ·rintro σ rfl
     refine Qa hC [.n 1] rfl tt_ ?_
     rcases bifE h with⟨hc17,h⟩|⟨hc17,h⟩
     ·refine Qa hC [.br true,.n 9,.keep [6,7] []] rfl ⟨tt_,hc17⟩ ?_
      cases h
      exact AK.done (ex_ [_,_] (an_ (an_ rfl (an_ rfl tt_)) (gives tt_)))
     ·refine Qa hC [.br false,.n 9,.keep [2,8] [8]] rfl ⟨tt_,hc17⟩ ?_
      exact AK.met (ex_ _ (an_ rfl h))
   ·refine Qa hC [.br false,.n 1,.keep [2,8] [8]] rfl ⟨tt_,hc14⟩ ?_
    exact AK.met (ex_ _ (an_ rfl h))
  ·rintro σ ⟨n10,rfl,h⟩
   unfold Qbf at h
   obtain⟨x11,hx11,h⟩:=Qb h
   refine Qa hC [.n 3,.v .no [] (.agg (QI x8.2)),.n 1,.o (.c false [.d,.d] (.b x11)),.n 3] rfl ⟨⟨tt_,rfl⟩,(Qkn _ _ hx11)⟩ ?_
   rcases bifE h with⟨hc12,h⟩|⟨hc12,h⟩
   ·refine Qa hC [.br true,.n 8,.keep [6,7] []] rfl ⟨tt_,hc12⟩ ?_
    cases h
    exact AK.done (ex_ [_,_] (an_ (an_ rfl (an_ rfl tt_)) (gives tt_)))
   ·refine Qa hC [.br false,.n 10,.keep [6,7] []] rfl ⟨tt_,hc12⟩ ?_
    cases h
    exact AK.done (ex_ [_,_] (an_ (an_ rfl (an_ rfl tt_)) (gives tt_)))
def Qby (m1:(List (Int×Int))):Option Unit:=
 some ()
theorem QiN (m1:(List (Int×Int))){r:Unit}(h:Qby m1=some r):Qc Tryz.prog 92 [.map 200000] [(200000,.map (mapV (V.i .i64) (V.i .i64) m1))] (Gives (.clo (.func 159) [] [.loc 1 0 0]) [(1,.var [.map 200000]),(200000,.map (mapV (V.i .i64) (V.i .i64) m1))]):=by
 refine Qc.walk 4 Tryz.func92 rfl Tryz.ntmps92 rfl fun C hC=>?_
 unfold Qby at h
 refine Qa hC [.n 13,.keep [2] [1,200000]] rfl tt_ ?_
 cases h
 exact AK.done (ex_ [_] (an_ (an_ rfl tt_) (gives ⟨rfl,rfl,tt_⟩)))
def QaR (l1:(List Int))(p2:Int):Option (List Int):=
 (chk (decide (l1.length+([p2]:List Int).length≤4294967296))).bind fun _=>
 some (l1++([p2]:List Int))
theorem Qht (lpl lpf:Nat)(l1:(List Int))(p2:Int){r:(List Int)}(h:QaR l1 p2=some r):QkO Tryz.prog lpl (QeM lpf) [.J,.J,.loc 200001 0 0,.J,.J,.J,.J,.i .i64 p2,.J,.J,.J,.J,.J] [(200000,.lp lpl (QeM lpf) [.J,.J,.loc 200001 0 0,.J,.J,.J,.J,.J,.J,.J,.J,.J,.J] 0),(200001,.var [.own 100000 l1.length]),(100000,.arr 1 (l1.map Qe))] (Gives (.b true) [(100000,.arr 1 (r.map Qe)),(200000,.lp lpl (QeM lpf) [.J,.J,.loc 200001 0 0,.J,.J,.J,.J,.J,.J,.J,.J,.J,.J] 0),(200001,.var [.own 100000 r.length])]):=by
 refine QkO.walk (b:=200000) 13 rfl rfl fun C hC=>?_
 unfold QaR at h
 refine Qa hC [.n 3] rfl tt_ ?_
 refine AK.done (an_ rfl (ex_ _ (an_ rfl ?_)))
 obtain⟨_,hk4,h⟩:=Qb h
 replace hk4:=chkE hk4
 refine Qa hC [.n 4,.v (.bd []) [] (.sl 1 (([p2]:List Int).map Qe)),.app ((l1++([p2]:List Int)).map Qe) (l1++([p2]:List Int)).length,.n 1,.sayO 200001 (.var [.own 100000 (l1++([p2]:List Int)).length]),.n 2,.keep [] [100000,200000,200001]] rfl ⟨⟨⟨tt_,rfl⟩,⟨Qh,QeL hk4 Qh,Qdm,QgU Qh⟩⟩,rfl⟩ ?_
 cases h
 refine AK.done ?_
 exact ex_ _ (an_ rfl (gives ⟨rfl,rfl,rfl,tt_⟩))
theorem Qir (lpl lpf:Nat)(l1:(List Int))(m2:(List (Int×Int)))(hlen:l1.length+m2.length≤4294967296):Qc Tryz.prog 159 [.clo (.yield lpl) [] [],.loc 200002 0 0] [(200000,.lp lpl (QeM lpf) [.J,.J,.loc 200001 0 0,.J,.J,.J,.J,.J,.J,.J,.J,.J,.J] 0),(200001,.var [.own 100000 l1.length]),(100000,.arr 1 (l1.map Qe)),(200002,.var [.map 200003]),(200003,.map (mapV (V.i .i64) (V.i .i64) m2))] (fun v hs=>∃r:List Int,r.Perm (l1++m2.map Prod.fst)∧Gives (.tup []) [(100000,.arr 1 (r.map Qe)),(200000,.lp lpl (QeM lpf) [.J,.J,.loc 200001 0 0,.J,.J,.J,.J,.J,.J,.J,.J,.J,.J] 0),(200001,.var [.own 100000 r.length]),(200002,.var [.map 200003]),(200003,.map (mapV (V.i .i64) (V.i .i64) m2))] v hs):=by
 refine Qc.walk 14 Tryz.func159 rfl Tryz.ntmps159 rfl fun C hC=>?_
 refine Qa hC [.n 3] rfl tt_ ?_
 refine AK.openMap (b:=200003) ky_3 rfl fun bm4 cl4 L4 hbn4 hpm4=>?_
 refine Qa hC [.x (fun σ=>(σ.set 5 (.itr bm4 cl4 #[] none)).put 5 (.loc 5 0 0)),.n 3,.keep [0,5] [5,100000,200000,200001,200002,200003]] rfl ⟨tt_,(Stp.range (b:=200003) rfl rfl (bleN hC.n rfl) rfl rfl Qfz rfl)⟩ ?_
 have hL0:QaM L4 #[]=L4:=by simp [QaM]
 have hp0:(l1++(QaM L4 #[]).map (fun q=>q.2.1)).Perm (l1++m2.map Prod.fst):=by
  rw [hL0]
  refine List.Perm.append_left l1 ?_
  have:=hpm4.map Prod.fst
  rwa [List.map_map]at this
 refine AK.range (body:=cntM) (fun (_:Nat) seen σ=>∃(cur:Option MapEntry) (st:List Int),(st++(QaM L4 seen).map (fun q=>q.2.1)).Perm (l1++m2.map Prod.fst)∧σ=⟨[(0,.clo (.yield lpl) [] []),(5,.loc 5 0 0)],[(5,.itr bm4 cl4 seen cur),(100000,.arr 1 (st.map Qe)),(200000,.lp lpl (QeM lpf) [.J,.J,.loc 200001 0 0,.J,.J,.J,.J,.J,.J,.J,.J,.J,.J] 0),(200001,.var [.own 100000 st.length]),(200002,.var [.map 200003]),(200003,.mapX bm4 cl4 (typV (V.i .i64) (V.i .i64) L4) (mapV (V.i .i64) (V.i .i64) m2))]⟩) (fun (q:Empty) _ _=>False) (fun _ e σ=>∃st:List Int,st.Perm (l1++m2.map Prod.fst)∧e=.exit 0∧σ=⟨[],[(100000,.arr 1 (st.map Qe)),(200000,.lp lpl (QeM lpf) [.J,.J,.loc 200001 0 0,.J,.J,.J,.J,.J,.J,.J,.J,.J,.J] 0),(200001,.var [.own 100000 st.length]),(200002,.var [.map 200003]),(200003,.mapX bm4 cl4 (typV (V.i .i64) (V.i .i64) L4) (mapV (V.i .i64) (V.i .i64) m2))]⟩) hbn4 hpm4 (QtQ m2 0) (ex_ _ (ex_ l1 (an_ hp0 rfl))) ?_ ?_
 ·rintro n0 seen σ ⟨cur,l6,hpp,rfl⟩ hex
  refine Qa hC [.n 2] rfl tt_ ?_
  refine AK.nextT (b:=5) (m:=200003) rfl rfl rfl (bleN hC.n rfl) rfl rfl rfl rfl ?_ ?_
  ·intro hleft
   refine Qa hC [.n 7,.keep [] [100000,200000,200001,200002,200003]] rfl tt_ ?_
   exact AK.done (Or.inl (an_ hleft (an_ (fun h=>(by cases h)) (ex_ l6 (an_ (by simpa [hleft] using hpp) (an_ rfl rfl))))))
  ·intro xk8 k8 v9 hq5
   have hpk:=(Qng hbn4 hq5).map (fun q=>q.2.1)
   have hp2:((l6++[k8])++(QaM L4 (seen.push xk8.born)).map (fun q=>q.2.1)).Perm (l1++m2.map Prod.fst):=List.Perm.trans (by simpa using (List.Perm.append_left l6 hpk).symm) hpp
   have hl2:l6.length+([k8]:List Int).length≤4294967296:=by
    have:=hp2.length_eq
    simp at this ⊢
    omega
   have hx10:QaR l6 k8=some (l6++[k8]):=by
    unfold QaR
    rw [decide_eq_true hl2];rfl
   obtain⟨x10,hxe⟩:∃x,x=l6++[k8]:=⟨_,rfl⟩
   rw [←hxe]at hx10 hp2
   refine Qa hC [.n 10,.x (fun σ=>σ.put 8 (.tup [.i .i64 k8,.i .i64 v9])),.n 8,.x (fun σ=>(σ.after [100000] [(100000,.arr 1 (x10.map Qe)),(200000,.lp lpl (QeM lpf) [.J,.J,.loc 200001 0 0,.J,.J,.J,.J,.J,.J,.J,.J,.J,.J] 0),(200001,.var [.own 100000 x10.length])]).put 12 (.b true)),.n 6,.keep [0,5] [5,100000,200000,200001,200002,200003]] rfl ⟨⟨tt_,(Stp.entryT (b:=5) (m:=200003) rfl rfl (bleN hC.n rfl) rfl hq5 rfl rfl)⟩,(Stp.yieldV (b:=200000) (M:=[(200000,200000),(200001,200001),(100000,100000)]) (N:=[(100000,100000),(200000,200000),(200001,200001)]) (dead:=[100000]) (ms:=[.d,.d,.d,.d,.d,.d,.d,.d,.d,.d,.d,.d,.d]) (outs:=[(100000,.arr 1 (x10.map Qe)),(200000,.lp lpl (QeM lpf) [.J,.J,.loc 200001 0 0,.J,.J,.J,.J,.J,.J,.J,.J,.J,.J] 0),(200001,.var [.own 100000 x10.length])]) (r:=.b true) rfl rfl rfl rfl rfl rfl rfl (bleN hC.n rfl) hC.g rfl rfl (Qht _ _ _ _ hx10))⟩ ?_
   exact AK.done (Or.inr (ex_ _ (an_ hq5 (Or.inl (ex_ (n0+1) (an_ rfl (an_ rfl (ex_ _ (ex_ x10 (an_ hp2 rfl))))))))))
 ·rintro e σ ⟨l6,hpp,rfl,rfl⟩
  refine Qa hC [.n 1] rfl tt_ ?_
  refine AK.closeMap (b:=200003) rfl ?_
  refine Qa hC [.keep [] [100000,200000,200001,200002,200003]] rfl tt_ ?_
  refine AK.done ?_
  exact ex_ [] (an_ tt_ (ex_ l6 (an_ hpp (gives ⟨rfl,rfl,rfl,rfl,rfl,tt_⟩))))
theorem Qkm (m1:(List (Int×Int)))(hlen:m1.length≤4294967296):Qc Tryz.prog 201 [.lit (.slice none 0 0),.clo (.func 159) [] [.loc 200000 0 0]] [(200000,.var [.map 200001]),(200001,.map (mapV (V.i .i64) (V.i .i64) m1))] (fun v hs=>∃r:List Int,r.Perm (m1.map Prod.fst)∧Gives (.own 30000 r.length) [(30000,.arr 1 (r.map Qe)),(200000,.var [.map 200001]),(200001,.map (mapV (V.i .i64) (V.i .i64) m1))] v hs):=by
 refine Qc.walkR 13 Tryz.func201 rfl Tryz.ntmps201 rfl fun C hC hR=>?_
 refine Qa hC [.n 13,.keep [2,4,6] [2,200000,200001]] rfl tt_ ?_
 refine Qa hC [.adoptO 2 0 45040 1,.sayO 45040 (.arr 1 (([]:List Int).map Qe)),.sayO 2 (.var [.own 45040 ([]:List Int).length])] rfl ⟨⟨tt_,rfl⟩,rfl⟩ ?_
 refine AK.rangeFE (ι:=List Int) (Φ:=fun x=>x.Perm (m1.map Prod.fst)) 60000 [2] [(200000,60000),(200001,2),(100000,45040),(200002,200000),(200003,200001)] [(45040,100000),(60000,200000),(2,200001),(200000,200002),(200001,200003)] [45040] [.d,.d] QeM hC hR (fun _=>rfl) rfl rfl rfl rfl fun lpl lpf=>?_
 refine ex_ (fun x3:List Int=>[(100000,.arr 1 (x3.map Qe)),(200000,.lp lpl (QeM lpf) [.J,.J,.loc 200001 0 0,.J,.J,.J,.J,.J,.J,.J,.J,.J,.J] 0),(200001,.var [.own 100000 x3.length]),(200002,.var [.map 200003]),(200003,.map (mapV (V.i .i64) (V.i .i64) m1))]) (ex_ (fun _=>.tup []) (ex_ (fun x3=>_) (ex_ _ (ex_ _ (an_ rfl (an_ rfl (an_ (Qir _ _ ([]:List Int) m1 (by simpa using hlen)) fun x3=>ex_ _ (ex_ [.J,.J,.loc 2 0 0,.J,.J,.J,.J,.J,.J,.J,.J,.J,.J] (ex_ 0 (an_ rfl (an_ rfl (an_ (bne_iff_ne.1 (show(0 != 1)=true from rfl)) fun hpp=>?_))))))))))))
 refine atJ0 rfl ?_
 refine Qa hC [.n 9,.keep [4] [45040,200000,200001],.ren 45040 30000,.keep [4] [30000,200000,200001]] rfl tt_ ?_
 exact AK.done (ex_ [_] (an_ (an_ rfl tt_) (ex_ x3 (an_ hpp (gives ⟨rfl,rfl,rfl,tt_⟩)))))
theorem Ql7 (m1:(List (Int×Int)))(hlen:m1.length≤4294967296):Qc Tryz.prog 158 [.clo (.func 159) [] [.loc 200000 0 0]] [(200000,.var [.map 200001]),(200001,.map (mapV (V.i .i64) (V.i .i64) m1))] (fun v hs=>∃r:List Int,r.Perm (m1.map Prod.fst)∧Gives (.own 30000 r.length) [(30000,.arr 1 (r.map Qe)),(200000,.var [.map 200001]),(200001,.map (mapV (V.i .i64) (V.i .i64) m1))] v hs):=by
 refine Qc.walk 5 Tryz.func158 rfl Tryz.ntmps158 rfl fun C hC=>?_
 refine Qa hC [.n 8] rfl tt_ ?_
 refine AK.callE (ι:=List Int) (Φ:=fun x=>x.Perm (m1.map Prod.fst)) [(200000,200000),(200001,200001)] [(4,30000),(200000,200000),(200001,200001)] [] [.d,.d] (fun x3=>[(30000,.arr 1 (x3.map Qe)),(200000,.var [.map 200001]),(200001,.map (mapV (V.i .i64) (V.i .i64) m1))]) (fun x3=>(.own 30000 x3.length)) (fun x3=>_) rfl hC (Qa2.fn rfl rfl rfl) rfl (bleN hC.n rfl) rfl rfl (Qkm m1 hlen) (fun x3=>ex_ _ rfl) fun x3 hpp=>?_
 refine Qa hC [.n 4,.keep [2] [4,200000,200001],.ren 4 30000,.keep [2] [30000,200000,200001]] rfl tt_ ?_
 exact AK.done (ex_ [_] (an_ (an_ rfl tt_) (ex_ x3 (an_ hpp (gives ⟨rfl,rfl,rfl,tt_⟩)))))
def Qa4 (l:List Int):Option (List Int):=(chk (decide (l.length<4611686018427387904))).bind fun _=>some (Qb7 l)
theorem Qh4 (l:List Int){r:List Int}(h:Qa4 l=some r):Qc Tryz.prog 143 [.own 200000 l.length] [(200000,.arr 1 (l.map Qe))] (Gives (.tup []) [(200000,.arr 1 (r.map Qe))]):=by
 unfold Qa4 at h
 obtain⟨_,h1,h⟩:=Qb h
 cases h
 exact QsF QtU l (of_decide_eq_true (chkE h1))
def Qfi (m1:(List (Int×Int))):Option (List Int):=
 (chk (decide (m1.length≤4294967296))).bind fun _=>
 some (Qb7 (m1.map Prod.fst))
theorem Qmx (m1:(List (Int×Int))){r:(List Int)}(h:Qfi m1=some r):Qc Tryz.prog 91 [.clo (.func 159) [] [.loc 200000 0 0]] [(200000,.var [.map 200001]),(200001,.map (mapV (V.i .i64) (V.i .i64) m1))] (Gives (.own 30000 r.length) [(30000,.arr 1 (r.map Qe)),(200000,.var [.map 200001]),(200001,.map (mapV (V.i .i64) (V.i .i64) m1))]):=by
 refine Qc.walk 9 Tryz.func91 rfl Tryz.ntmps91 rfl fun C hC=>?_
 unfold Qfi at h
 obtain⟨_,hlen,h⟩:=Qb h
 replace hlen:=of_decide_eq_true (chkE hlen)
 cases h
 refine Qa hC [.n 8] rfl tt_ ?_
 refine AK.callE (ι:=List Int) (Φ:=fun x=>x.Perm (m1.map Prod.fst)) [(200000,200000),(200001,200001)] [(5,30000),(200000,200000),(200001,200001)] [] [.d] (fun x3=>[(30000,.arr 1 (x3.map Qe)),(200000,.var [.map 200001]),(200001,.map (mapV (V.i .i64) (V.i .i64) m1))]) (fun x3=>(.own 30000 x3.length)) (fun x3=>_) rfl hC (Qa2.fn rfl rfl rfl) rfl (bleN hC.n rfl) rfl rfl (Ql7 m1 hlen) (fun x3=>ex_ _ rfl) fun x3 hpp=>?_
 have hx4:Qa4 x3=some (Qb7 (m1.map Prod.fst)):=by
  unfold Qa4
  rw [decide_eq_true (by have:=hpp.length_eq;simp at this;omega),Qti hpp];rfl
 have hk5:(Qb7 (m1.map Prod.fst)).length=x3.length:=by rw [Qjs,hpp.length_eq]
 refine Qa hC [.n 6,.cm (.fn) [(200000,5)] [(5,200000)] [] [.d] [(200000,.arr 1 (((Qb7 (m1.map Prod.fst))).map Qe))] (.tup []),.say 3 (.own 5 (Qb7 (m1.map Prod.fst)).length),.say 5 (.own 5 (Qb7 (m1.map Prod.fst)).length),.say 6 (.own 5 (Qb7 (m1.map Prod.fst)).length),.n 9,.keep [2] [5,200000,200001],.ren 5 30000,.keep [2] [30000,200000,200001]] rfl ⟨⟨⟨⟨tt_,(Qh4 _ hx4)⟩,(by simp [hk5])⟩,(by simp [hk5])⟩,(by simp [hk5])⟩ ?_
 exact AK.done (ex_ [_] (an_ (an_ rfl tt_) (gives ⟨rfl,rfl,rfl,tt_⟩)))
def Qb9 (x6:Int)(l12:(List (Int×Int))):Option ((Int×(List (Int×Int)))⊕(List (Int×Int))):=
 some (.inl ((w64 (x6+1)),l12))
def QaG (x4:(List Int))(m1:(List (Int×Int)))(x6:Int)(l7:(List (Int×Int))):Option ((Int×(List (Int×Int)))⊕(List (Int×Int))):=
 bif (decide (x6<(x4.length:Int)))then
 (idx x4 x6).bind fun e13=>
 bif (decide (0<((mget m1 e13).getD 0)))then
 (chk (decide (l7.length+([(e13,((mget m1 e13).getD 0))]:List (Int×Int)).length≤4294967296))).bind fun _=>
 Qb9 x6 (l7++([(e13,((mget m1 e13).getD 0))]:List (Int×Int)))
 else
 Qb9 x6 l7
 else
 some (.inr l7)
def Qhu (l10:(List (Int×Int))):Option (List (Int×Int)):=
 some l10
def Qcv (m1:(List (Int×Int))):Option (List (Int×Int)):=
 (Qby m1).bind fun x3=>
 (Qfi m1).bind fun x4=>
 (QE (fun st=>QaG x4 m1 st.1 st.2) (0,([]:List (Int×Int)))).bind (fun q=>Qhu q)
theorem Qhv (m1:(List (Int×Int))){r:(List (Int×Int))}(h:Qcv m1=some r):Qc Tryz.prog 48 [.map 200000] [(200000,.map (mapV (V.i .i64) (V.i .i64) m1))] (Gives (.own 30000 r.length) [(30000,.arr 2 (r.map Qt)),(200000,.map (mapV (V.i .i64) (V.i .i64) m1))]):=by
 refine Qc.walk 28 Tryz.func48 rfl Tryz.ntmps48 rfl fun C hC=>?_
 unfold Qcv at h
 obtain⟨x3,hx3,h⟩:=Qb h
 obtain⟨x4,hx4,h⟩:=Qb h
 refine Qa hC [.n 14,.cm (.fn) [(200000,200000)] [(7,1),(200000,200000)] [] [.d] [(1,.var [.map 200000]),(200000,.map (mapV (V.i .i64) (V.i .i64) m1))] (.clo (.func 159) [] [.loc 1 0 0]),.cm (.fn) [(200000,7),(200001,200000)] [(8,30000),(7,200000),(200000,200001)] [] [.d] [(30000,.arr 1 (x4.map Qe)),(200000,.var [.map 200001]),(200001,.map (mapV (V.i .i64) (V.i .i64) m1))] (.own 30000 x4.length),.n 5,.adopt 3 18 2,.sayO 18 (.arr 2 (([]:List (Int×Int)).map Qt)),.say 3 (.own 18 ([]:List (Int×Int)).length),.keep [0,3,8,9,10] [8,18,200000]] rfl ⟨⟨⟨⟨tt_,(QiN _ hx3)⟩,(Qmx _ hx4)⟩,rfl⟩,(congrArg (fun n=>V.own 18 n) (by simp))⟩ ?_
 obtain⟨l10,hl16,h⟩:=Qb h
 refine AK.loop (body:=(fun st=>QaG x4 m1 st.1 st.2)) (fun st σ=>σ=⟨[(0,.map 200000),(3,.own 18 st.2.length),(8,.own 8 x4.length),(9,.i .i64 (x4.length:Int)),(10,.i .i64 st.1)],[(8,.arr 1 (x4.map Qe)),(18,.arr 2 (st.2.map Qt)),(200000,.map (mapV (V.i .i64) (V.i .i64) m1))]⟩) (fun q e σ=>e=.exit 0∧σ=⟨[(3,.own 18 q.length)],[(18,.arr 2 (q.map Qt)),(200000,.map (mapV (V.i .i64) (V.i .i64) m1))]⟩) hl16 rfl ?_ ?_
 ·rintro ⟨x6,l7⟩ o σ rfl h
  replace h:QaG x4 m1 x6 l7=some o:=h
  unfold QaG at h
  refine Qa hC [.n 6] rfl tt_ ?_
  rcases bifE h with⟨hc11,h⟩|⟨hc11,h⟩
  ·refine Qa hC [.br true,.n 2] rfl ⟨tt_,hc11⟩ ?_
   refine AK.meet (fun σ=>∃l12:(List (Int×Int)),σ=⟨[(0,.map 200000),(3,.own 18 l12.length),(8,.own 8 x4.length),(9,.i .i64 (x4.length:Int)),(10,.i .i64 x6)],[(8,.arr 1 (x4.map Qe)),(18,.arr 2 (l12.map Qt)),(200000,.map (mapV (V.i .i64) (V.i .i64) m1))]⟩∧Qb9 x6 l12=some o) ?_ ?_
   ·obtain⟨e13,he13,h⟩:=Qb h
    refine Qa hC [.n 4,.o (.row (Qe e13)),.n 7,.o (.any (.i .i64 ((mget m1 e13).getD 0)) none),.n 3] rfl ⟨⟨⟨tt_,(Qdc he13 rfl)⟩,(QbJ (idxE he13).2)⟩,(fun σ h1 h2 _=>Stp.lookup (e:=(V.i .i64)) (f:=(V.i .i64)) (l:=m1) (k:=e13) (z:=0) rfl rfl (bleN hC.n rfl) (h1 _ _ rfl) (h2 _ _ rfl) (h1 _ _ rfl) Qfz ky_3 zi_3 rfl)⟩ ?_
    rcases bifE h with⟨hc14,h⟩|⟨hc14,h⟩
    ·obtain⟨_,hk15,h⟩:=Qb h
     replace hk15:=chkE hk15
     refine Qa hC [.br true,.n 5,.o (.any (.i .i64 ((mget m1 e13).getD 0)) none),.v .no [] (.agg (Qt (e13,((mget m1 e13).getD 0)))),.v (.bd []) [] (.sl 2 (([(e13,((mget m1 e13).getD 0))]:List (Int×Int)).map Qt)),.app ((l7++([(e13,((mget m1 e13).getD 0))]:List (Int×Int))).map Qt) (l7++([(e13,((mget m1 e13).getD 0))]:List (Int×Int))).length,.n 3,.keep [0,3,8,9,10] [8,18,200000]] rfl ⟨⟨⟨⟨⟨tt_,hc14⟩,(fun σ h1 h2 _=>Stp.lookup (e:=(V.i .i64)) (f:=(V.i .i64)) (l:=m1) (k:=e13) (z:=0) rfl rfl (bleN hC.n rfl) (h1 _ _ rfl) (h2 _ _ rfl) (h1 _ _ rfl) Qfz ky_3 zi_3 rfl)⟩,rfl⟩,rfl⟩,⟨Qh,QeL hk15 Qh,Qdm,QgU Qh⟩⟩ ?_
     exact AK.met (ex_ _ (an_ rfl h))
    ·refine Qa hC [.br false,.n 2,.keep [0,3,8,9,10] [8,18,200000]] rfl ⟨tt_,hc14⟩ ?_
     exact AK.met (ex_ _ (an_ rfl h))
   ·rintro σ ⟨l12,rfl,h⟩
    unfold Qb9 at h
    refine Qa hC [.n 4,.keep [0,3,8,9,10] [8,18,200000]] rfl tt_ ?_
    cases h
    exact rndN rfl rfl
  ·refine Qa hC [.br false,.n 2,.keep [3] [18,200000]] rfl ⟨tt_,hc11⟩ ?_
   cases h
   exact rndX rfl (an_ rfl rfl)
 ·replace h:Qhu l10=some r:=h
  unfold Qhu at h
  rintro e σ ⟨rfl,rfl⟩
  refine Qa hC [.n 9,.keep [2] [18,200000],.ren 18 30000,.keep [2] [30000,200000]] rfl tt_ ?_
  cases h
  exact AK.done (ex_ [_] (an_ (an_ rfl tt_) (gives ⟨rfl,rfl,tt_⟩)))
def QiO (x4:Int)(m10:(List (Int×Int))):Option ((Int×(List (Int×Int)))⊕(List (Int×Int))):=
 some (.inl ((w64 (x4+1)),m10))
def QcQ (l1:(List Int))(x4:Int)(m5:(List (Int×Int))):Option ((Int×(List (Int×Int)))⊕(List (Int×Int))):=
 bif (decide (x4<(l1.length:Int)))then
 (idx l1 x4).bind fun e11=>
 bif (decide (0≤e11))then
 QiO x4 (mset ltI m5 e11 (min2 (w64 (((mget m5 e11).getD 0)+1)) 1048576))
 else
 QiO x4 m5
 else
 some (.inr m5)
def QiP (m8:(List (Int×Int))):Option (List (Int×Int)):=
 (Qcv m8).bind fun x14=>
 some x14
def QlJ (l1:(List Int)):Option (List (Int×Int)):=
 (QE (fun st=>QcQ l1 st.1 st.2) (0,([]:(List (Int×Int))))).bind (fun q=>QiP q)
theorem QsI (l1:(List Int)){r:(List (Int×Int))}(h:QlJ l1=some r):Qc Tryz.prog 97 [.sl 1 (l1.map Qe)] [] (Gives (.own 30000 r.length) [(30000,.arr 2 (r.map Qt))]):=by
 refine Qc.walk 25 Tryz.func97 rfl Tryz.ntmps97 rfl fun C hC=>?_
 unfold QlJ at h
 refine Qa hC [.n 8,.sayO 6 (.map (mapV (V.i .i64) (V.i .i64) ([]:(List (Int×Int))))),.n 7,.o (.ln l1.length),.n 4,.keep [3,7,8,9] [6]] rfl ⟨⟨tt_,rfl⟩,Qh⟩ ?_
 obtain⟨m8,hl13,h⟩:=Qb h
 refine AK.loop (body:=(fun st=>QcQ l1 st.1 st.2)) (fun st σ=>σ=⟨[(3,.map 6),(7,.sl 1 (l1.map Qe)),(8,.i .i64 (l1.length:Int)),(9,.i .i64 st.1)],[(6,.map (mapV (V.i .i64) (V.i .i64) st.2))]⟩) (fun q e σ=>e=.exit 0∧σ=⟨[(3,.map 6)],[(6,.map (mapV (V.i .i64) (V.i .i64) q))]⟩) hl13 rfl ?_ ?_
 ·rintro ⟨x4,m5⟩ o σ rfl h
  replace h:QcQ l1 x4 m5=some o:=h
  unfold QcQ at h
  refine Qa hC [.n 6] rfl tt_ ?_
  rcases bifE h with⟨hc9,h⟩|⟨hc9,h⟩
  ·refine Qa hC [.br true,.n 2] rfl ⟨tt_,hc9⟩ ?_
   refine AK.meet (fun σ=>∃m10:(List (Int×Int)),σ=⟨[(3,.map 6),(7,.sl 1 (l1.map Qe)),(8,.i .i64 (l1.length:Int)),(9,.i .i64 x4)],[(6,.map (mapV (V.i .i64) (V.i .i64) m10))]⟩∧QiO x4 m10=some o) ?_ ?_
   ·obtain⟨e11,he11,h⟩:=Qb h
    refine Qa hC [.n 3,.o (.row (Qe e11)),.n 10] rfl ⟨tt_,(idxM he11)⟩ ?_
    rcases bifE h with⟨hc12,h⟩|⟨hc12,h⟩
    ·refine Qa hC [.br true,.n 5,.o (.any (.i .i64 ((mget m5 e11).getD 0)) none),.n 2,.x (fun σ=>σ.set 6 (.map (mapV (V.i .i64) (V.i .i64) (mset ltI m5 e11 (min2 (w64 (((mget m5 e11).getD 0)+1)) 1048576))))),.n 2,.keep [3,7,8,9] [6]] rfl ⟨⟨⟨tt_,hc12⟩,(fun σ h1 h2 _=>Stp.lookup (e:=(V.i .i64)) (f:=(V.i .i64)) (l:=m5) (k:=e11) (z:=0) rfl rfl (bleN hC.n rfl) (h1 _ _ rfl) (h2 _ _ rfl) (h1 _ _ rfl) Qfz ky_3 zi_3 rfl)⟩,(Stp.mapUpdate (e:=(V.i .i64)) (f:=(V.i .i64)) (l:=m5) (k:=e11) (v:=(min2 (w64 (((mget m5 e11).getD 0)+1)) 1048576)) ltI rfl rfl rfl rfl rfl rfl Qfz ky_3 rfl)⟩ ?_
     exact AK.met (ex_ _ (an_ rfl h))
    ·refine Qa hC [.br false,.n 2,.keep [3,7,8,9] [6]] rfl ⟨tt_,hc12⟩ ?_
     exact AK.met (ex_ _ (an_ rfl h))
   ·rintro σ ⟨m10,rfl,h⟩
    unfold QiO at h
    refine Qa hC [.n 4,.keep [3,7,8,9] [6]] rfl tt_ ?_
    cases h
    exact rndN rfl rfl
  ·refine Qa hC [.br false,.n 2,.keep [3] [6]] rfl ⟨tt_,hc9⟩ ?_
   cases h
   exact rndX rfl (an_ rfl rfl)
 ·replace h:QiP m8=some r:=h
  unfold QiP at h
  rintro e σ ⟨rfl,rfl⟩
  obtain⟨x14,hx14,h⟩:=Qb h
  refine Qa hC [.n 5,.cm (.fn) [(200000,6)] [(24,30000),(6,200000)] [] [.d] [(30000,.arr 2 (x14.map Qt)),(200000,.map (mapV (V.i .i64) (V.i .i64) m8))] (.own 30000 x14.length),.n 4,.keep [2] [24],.ren 24 30000,.keep [2] [30000]] rfl ⟨tt_,(Qhv _ hx14)⟩ ?_
  cases h
  exact AK.done (ex_ [_] (an_ (an_ rfl tt_) (gives ⟨rfl,tt_⟩)))
def Qa5 (b1:(List (Int×Int)))(last4:Int)(x5:Int):Option ((Int×Int)⊕(Unit⊕Unit)):=
 bif (decide (x5<(b1.length:Int)))then
 (idx b1 x5).bind fun e9=>
 bif ((decide (e9.1≤last4))||((decide (e9.2<1))||(decide (1048576<e9.2))))then
 some (.inr (.inl ()))
 else
 some (.inl (e9.1,(w64 (x5+1))))
 else
 some (.inr (.inr ()))
def Qgq : Option Bool:=
 some false
def Qgr : Option Bool:=
 some true
def Qcg (b1:(List (Int×Int))):Option Bool:=
 (QE (fun st=>Qa5 b1 st.1 st.2) ((-1),0)).bind (Sum.elim (fun q=>Qgq) (fun q=>Qgr))
theorem Qgs (b1:(List (Int×Int))){r:Bool}(h:Qcg b1=some r):Qc Tryz.prog 54 [.sl 2 (b1.map Qt)] [] (Gives (.b r) []):=by
 refine Qc.walk 29 Tryz.func54 rfl Tryz.ntmps54 rfl fun C hC=>?_
 unfold Qcg at h
 refine Qa hC [.n 14,.o (.ln b1.length),.n 4,.keep [3,6,7,8] []] rfl ⟨tt_,Qh⟩ ?_
 obtain⟨o14,hl14,h⟩:=Qb h
 refine AK.loop (body:=(fun st=>Qa5 b1 st.1 st.2)) (fun st σ=>σ=⟨[(3,.i .i64 st.1),(6,.sl 2 (b1.map Qt)),(7,.i .i64 (b1.length:Int)),(8,.i .i64 st.2)],[]⟩) (Sum.elim (fun q e σ=>e=.ret∧σ=⟨[(2,.b false)],[]⟩) (fun q e σ=>e=.exit 0∧σ=⟨[],[]⟩)) hl14 rfl ?_ ?_
 ·rintro ⟨last4,x5⟩ o σ rfl h
  replace h:Qa5 b1 last4 x5=some o:=h
  unfold Qa5 at h
  refine Qa hC [.n 6] rfl tt_ ?_
  rcases bifE h with⟨hc8,h⟩|⟨hc8,h⟩
  ·obtain⟨e9,he9,h⟩:=Qb h
   refine Qa hC [.br true,.n 6,.o (.row (Qt e9)),.v .no [] (.agg (Qt e9)),.n 2,.sayO 5 (.var (Qt e9)),.n 4] rfl ⟨⟨⟨⟨tt_,hc8⟩,(idxM he9)⟩,rfl⟩,rfl⟩ ?_
   refine AK.meetX (fun σ=>σ=⟨[(5,.loc 5 0 0),(6,.sl 2 (b1.map Qt)),(7,.i .i64 (b1.length:Int)),(8,.i .i64 x5),(25,.b ((decide (e9.1≤last4))||((decide (e9.2<1))||(decide (1048576<e9.2)))))],[(5,.var (Qt e9))]⟩) ?_ ?_
   ·refine Qa hC [.n 6] rfl tt_ ?_
    rcases QK (decide (e9.1≤last4))with hc11 | hc11
    ·refine Qa hC [.say 16 (.b true),.n 10,.say 25 (.b ((decide (e9.1≤last4))||((decide (e9.2<1))||(decide (1048576<e9.2))))),.keep [5,6,7,8,25] [5]] rfl ⟨⟨tt_,(congrArg V.b hc11)⟩,(congrArg V.b (orT hc11 rfl))⟩ ?_
     exact AK.met rfl
    ·refine Qa hC [.say 16 (.b false),.n 5] rfl ⟨tt_,(congrArg V.b hc11)⟩ ?_
     rcases QK (decide (e9.2<1))with hc12 | hc12
     ·refine Qa hC [.say 21 (.b true),.n 5,.say 25 (.b ((decide (e9.1≤last4))||((decide (e9.2<1))||(decide (1048576<e9.2))))),.keep [5,6,7,8,25] [5]] rfl ⟨⟨tt_,(congrArg V.b hc12)⟩,(congrArg V.b (orF hc11 (orT hc12 rfl)))⟩ ?_
      exact AK.met rfl
     ·refine Qa hC [.say 21 (.b false),.n 5,.say 25 (.b ((decide (e9.1≤last4))||((decide (e9.2<1))||(decide (1048576<e9.2))))),.keep [5,6,7,8,25] [5]] rfl ⟨⟨tt_,(congrArg V.b hc12)⟩,(congrArg V.b (orF hc11 (orF hc12 rfl)))⟩ ?_
      exact AK.met rfl
   ·rintro σ rfl
    refine Qa hC [.n 1] rfl tt_ ?_
    rcases bifE h with⟨hc13,h⟩|⟨hc13,h⟩
    ·refine Qa hC [.br true,.n 9,.keep [2] []] rfl ⟨tt_,hc13⟩ ?_
     cases h
     exact rndR rfl (an_ rfl rfl)
    ·refine Qa hC [.br false,.n 13,.keep [3,6,7,8] []] rfl ⟨tt_,hc13⟩ ?_
     cases h
     exact rndN rfl rfl
  ·refine Qa hC [.br false,.n 2,.keep [] []] rfl ⟨tt_,hc8⟩ ?_
   cases h
   exact rndX rfl (an_ rfl rfl)
 ·rcases o14 with(_ | _)
  ·replace h:Qgq=some r:=h
   unfold Qgq at h
   rintro e σ ⟨rfl,rfl⟩
   refine Qa hC [.n 2,.keep [2] []] rfl tt_ ?_
   cases h
   exact AK.done (ex_ [_] (an_ (an_ rfl tt_) (gives tt_)))
  ·replace h:Qgr=some r:=h
   unfold Qgr at h
   rintro e σ ⟨rfl,rfl⟩
   refine Qa hC [.n 8,.keep [2] []] rfl tt_ ?_
   cases h
   exact AK.done (ex_ [_] (an_ (an_ rfl tt_) (gives tt_)))
def Qdx (b1:(List (Int×Int)))(x6:Int)(m7:(List (Int×Int))):Option ((Int×(List (Int×Int)))⊕(List (Int×Int))):=
 bif (decide (x6<(b1.length:Int)))then
 (idx b1 x6).bind fun e12=>
 some (.inl ((w64 (x6+1)),(mset ltI m7 e12.1 e12.2)))
 else
 some (.inr m7)
def Qmy (m10:(List (Int×Int))):Option (Unit⊕(List (Int×Int))):=
 some (.inr m10)
def Qh5 (b1:(List (Int×Int))):Option (Unit⊕(List (Int×Int))):=
 (Qcg b1).bind fun x3=>
 bif (!x3)then
 some (.inl ())
 else
 (QE (fun st=>Qdx b1 st.1 st.2) (0,([]:(List (Int×Int))))).bind (fun q=>Qmy q)
theorem Qev (b1:(List (Int×Int))){r:(Unit⊕(List (Int×Int)))}(h:Qh5 b1=some r):Qc Tryz.prog 90 [.sl 2 (b1.map Qt)] [] ((Sum.elim (fun q=>(Gives (.tup [.lit (.map none),.b false]) [])) (fun q=>(Gives (.tup [.map 30002,.b true]) [(30002,.map (mapV (V.i .i64) (V.i .i64) q))]))) r):=by
 refine Qc.walk 24 Tryz.func90 rfl Tryz.ntmps90 rfl fun C hC=>?_
 unfold Qh5 at h
 obtain⟨x3,hx3,h⟩:=Qb h
 refine Qa hC [.n 10,.o (.c false [.d] (.b x3)),.n 3] rfl ⟨tt_,(Qgs _ hx3)⟩ ?_
 rcases bifE h with⟨hc4,h⟩|⟨hc4,h⟩
 ·refine Qa hC [.br true,.n 8,.keep [2,3] []] rfl ⟨tt_,hc4⟩ ?_
  cases h
  exact AK.done (ex_ [_,_] (an_ (an_ rfl (an_ rfl tt_)) (gives tt_)))
 ·refine Qa hC [.br false,.n 5,.sayO 10 (.map (mapV (V.i .i64) (V.i .i64) ([]:(List (Int×Int))))),.n 7,.o (.ln b1.length),.n 4,.keep [4,11,12,13] [10]] rfl ⟨⟨⟨tt_,hc4⟩,rfl⟩,Qh⟩ ?_
  obtain⟨m10,hl13,h⟩:=Qb h
  refine AK.loop (body:=(fun st=>Qdx b1 st.1 st.2)) (fun st σ=>σ=⟨[(4,.map 10),(11,.sl 2 (b1.map Qt)),(12,.i .i64 (b1.length:Int)),(13,.i .i64 st.1)],[(10,.map (mapV (V.i .i64) (V.i .i64) st.2))]⟩) (fun q e σ=>e=.exit 0∧σ=⟨[(4,.map 10)],[(10,.map (mapV (V.i .i64) (V.i .i64) q))]⟩) hl13 rfl ?_ ?_
  ·rintro ⟨x6,m7⟩ o σ rfl h
   replace h:Qdx b1 x6 m7=some o:=h
   unfold Qdx at h
   refine Qa hC [.n 6] rfl tt_ ?_
   rcases bifE h with⟨hc11,h⟩|⟨hc11,h⟩
   ·obtain⟨e12,he12,h⟩:=Qb h
    refine Qa hC [.br true,.n 6,.o (.row (Qt e12)),.v .no [] (.agg (Qt e12)),.n 2,.sayO 6 (.var (Qt e12)),.n 8,.x (fun σ=>σ.set 10 (.map (mapV (V.i .i64) (V.i .i64) (mset ltI m7 e12.1 e12.2)))),.n 7,.keep [4,11,12,13] [10]] rfl ⟨⟨⟨⟨⟨tt_,hc11⟩,(idxM he12)⟩,rfl⟩,rfl⟩,(Stp.mapUpdate (e:=(V.i .i64)) (f:=(V.i .i64)) (l:=m7) (k:=e12.1) (v:=e12.2) ltI rfl rfl rfl rfl rfl rfl Qfz ky_3 rfl)⟩ ?_
    cases h
    exact rndN rfl rfl
   ·refine Qa hC [.br false,.n 2,.keep [4] [10]] rfl ⟨tt_,hc11⟩ ?_
    cases h
    exact rndX rfl (an_ rfl rfl)
  ·replace h:Qmy m10=some r:=h
   unfold Qmy at h
   rintro e σ ⟨rfl,rfl⟩
   refine Qa hC [.n 10,.keep [2,3] [10],.ren 10 30002,.keep [2,3] [30002]] rfl tt_ ?_
   cases h
   exact AK.done (ex_ [_,_] (an_ (an_ rfl (an_ rfl tt_)) (gives ⟨rfl,tt_⟩)))
def Qk0 (a11:Unit):Option (Unit⊕((List (Int×Int))⊕((List (Int×Int))⊕((List (Int×Int))×(List (Int×Int)))))):=
 some (.inl ())
def Qk1 (a12:(List (Int×Int))):Option (Unit⊕((List (Int×Int))⊕((List (Int×Int))⊕((List (Int×Int))×(List (Int×Int)))))):=
 some (.inr (.inl a12))
def Qi1 (b2:(List (Int×Int)))(a8:Unit):Option (Unit⊕((List (Int×Int))⊕((List (Int×Int))⊕((List (Int×Int))×(List (Int×Int)))))):=
 (Qh5 b2).bind (Sum.elim (fun q=>Qk0 q) (fun q=>Qk1 q))
def Qk2 (a9:(List (Int×Int)))(a14:Unit):Option (Unit⊕((List (Int×Int))⊕((List (Int×Int))⊕((List (Int×Int))×(List (Int×Int)))))):=
 some (.inr (.inr (.inl a9)))
def Qk3 (a9:(List (Int×Int)))(a15:(List (Int×Int))):Option (Unit⊕((List (Int×Int))⊕((List (Int×Int))⊕((List (Int×Int))×(List (Int×Int)))))):=
 some (.inr (.inr (.inr (a9,a15))))
def Qi2 (b2:(List (Int×Int)))(a9:(List (Int×Int))):Option (Unit⊕((List (Int×Int))⊕((List (Int×Int))⊕((List (Int×Int))×(List (Int×Int)))))):=
 (Qh5 b2).bind (Sum.elim (fun q=>Qk2 a9 q) (fun q=>Qk3 a9 q))
def QgW (a1:(List (Int×Int)))(b2:(List (Int×Int))):Option (Unit⊕((List (Int×Int))⊕((List (Int×Int))⊕((List (Int×Int))×(List (Int×Int)))))):=
 (Qh5 a1).bind (Sum.elim (fun q=>Qi1 b2 q) (fun q=>Qi2 b2 q))
theorem Qa0 (a1:(List (Int×Int)))(b2:(List (Int×Int))){r:(Unit⊕((List (Int×Int))⊕((List (Int×Int))⊕((List (Int×Int))×(List (Int×Int))))))}(h:QgW a1 b2=some r):Qc Tryz.prog 47 [.sl 2 (a1.map Qt),.sl 2 (b2.map Qt)] [] ((Sum.elim (fun q=>(Gives (.tup [.lit (.map none),.lit (.map none),.b false]) [])) (Sum.elim (fun q=>(Gives (.tup [.lit (.map none),.map 30005,.b false]) [(30005,.map (mapV (V.i .i64) (V.i .i64) q))])) (Sum.elim (fun q=>(Gives (.tup [.map 30004,.lit (.map none),.b false]) [(30004,.map (mapV (V.i .i64) (V.i .i64) q))])) (fun q=>(Gives (.tup [.map 30004,.map 30005,.b true]) [(30004,.map (mapV (V.i .i64) (V.i .i64) q.1)),(30005,.map (mapV (V.i .i64) (V.i .i64) q.2))]))))) r):=by
 refine Qc.walk 25 Tryz.func47 rfl Tryz.ntmps47 rfl fun C hC=>?_
 unfold QgW at h
 obtain⟨x7,hx7,h⟩:=Qb h
 refine Qa hC [.n 10] rfl tt_ ?_
 rcases x7 with(a8 | a9)
 ·replace h:Qi1 b2 a8=some r:=h
  unfold Qi1 at h
  obtain⟨x10,hx10,h⟩:=Qb h
  refine Qa hC [.cm (.fn) [] [] [] [.d] [] (.tup [.lit (.map none),.b false]),.n 10] rfl ⟨tt_,(Qev _ hx7)⟩ ?_
  rcases x10 with(a11 | a12)
  ·replace h:Qk0 a11=some r:=h
   unfold Qk0 at h
   refine Qa hC [.cm (.fn) [] [] [] [.d] [] (.tup [.lit (.map none),.b false]),.n 21,.keep [4,5,6] []] rfl ⟨tt_,(Qev _ hx10)⟩ ?_
   cases h
   exact AK.done (ex_ [_,_,_] (an_ (an_ rfl (an_ rfl (an_ rfl tt_))) (gives tt_)))
  ·replace h:Qk1 a12=some r:=h
   unfold Qk1 at h
   refine Qa hC [.cm (.fn) [] [(16,30002)] [] [.d] [(30002,.map (mapV (V.i .i64) (V.i .i64) a12))] (.tup [.map 30002,.b true]),.n 21,.keep [4,5,6] [16],.ren 16 30005,.keep [4,5,6] [30005]] rfl ⟨tt_,(Qev _ hx10)⟩ ?_
   cases h
   exact AK.done (ex_ [_,_,_] (an_ (an_ rfl (an_ rfl (an_ rfl tt_))) (gives ⟨rfl,tt_⟩)))
 ·replace h:Qi2 b2 a9=some r:=h
  unfold Qi2 at h
  obtain⟨x13,hx13,h⟩:=Qb h
  refine Qa hC [.cm (.fn) [] [(11,30002)] [] [.d] [(30002,.map (mapV (V.i .i64) (V.i .i64) a9))] (.tup [.map 30002,.b true]),.n 10] rfl ⟨tt_,(Qev _ hx7)⟩ ?_
  rcases x13 with(a14 | a15)
  ·replace h:Qk2 a9 a14=some r:=h
   unfold Qk2 at h
   refine Qa hC [.cm (.fn) [] [] [] [.d] [] (.tup [.lit (.map none),.b false]),.n 21,.keep [4,5,6] [11],.ren 11 30004,.keep [4,5,6] [30004]] rfl ⟨tt_,(Qev _ hx13)⟩ ?_
   cases h
   exact AK.done (ex_ [_,_,_] (an_ (an_ rfl (an_ rfl (an_ rfl tt_))) (gives ⟨rfl,tt_⟩)))
  ·replace h:Qk3 a9 a15=some r:=h
   unfold Qk3 at h
   refine Qa hC [.cm (.fn) [] [(16,30002)] [] [.d] [(30002,.map (mapV (V.i .i64) (V.i .i64) a15))] (.tup [.map 30002,.b true]),.n 21,.keep [4,5,6] [11,16],.ren 11 30004,.keep [4,5,6] [16,30004],.ren 16 30005,.keep [4,5,6] [30004,30005]] rfl ⟨tt_,(Qev _ hx13)⟩ ?_
   cases h
   exact AK.done (ex_ [_,_,_] (an_ (an_ rfl (an_ rfl (an_ rfl tt_))) (gives ⟨rfl,rfl,tt_⟩)))
def QlK (a8:Unit):Option ((List (Int×Int))×Int):=
 some (([]:List (Int×Int)),1)
def QlL (a9:(List (Int×Int))):Option ((List (Int×Int))×Int):=
 some (([]:List (Int×Int)),1)
def QlM (a10:(List (Int×Int))):Option ((List (Int×Int))×Int):=
 some (([]:List (Int×Int)),1)
def QeS (m14:(List (Int×Int)))(k16:Int)(v17:Int):Option ((List (Int×Int))⊕Unit):=
 bif (decide (1048576<((mget (mset ltI m14 k16 (w64 (((mget m14 k16).getD 0)+v17))) k16).getD 0)))then
 some (.inr ())
 else
 some (.inl (mset ltI m14 k16 (w64 (((mget m14 k16).getD 0)+v17))))
def QjO (m14:(List (Int×Int))):Option ((List (Int×Int))×Int):=
 (Qcv m14).bind fun x20=>
 some (x20,0)
def QlN : Option ((List (Int×Int))×Int):=
 some (([]:List (Int×Int)),2)
def QjP (a11:((List (Int×Int))×(List (Int×Int)))):Option ((List (Int×Int))×Int):=
 (Qg9 (fun st p=>QeS st p.1 p.2) a11.1 a11.2).bind (Sum.elim (fun q=>QjO q) (fun q=>QlN))
def QaO (a1:(List (Int×Int)))(b2:(List (Int×Int))):Option ((List (Int×Int))×Int):=
 (QgW a1 b2).bind (Sum.elim (fun q=>QlK q) (Sum.elim (fun q=>QlL q) (Sum.elim (fun q=>QlM q) (fun q=>QjP q))))
theorem Qor (a1:(List (Int×Int)))(b2:(List (Int×Int))){r:((List (Int×Int))×Int)}(h:QaO a1 b2=some r):Qc Tryz.prog 24 [.sl 2 (a1.map Qt),.sl 2 (b2.map Qt)] [] (Gives (.tup [.sl 2 (r.1.map Qt),.i .i64 r.2]) []):=by
 refine Qc.walk 38 Tryz.func24 rfl Tryz.ntmps24 rfl fun C hC=>?_
 unfold QaO at h
 obtain⟨x7,hx7,h⟩:=Qb h
 refine Qa hC [.n 10] rfl tt_ ?_
 rcases x7 with(a8 | (a9 | (a10 | a11)))
 ·replace h:QlK a8=some r:=h
  unfold QlK at h
  refine Qa hC [.cm (.fn) [] [] [] [.d,.d] [] (.tup [.lit (.map none),.lit (.map none),.b false]),.n 25,.denil 4 [some 2],.keep [4,5] []] rfl ⟨tt_,(Qa0 _ _ hx7)⟩ ?_
  cases h
  exact AK.done (ex_ [_,_] (an_ (an_ rfl (an_ rfl tt_)) (gives tt_)))
 ·replace h:QlL a9=some r:=h
  unfold QlL at h
  refine Qa hC [.cm (.fn) [] [(14,30005)] [] [.d,.d] [(30005,.map (mapV (V.i .i64) (V.i .i64) a9))] (.tup [.lit (.map none),.map 30005,.b false]),.n 25,.denil 4 [some 2],.keep [4,5] []] rfl ⟨tt_,(Qa0 _ _ hx7)⟩ ?_
  cases h
  exact AK.done (ex_ [_,_] (an_ (an_ rfl (an_ rfl tt_)) (gives tt_)))
 ·replace h:QlM a10=some r:=h
  unfold QlM at h
  refine Qa hC [.cm (.fn) [] [(14,30004)] [] [.d,.d] [(30004,.map (mapV (V.i .i64) (V.i .i64) a10))] (.tup [.map 30004,.lit (.map none),.b false]),.n 25,.denil 4 [some 2],.keep [4,5] []] rfl ⟨tt_,(Qa0 _ _ hx7)⟩ ?_
  cases h
  exact AK.done (ex_ [_,_] (an_ (an_ rfl (an_ rfl tt_)) (gives tt_)))
 ·replace h:QjP a11=some r:=h
  unfold QjP at h
  refine Qa hC [.cm (.fn) [] [(14,30004),(50000,30005)] [] [.d,.d] [(30004,.map (mapV (V.i .i64) (V.i .i64) a11.1)),(30005,.map (mapV (V.i .i64) (V.i .i64) a11.2))] (.tup [.map 30004,.map 30005,.b true]),.n 23] rfl ⟨tt_,(Qa0 _ _ hx7)⟩ ?_
  refine AK.openMap (b:=50000) ky_3 rfl fun bm12 cl12 L12 hbn12 hpm12=>?_
  refine Qa hC [.x (fun σ=>(σ.set 21 (.itr bm12 cl12 #[] none)).put 21 (.loc 21 0 0)),.n 3,.keep [6,21] [14,21,50000]] rfl ⟨tt_,(Stp.range (b:=50000) rfl rfl (bleN hC.n rfl) rfl rfl Qfz rfl)⟩ ?_
  obtain⟨o19,hl19,h⟩:=Qb h
  refine AK.range (body:=(fun st p=>QeS st p.1 p.2)) (fun st seen σ=>∃cur:Option MapEntry,σ=⟨[(6,.map 14),(21,.loc 21 0 0)],[(14,.map (mapV (V.i .i64) (V.i .i64) st)),(21,.itr bm12 cl12 seen cur),(50000,.mapX bm12 cl12 (typV (V.i .i64) (V.i .i64) L12) (mapV (V.i .i64) (V.i .i64) a11.2))]⟩) (fun q e σ=>e=.ret∧σ=⟨[(4,.lit (.slice none 0 0)),(5,.i .i64 2)],[]⟩) (fun st e σ=>e=.exit 0∧σ=⟨[(6,.map 14)],[(14,.map (mapV (V.i .i64) (V.i .i64) st))]⟩) hbn12 hpm12 hl19 (ex_ _ rfl) ?_ ?_
  ·rintro m14 seen σ ⟨cur,rfl⟩ hex
   refine Qa hC [.n 2] rfl tt_ ?_
   refine AK.nextT (b:=21) (m:=50000) rfl rfl rfl (bleN hC.n rfl) rfl rfl rfl rfl ?_ ?_
   ·intro hleft
    refine Qa hC [.n 7,.keep [6] [14]] rfl tt_ ?_
    exact AK.done (Or.inl (an_ hleft (an_ (fun h=>(by cases h)) (an_ rfl rfl))))
   ·intro xk16 k16 v17 hq13
    obtain⟨o,h⟩:=hex _ hq13
    have ho:=h
    replace h:QeS m14 k16 v17=some o:=h
    unfold QeS at h
    refine Qa hC [.n 10,.x (fun σ=>σ.put 24 (.tup [.i .i64 k16,.i .i64 v17])),.n 10,.o (.any (.i .i64 ((mget m14 k16).getD 0)) none),.n 2,.x (fun σ=>σ.set 14 (.map (mapV (V.i .i64) (V.i .i64) (mset ltI m14 k16 (w64 (((mget m14 k16).getD 0)+v17)))))),.n 6,.o (.any (.i .i64 ((mget (mset ltI m14 k16 (w64 (((mget m14 k16).getD 0)+v17))) k16).getD 0)) none),.n 3] rfl ⟨⟨⟨⟨tt_,(Stp.entryT (b:=21) (m:=50000) rfl rfl (bleN hC.n rfl) rfl hq13 rfl rfl)⟩,(fun σ h1 h2 _=>Stp.lookup (e:=(V.i .i64)) (f:=(V.i .i64)) (l:=m14) (k:=k16) (z:=0) rfl rfl (bleN hC.n rfl) (h1 _ _ rfl) (h2 _ _ rfl) (h1 _ _ rfl) Qfz ky_3 zi_3 rfl)⟩,(Stp.mapUpdate (e:=(V.i .i64)) (f:=(V.i .i64)) (l:=m14) (k:=k16) (v:=(w64 (((mget m14 k16).getD 0)+v17))) ltI rfl rfl rfl rfl rfl rfl Qfz ky_3 rfl)⟩,(fun σ h1 h2 _=>Stp.lookup (e:=(V.i .i64)) (f:=(V.i .i64)) (l:=(mset ltI m14 k16 (w64 (((mget m14 k16).getD 0)+v17)))) (k:=k16) (z:=0) rfl rfl (bleN hC.n rfl) (h1 _ _ rfl) (h2 _ _ rfl) (h1 _ _ rfl) Qfz ky_3 zi_3 rfl)⟩ ?_
    rcases bifE h with⟨hc18,h⟩|⟨hc18,h⟩
    ·refine Qa hC [.br true,.n 8,.keep [4,5] []] rfl ⟨tt_,hc18⟩ ?_
     cases h
     exact AK.done (Or.inr (ex_ _ (an_ hq13 (Or.inr (ex_ _ (an_ ho (an_ (fun h=>(by cases h)) (an_ rfl rfl))))))))
    ·refine Qa hC [.br false,.n 2,.keep [6,21] [14,21,50000]] rfl ⟨tt_,hc18⟩ ?_
     cases h
     exact AK.done (Or.inr (ex_ _ (an_ hq13 (Or.inl (ex_ _ (an_ ho (an_ rfl (ex_ _ rfl))))))))
  ·rcases o19 with(m14 | _)
   ·replace h:QjO m14=some r:=h
    unfold QjO at h
    rintro e σ ⟨rfl,rfl⟩
    obtain⟨x20,hx20,h⟩:=Qb h
    refine Qa hC [.n 5,.cm (.fn) [(200000,14)] [(37,30000),(14,200000)] [] [.d] [(30000,.arr 2 (x20.map Qt)),(200000,.map (mapV (V.i .i64) (V.i .i64) m14))] (.own 30000 x20.length),.n 5,.frz 37 (x20.map Qt) [4] [],.keep [4,5] []] rfl ⟨⟨tt_,(Qhv _ hx20)⟩,⟨tt_,(frzL Qh)⟩⟩ ?_
    cases h
    exact AK.done (ex_ [_,_] (an_ (an_ rfl (an_ rfl tt_)) (gives tt_)))
   ·replace h:QlN=some r:=h
    unfold QlN at h
    rintro e σ ⟨rfl,rfl⟩
    refine Qa hC [.n 2,.denil 4 [some 2],.keep [4,5] []] rfl tt_ ?_
    cases h
    exact AK.done (ex_ [_,_] (an_ (an_ rfl (an_ rfl tt_)) (gives tt_)))
def Qdq (which3:(List Int))(l2:(List TArc))(env4:(List Int))(n1:TNet)(x11:Int)(l12:(List (List (Int×Int)))):Option ((Int×(List (List (Int×Int))))⊕(Int⊕(List (List (Int×Int))))):=
 bif (decide (x11<(which3.length:Int)))then
 (idx which3 x11).bind fun e18=>
 bif ((decide (e18<0))||(decide ((l2.length:Int)≤e18)))then
 some (.inr (.inl 11))
 else
 (idx l2 e18).bind fun e22=>
 (Qhq e22.Expr env4).bind fun x23=>
 bif (x23.2 != 0)then
 some (.inr (.inl x23.2))
 else
 (idx l2 e18).bind fun e25=>
 bif ((decide (e25.Place<0))||(decide ((n1.Places.length:Int)≤e25.Place)))then
 some (.inr (.inl 3))
 else
 (idx n1.Places e25.Place).bind fun e29=>
 (QcS n1.Colours e29.Colour x23.1).bind fun x30=>
 bif (!x30.2)then
 some (.inr (.inl 8))
 else
 (idx l12 e25.Place).bind fun e32=>
 (QlJ ([x30.1]:List Int)).bind fun x33=>
 (QaO e32 x33).bind fun x34=>
 (idx l12 e25.Place).bind fun e35=>
 bif (x34.2 != 0)then
 some (.inr (.inl x34.2))
 else
 some (.inl ((w64 (x11+1)),(l12.set e25.Place.toNat x34.1)))
 else
 some (.inr (.inr l12))
def Qjg (x15:Int):Option ((List (List (Int×Int)))×Int):=
 some (([]:List (List (Int×Int))),x15)
def Qjh (l16:(List (List (Int×Int)))):Option ((List (List (Int×Int)))×Int):=
 some (l16,0)
def Qcr (n1:TNet)(l2:(List TArc))(which3:(List Int))(env4:(List Int)):Option ((List (List (Int×Int)))×Int):=
 (chk (decide (0≤(n1.Places.length:Int))&&decide ((n1.Places.length:Int)≤(n1.Places.length:Int))&&decide ((n1.Places.length:Int)≤4294967296))).bind fun _=>
 (QE (fun st=>Qdq which3 l2 env4 n1 st.1 st.2) (0,(List.replicate (n1.Places.length:Int).toNat (([]:(List (Int×Int))):(List (Int×Int)))))).bind (Sum.elim (fun q=>Qjg q) (fun q=>Qjh q))
theorem QeT (n1:TNet)(l2:(List TArc))(which3:(List Int))(env4:(List Int)){r:((List (List (Int×Int)))×Int)}(h:Qcr n1 l2 which3 env4=some r):Qc Tryz.prog 52 [.agg (Qd n1),.sl 4 (l2.map QN),.sl 1 (which3.map Qe),.sl 1 (env4.map Qe)] [] (Gives (.tup [.sl 1 (r.1.map Qg),.i .i64 r.2]) []):=by
 refine Qc.walk 97 Tryz.func52 rfl Tryz.ntmps52 rfl fun C hC=>?_
 unfold Qcr at h
 obtain⟨_,hk9,h⟩:=Qb h
 replace hk9:=chkE hk9
 refine Qa hC [.n 11,.o (.ln n1.Places.length),.o (.rows (List.replicate (n1.Places.length:Int).toNat [.lit (.slice none 0 0)]))] rfl ⟨⟨tt_,Qh⟩,⟨hk9,rfl⟩⟩ ?_
 refine AK.denilA (b:=21) [some 2] rfl (Qsh (f:=Qg) (x:=([]:(List (Int×Int)))) rfl) ?_
 refine Qa hC [.say 21 (.own 21 (List.replicate (n1.Places.length:Int).toNat (([]:(List (Int×Int))):(List (Int×Int)))).length),.n 7,.o (.ln which3.length),.n 4,.keep [1,3,4,10,22,23,24] [4,21]] rfl ⟨⟨tt_,(by simp)⟩,Qh⟩ ?_
 obtain⟨o37,hl37,h⟩:=Qb h
 refine AK.loop (body:=(fun st=>Qdq which3 l2 env4 n1 st.1 st.2)) (fun st σ=>σ=⟨[(1,.sl 4 (l2.map QN)),(3,.sl 1 (env4.map Qe)),(4,.loc 4 0 0),(10,.own 21 st.2.length),(22,.sl 1 (which3.map Qe)),(23,.i .i64 (which3.length:Int)),(24,.i .i64 st.1)],[(4,.var (Qd n1)),(21,.arr 1 (st.2.map Qg))]⟩) (Sum.elim (fun q e σ=>e=.ret∧σ=⟨[(8,.lit (.slice none 0 0)),(9,.i .i64 q)],[]⟩) (fun q e σ=>e=.exit 0∧σ=⟨[(10,.own 21 q.length)],[(21,.arr 1 (q.map Qg))]⟩)) hl37 rfl ?_ ?_
 ·rintro ⟨x11,l12⟩ o σ rfl h
  replace h:Qdq which3 l2 env4 n1 x11 l12=some o:=h
  unfold Qdq at h
  refine Qa hC [.n 6] rfl tt_ ?_
  rcases bifE h with⟨hc17,h⟩|⟨hc17,h⟩
  ·obtain⟨e18,he18,h⟩:=Qb h
   refine Qa hC [.br true,.n 6,.o (.row (Qe e18)),.n 6] rfl ⟨⟨tt_,hc17⟩,(idxM he18)⟩ ?_
   refine AK.meetX (fun σ=>σ=⟨[(1,.sl 4 (l2.map QN)),(3,.sl 1 (env4.map Qe)),(4,.loc 4 0 0),(10,.own 21 l12.length),(12,.i .i64 e18),(22,.sl 1 (which3.map Qe)),(23,.i .i64 (which3.length:Int)),(24,.i .i64 x11),(35,.b ((decide (e18<0))||(decide ((l2.length:Int)≤e18))))],[(4,.var (Qd n1)),(21,.arr 1 (l12.map Qg))]⟩) ?_ ?_
   ·refine Qa hC [.n 4] rfl tt_ ?_
    rcases QK (decide (e18<0))with hc20 | hc20
    ·refine Qa hC [.say 30 (.b true),.n 6,.say 35 (.b ((decide (e18<0))||(decide ((l2.length:Int)≤e18)))),.keep [1,3,4,10,12,22,23,24,35] [4,21]] rfl ⟨⟨tt_,(congrArg V.b hc20)⟩,(congrArg V.b (orT hc20 rfl))⟩ ?_
     exact AK.met rfl
    ·refine Qa hC [.say 30 (.b false),.n 2,.o (.ln l2.length),.n 3,.say 35 (.b ((decide (e18<0))||(decide ((l2.length:Int)≤e18)))),.keep [1,3,4,10,12,22,23,24,35] [4,21]] rfl ⟨⟨⟨tt_,(congrArg V.b hc20)⟩,Qh⟩,(congrArg V.b (orF hc20 rfl))⟩ ?_
     exact AK.met rfl
   ·rintro σ rfl
    refine Qa hC [.n 1] rfl tt_ ?_
    rcases bifE h with⟨hc21,h⟩|⟨hc21,h⟩
    ·refine Qa hC [.br true,.n 10,.keep [8,9] []] rfl ⟨tt_,hc21⟩ ?_
     cases h
     exact rndR rfl (an_ rfl rfl)
    ·obtain⟨e22,he22,h⟩:=Qb h
     obtain⟨x23,hx23,h⟩:=Qb h
     refine Qa hC [.br false,.n 6,.o (.row (QN e22)),.n 1,.v .no [] (.agg (Ql e22.Expr)),.n 1,.o (.c false [.d,.d] (.tup [.i .i64 x23.1,.i .i64 x23.2])),.n 14] rfl ⟨⟨⟨⟨tt_,hc21⟩,(idxM he22)⟩,rfl⟩,(QmN _ _ hx23)⟩ ?_
     rcases bifE h with⟨hc24,h⟩|⟨hc24,h⟩
     ·refine Qa hC [.br true,.n 11,.keep [8,9] []] rfl ⟨tt_,hc24⟩ ?_
      cases h
      exact rndR rfl (an_ rfl rfl)
     ·obtain⟨e25,he25,h⟩:=Qb h
      refine Qa hC [.br false,.n 6,.o (.row (QN e25)),.n 7] rfl ⟨⟨tt_,hc24⟩,(idxM he25)⟩ ?_
      refine AK.meetX (fun σ=>σ=⟨[(1,.sl 4 (l2.map QN)),(3,.sl 1 (env4.map Qe)),(4,.loc 4 0 0),(10,.own 21 l12.length),(13,.i .i64 x23.1),(15,.i .i64 e25.Place),(22,.sl 1 (which3.map Qe)),(23,.i .i64 (which3.length:Int)),(24,.i .i64 x11),(62,.b ((decide (e25.Place<0))||(decide ((n1.Places.length:Int)≤e25.Place))))],[(4,.var (Qd n1)),(21,.arr 1 (l12.map Qg))]⟩) ?_ ?_
      ·refine Qa hC [.n 4] rfl tt_ ?_
       rcases QK (decide (e25.Place<0))with hc27 | hc27
       ·refine Qa hC [.say 56 (.b true),.n 7,.say 62 (.b ((decide (e25.Place<0))||(decide ((n1.Places.length:Int)≤e25.Place)))),.keep [1,3,4,10,13,15,22,23,24,62] [4,21]] rfl ⟨⟨tt_,(congrArg V.b hc27)⟩,(congrArg V.b (orT hc27 rfl))⟩ ?_
        exact AK.met rfl
       ·refine Qa hC [.say 56 (.b false),.n 3,.o (.ln n1.Places.length),.n 3,.say 62 (.b ((decide (e25.Place<0))||(decide ((n1.Places.length:Int)≤e25.Place)))),.keep [1,3,4,10,13,15,22,23,24,62] [4,21]] rfl ⟨⟨⟨tt_,(congrArg V.b hc27)⟩,Qh⟩,(congrArg V.b (orF hc27 rfl))⟩ ?_
        exact AK.met rfl
      ·rintro σ rfl
       refine Qa hC [.n 1] rfl tt_ ?_
       rcases bifE h with⟨hc28,h⟩|⟨hc28,h⟩
       ·refine Qa hC [.br true,.n 10,.keep [8,9] []] rfl ⟨tt_,hc28⟩ ?_
        cases h
        exact rndR rfl (an_ rfl rfl)
       ·obtain⟨e29,he29,h⟩:=Qb h
        obtain⟨x30,hx30,h⟩:=Qb h
        refine Qa hC [.br false,.n 3,.keep [1,3,4,10,13,15,22,23,24] [4,21]] rfl ⟨tt_,hc28⟩ ?_
        refine AK.draw2 Qo hC mixed [.a .no none false,.a .no none false,.a .no none false,.a .no none false,.a .no none false,.a (.row (Qs e29)) none false,.a .no none false,.a .no none false,.a .no none false,.a (.c false [.d,.d,.d] (.tup [.i .i64 x30.1,.b x30.2])) none false,.a .no none false,.a .no none false,.a .no none false,.a .no none false,.a .no none false] [] [] [1,3,4,10,15,16,17,22,23,24] [4,21] rfl rfl rfl ⟨⟨tt_,(idxM he29)⟩,(Qoq _ _ _ hx30)⟩ rfl (by kernel_rfl) rfl rfl rfl ?_
        refine Qa hC [.n 8] rfl tt_ ?_
        rcases bifE h with⟨hc31,h⟩|⟨hc31,h⟩
        ·refine Qa hC [.br true,.n 10,.keep [8,9] []] rfl ⟨tt_,hc31⟩ ?_
         cases h
         exact rndR rfl (an_ rfl rfl)
        ·obtain⟨e32,he32,h⟩:=Qb h
         obtain⟨x33,hx33,h⟩:=Qb h
         obtain⟨x34,hx34,h⟩:=Qb h
         obtain⟨e35,he35,h⟩:=Qb h
         refine Qa hC [.br false,.n 3,.keep [1,3,4,10,15,16,22,23,24] [4,21]] rfl ⟨tt_,hc31⟩ ?_
         refine AK.draw2 Qo hC mixed [.a .no none false,.a .no none false,.a .no none false,.a .no none false,.a .no none false,.a (.row (Qg e32)) none false,.a .no none false,.a (.bd []) (some ([],.sl 1 (([x30.1]:List Int).map Qe))) false,.a (.cd false [.d] 2 (x33.map Qt) x33.length) none false,.a (.c false [.d,.d] (.tup [.sl 2 (x34.1.map Qt),.i .i64 x34.2])) none false,.a .no none true true,.a .no none false,.a .no none true,.a .no none false,.m (.st (Qg e35) ((l12.set e25.Place.toNat x34.1).map Qg)),.a .no none false] [1,3,4,10,15,16,22,23,24] [4] [1,3,4,10,14,22,23,24] [4,21] rfl rfl rfl ⟨⟨⟨⟨⟨⟨⟨tt_,(Qdc he32 rfl)⟩,(QbJ (idxE he32).2)⟩,rfl⟩,⟨(QsI _ hx33),Qh⟩⟩,(Qor _ _ hx34)⟩,(Qdc he35 rfl)⟩,⟨(QbJ (idxE he35).2),QjB rfl⟩⟩ rfl (by kernel_rfl) rfl rfl rfl ?_
         refine Qa hC [.n 7] rfl tt_ ?_
         rcases bifE h with⟨hc36,h⟩|⟨hc36,h⟩
         ·refine Qa hC [.br true,.n 10,.keep [8,9] []] rfl ⟨tt_,hc36⟩ ?_
          cases h
          exact rndR rfl (an_ rfl rfl)
         ·refine Qa hC [.br false,.n 7,.say 10 (.own 21 (l12.set e25.Place.toNat x34.1).length),.keep [1,3,4,10,22,23,24] [4,21]] rfl ⟨⟨tt_,hc36⟩,(congrArg (fun n=>V.own 21 n) (by simp))⟩ ?_
          cases h
          exact rndN rfl rfl
  ·refine Qa hC [.br false,.n 2,.keep [10] [21]] rfl ⟨tt_,hc17⟩ ?_
   cases h
   exact rndX rfl (an_ rfl rfl)
 ·rcases o37 with(x15 | l16)
  ·replace h:Qjg x15=some r:=h
   unfold Qjg at h
   rintro e σ ⟨rfl,rfl⟩
   refine Qa hC [.n 2,.denil 8 [some 1],.keep [8,9] []] rfl tt_ ?_
   cases h
   exact AK.done (ex_ [_,_] (an_ (an_ rfl (an_ rfl tt_)) (gives tt_)))
  ·replace h:Qjh l16=some r:=h
   unfold Qjh at h
   rintro e σ ⟨rfl,rfl⟩
   refine Qa hC [.n 10,.frz 21 (l16.map Qg) [8] [],.keep [8,9] []] rfl ⟨tt_,⟨tt_,(frzL Qh)⟩⟩ ?_
   cases h
   exact AK.done (ex_ [_,_] (an_ (an_ rfl (an_ rfl tt_)) (gives tt_)))
def Qbr (m2:(List (Int×Int)))(k7:Int)(v8:Int):Option (Unit⊕Unit):=
 bif (decide (((mget m2 k7).getD 0)<v8))then
 some (.inr ())
 else
 some (.inl ())
def QfY : Option Bool:=
 some true
def QfZ : Option Bool:=
 some false
def Qca (m1:(List (Int×Int)))(m2:(List (Int×Int))):Option Bool:=
 (Qg9 (fun st p=>Qbr m2 p.1 p.2) () m1).bind (Sum.elim (fun q=>QfY) (fun q=>QfZ))
theorem QiQ (m1:(List (Int×Int)))(m2:(List (Int×Int))){r:Bool}(h:Qca m1 m2=some r):Qc Tryz.prog 75 [.map 200000,.map 200001] [(200000,.map (mapV (V.i .i64) (V.i .i64) m1)),(200001,.map (mapV (V.i .i64) (V.i .i64) m2))] (Gives (.b r) [(200000,.map (mapV (V.i .i64) (V.i .i64) m1)),(200001,.map (mapV (V.i .i64) (V.i .i64) m2))]):=by
 refine Qc.walk 19 Tryz.func75 rfl Tryz.ntmps75 rfl fun C hC=>?_
 unfold Qca at h
 refine Qa hC [.n 9] rfl tt_ ?_
 refine AK.openMap (b:=200000) ky_3 rfl fun bm5 cl5 L5 hbn5 hpm5=>?_
 refine Qa hC [.x (fun σ=>(σ.set 8 (.itr bm5 cl5 #[] none)).put 8 (.loc 8 0 0)),.n 3,.keep [1,8] [8,200000,200001]] rfl ⟨tt_,(Stp.range (b:=200000) rfl rfl (bleN hC.n rfl) rfl rfl Qfz rfl)⟩ ?_
 obtain⟨o10,hl10,h⟩:=Qb h
 refine AK.range (body:=(fun st p=>Qbr m2 p.1 p.2)) (fun st seen σ=>∃cur:Option MapEntry,σ=⟨[(1,.map 200001),(8,.loc 8 0 0)],[(8,.itr bm5 cl5 seen cur),(200000,.mapX bm5 cl5 (typV (V.i .i64) (V.i .i64) L5) (mapV (V.i .i64) (V.i .i64) m1)),(200001,.map (mapV (V.i .i64) (V.i .i64) m2))]⟩) (fun q e σ=>e=.ret∧σ=⟨[(4,.b false)],[(200000,.mapX bm5 cl5 (typV (V.i .i64) (V.i .i64) L5) (mapV (V.i .i64) (V.i .i64) m1)),(200001,.map (mapV (V.i .i64) (V.i .i64) m2))]⟩) (fun st e σ=>e=.exit 0∧σ=⟨[],[(200000,.mapX bm5 cl5 (typV (V.i .i64) (V.i .i64) L5) (mapV (V.i .i64) (V.i .i64) m1)),(200001,.map (mapV (V.i .i64) (V.i .i64) m2))]⟩) hbn5 hpm5 hl10 (ex_ _ rfl) ?_ ?_
 ·rintro _ seen σ ⟨cur,rfl⟩ hex
  refine Qa hC [.n 2] rfl tt_ ?_
  refine AK.nextT (b:=8) (m:=200000) rfl rfl rfl (bleN hC.n rfl) rfl rfl rfl rfl ?_ ?_
  ·intro hleft
   refine Qa hC [.n 7,.keep [] [200000,200001]] rfl tt_ ?_
   exact AK.done (Or.inl (an_ hleft (an_ (fun h=>(by cases h)) (an_ rfl rfl))))
  ·intro xk7 k7 v8 hq6
   obtain⟨o,h⟩:=hex _ hq6
   have ho:=h
   replace h:Qbr m2 k7 v8=some o:=h
   unfold Qbr at h
   refine Qa hC [.n 10,.x (fun σ=>σ.put 11 (.tup [.i .i64 k7,.i .i64 v8])),.n 11,.o (.any (.i .i64 ((mget m2 k7).getD 0)) none),.n 3] rfl ⟨⟨tt_,(Stp.entryT (b:=8) (m:=200000) rfl rfl (bleN hC.n rfl) rfl hq6 rfl rfl)⟩,(fun σ h1 h2 _=>Stp.lookup (e:=(V.i .i64)) (f:=(V.i .i64)) (l:=m2) (k:=k7) (z:=0) rfl rfl (bleN hC.n rfl) (h1 _ _ rfl) (h2 _ _ rfl) (h1 _ _ rfl) Qfz ky_3 zi_3 rfl)⟩ ?_
   rcases bifE h with⟨hc9,h⟩|⟨hc9,h⟩
   ·refine Qa hC [.br true,.n 7,.keep [4] [200000,200001]] rfl ⟨tt_,hc9⟩ ?_
    cases h
    exact AK.done (Or.inr (ex_ _ (an_ hq6 (Or.inr (ex_ _ (an_ ho (an_ (fun h=>(by cases h)) (an_ rfl rfl))))))))
   ·refine Qa hC [.br false,.n 2,.keep [1,8] [8,200000,200001]] rfl ⟨tt_,hc9⟩ ?_
    cases h
    exact AK.done (Or.inr (ex_ _ (an_ hq6 (Or.inl (ex_ _ (an_ ho (an_ rfl (ex_ _ rfl))))))))
 ·rcases o10 with(_ | _)
  ·replace h:QfY=some r:=h
   unfold QfY at h
   rintro e σ ⟨rfl,rfl⟩
   refine Qa hC [.n 8] rfl tt_ ?_
   refine AK.closeMap (b:=200000) rfl ?_
   refine Qa hC [.keep [4] [200000,200001]] rfl tt_ ?_
   cases h
   exact AK.done (ex_ [_] (an_ (an_ rfl tt_) (gives ⟨rfl,rfl,tt_⟩)))
  ·replace h:QfZ=some r:=h
   unfold QfZ at h
   rintro e σ ⟨rfl,rfl⟩
   refine Qa hC [.n 2] rfl tt_ ?_
   refine AK.closeMap (b:=200000) rfl ?_
   refine Qa hC [.keep [4] [200000,200001]] rfl tt_ ?_
   cases h
   exact AK.done (ex_ [_] (an_ (an_ rfl tt_) (gives ⟨rfl,rfl,tt_⟩)))
def QjQ (a6:Unit):Option Bool:=
 some false
def QjR (a7:(List (Int×Int))):Option Bool:=
 some false
def QjS (a8:(List (Int×Int))):Option Bool:=
 some false
def QhK (a9:((List (Int×Int))×(List (Int×Int)))):Option Bool:=
 (Qca a9.1 a9.2).bind fun x10=>
 some x10
def Qh6 (a1:(List (Int×Int)))(b2:(List (Int×Int))):Option Bool:=
 (QgW a1 b2).bind (Sum.elim (fun q=>QjQ q) (Sum.elim (fun q=>QjR q) (Sum.elim (fun q=>QjS q) (fun q=>QhK q))))
theorem Qqt (a1:(List (Int×Int)))(b2:(List (Int×Int))){r:Bool}(h:Qh6 a1 b2=some r):Qc Tryz.prog 191 [.sl 2 (a1.map Qt),.sl 2 (b2.map Qt)] [] (Gives (.b r) []):=by
 refine Qc.walk 21 Tryz.func191 rfl Tryz.ntmps191 rfl fun C hC=>?_
 unfold Qh6 at h
 obtain⟨x5,hx5,h⟩:=Qb h
 refine Qa hC [.n 9] rfl tt_ ?_
 rcases x5 with(a6 | (a7 | (a8 | a9)))
 ·replace h:QjQ a6=some r:=h
  unfold QjQ at h
  refine Qa hC [.cm (.fn) [] [] [] [.d,.d] [] (.tup [.lit (.map none),.lit (.map none),.b false]),.n 21,.keep [4] []] rfl ⟨tt_,(Qa0 _ _ hx5)⟩ ?_
  cases h
  exact AK.done (ex_ [_] (an_ (an_ rfl tt_) (gives tt_)))
 ·replace h:QjR a7=some r:=h
  unfold QjR at h
  refine Qa hC [.cm (.fn) [] [(11,30005)] [] [.d,.d] [(30005,.map (mapV (V.i .i64) (V.i .i64) a7))] (.tup [.lit (.map none),.map 30005,.b false]),.n 21,.keep [4] []] rfl ⟨tt_,(Qa0 _ _ hx5)⟩ ?_
  cases h
  exact AK.done (ex_ [_] (an_ (an_ rfl tt_) (gives tt_)))
 ·replace h:QjS a8=some r:=h
  unfold QjS at h
  refine Qa hC [.cm (.fn) [] [(11,30004)] [] [.d,.d] [(30004,.map (mapV (V.i .i64) (V.i .i64) a8))] (.tup [.map 30004,.lit (.map none),.b false]),.n 21,.keep [4] []] rfl ⟨tt_,(Qa0 _ _ hx5)⟩ ?_
  cases h
  exact AK.done (ex_ [_] (an_ (an_ rfl tt_) (gives tt_)))
 ·replace h:QhK a9=some r:=h
  unfold QhK at h
  obtain⟨x10,hx10,h⟩:=Qb h
  refine Qa hC [.cm (.fn) [] [(11,30004),(50000,30005)] [] [.d,.d] [(30004,.map (mapV (V.i .i64) (V.i .i64) a9.1)),(30005,.map (mapV (V.i .i64) (V.i .i64) a9.2))] (.tup [.map 30004,.map 30005,.b true]),.n 15,.cm (.fn) [(200000,11),(200001,50000)] [(11,200000),(50000,200001)] [] [.d,.d] [(200000,.map (mapV (V.i .i64) (V.i .i64) a9.1)),(200001,.map (mapV (V.i .i64) (V.i .i64) a9.2))] (.b x10),.n 5,.keep [4] []] rfl ⟨⟨tt_,(Qa0 _ _ hx5)⟩,(QiQ _ _ hx10)⟩ ?_
  cases h
  exact AK.done (ex_ [_] (an_ (an_ rfl tt_) (gives tt_)))
def QD (s1:(List (List (Int×Int))))(s2:(List (List (Int×Int))))(x6:Int):Option (Int⊕(Unit⊕Unit)):=
 bif (decide (x6<(s1.length:Int)))then
 (idx s1 x6).bind fun e9=>
 (idx s2 x6).bind fun e10=>
 (Qh6 e9 e10).bind fun x11=>
 bif (!x11)then
 some (.inr (.inl ()))
 else
 some (.inl (w64 (x6+1)))
 else
 some (.inr (.inr ()))
def Q4 : Option Bool:=
 some false
def Q5 : Option Bool:=
 some true
def QO (s1:(List (List (Int×Int))))(s2:(List (List (Int×Int)))):Option Bool:=
 bif ((s1.length:Int) != (s2.length:Int))then
 some false
 else
 (QE (fun st=>QD s1 s2 st) 0).bind (Sum.elim (fun q=>Q4) (fun q=>Q5))
theorem QcP (s1:(List (List (Int×Int))))(s2:(List (List (Int×Int)))){r:Bool}(h:QO s1 s2=some r):Qc Tryz.prog 49 [.sl 1 (s1.map Qg),.sl 1 (s2.map Qg),.clo (.func 191) [] []] [] (Gives (.b r) []):=by
 refine Qc.walk 32 Tryz.func49 rfl Tryz.ntmps49 rfl fun C hC=>?_
 unfold QO at h
 refine Qa hC [.n 9,.o (.ln s1.length),.n 1,.o (.ln s2.length),.n 3] rfl ⟨⟨tt_,Qh⟩,Qh⟩ ?_
 rcases bifE h with⟨hc5,h⟩|⟨hc5,h⟩
 ·refine Qa hC [.br true,.n 7,.keep [6] []] rfl ⟨tt_,hc5⟩ ?_
  cases h
  exact AK.done (ex_ [_] (an_ (an_ rfl tt_) (gives tt_)))
 ·refine Qa hC [.br false,.n 6,.o (.ln s1.length),.n 4,.keep [1,2,15,16,17] []] rfl ⟨⟨tt_,hc5⟩,Qh⟩ ?_
  obtain⟨o13,hl13,h⟩:=Qb h
  refine AK.loop (body:=(fun st=>QD s1 s2 st)) (fun st σ=>σ=⟨[(1,.sl 1 (s2.map Qg)),(2,.clo (.func 191) [] []),(15,.sl 1 (s1.map Qg)),(16,.i .i64 (s1.length:Int)),(17,.i .i64 st)],[]⟩) (Sum.elim (fun q e σ=>e=.ret∧σ=⟨[(6,.b false)],[]⟩) (fun q e σ=>e=.exit 0∧σ=⟨[],[]⟩)) hl13 rfl ?_ ?_
  ·rintro x6 o σ rfl h
   replace h:QD s1 s2 x6=some o:=h
   unfold QD at h
   refine Qa hC [.n 6] rfl tt_ ?_
   rcases bifE h with⟨hc8,h⟩|⟨hc8,h⟩
   ·obtain⟨e9,he9,h⟩:=Qb h
    obtain⟨e10,he10,h⟩:=Qb h
    obtain⟨x11,hx11,h⟩:=Qb h
    refine Qa hC [.br true,.n 7,.o (.row (Qg e9)),.n 9,.o (.row (Qg e10)),.n 9,.o (.c false [.d,.d] (.b x11)),.n 3] rfl ⟨⟨⟨⟨tt_,hc8⟩,(idxM he9)⟩,(idxM he10)⟩,(Qqt _ _ hx11)⟩ ?_
    rcases bifE h with⟨hc12,h⟩|⟨hc12,h⟩
    ·refine Qa hC [.br true,.n 8,.keep [6] []] rfl ⟨tt_,hc12⟩ ?_
     cases h
     exact rndR rfl (an_ rfl rfl)
    ·refine Qa hC [.br false,.n 7,.keep [1,2,15,16,17] []] rfl ⟨tt_,hc12⟩ ?_
     cases h
     exact rndN rfl rfl
   ·refine Qa hC [.br false,.n 2,.keep [] []] rfl ⟨tt_,hc8⟩ ?_
    cases h
    exact rndX rfl (an_ rfl rfl)
  ·rcases o13 with(_ | _)
   ·replace h:Q4=some r:=h
    unfold Q4 at h
    rintro e σ ⟨rfl,rfl⟩
    refine Qa hC [.n 2,.keep [6] []] rfl tt_ ?_
    cases h
    exact AK.done (ex_ [_] (an_ (an_ rfl tt_) (gives tt_)))
   ·replace h:Q5=some r:=h
    unfold Q5 at h
    rintro e σ ⟨rfl,rfl⟩
    refine Qa hC [.n 8,.keep [6] []] rfl tt_ ?_
    cases h
    exact AK.done (ex_ [_] (an_ (an_ rfl tt_) (gives tt_)))
def Qft (need1:(List (List (Int×Int))))(m2:(List (List (Int×Int)))):Option Bool:=
 (QO need1 m2).bind fun x4=>
 some x4
theorem QlO (need1:(List (List (Int×Int))))(m2:(List (List (Int×Int)))){r:Bool}(h:Qft need1 m2=some r):Qc Tryz.prog 140 [.sl 1 (need1.map Qg),.sl 1 (m2.map Qg)] [] (Gives (.b r) []):=by
 refine Qc.walk 8 Tryz.func140 rfl Tryz.ntmps140 rfl fun C hC=>?_
 unfold Qft at h
 obtain⟨x4,hx4,h⟩:=Qb h
 refine Qa hC [.n 9,.cm (.fn) [] [] [] [.d,.d,.d] [] (.b x4),.n 4,.keep [4] []] rfl ⟨tt_,(QcP _ _ hx4)⟩ ?_
 cases h
 exact AK.done (ex_ [_] (an_ (an_ rfl tt_) (gives tt_)))
def QaS (s1:(List Int))(v2:Int)(x5:Int):Option (Int⊕(Int⊕Unit)):=
 bif (decide (x5<(s1.length:Int)))then
 (idx s1 x5).bind fun e9=>
 bif (v2==e9)then
 some (.inr (.inl x5))
 else
 some (.inl (w64 (x5+1)))
 else
 some (.inr (.inr ()))
def Qbz (x7:Int):Option Int:=
 some x7
def QbA : Option Int:=
 some (-1)
def Qch (s1:(List Int))(v2:Int):Option Int:=
 (QE (fun st=>QaS s1 v2 st) 0).bind (Sum.elim (fun q=>Qbz q) (fun q=>QbA))
theorem Qlq (s1:(List Int))(v2:Int){r:Int}(h:Qch s1 v2=some r):Qc Tryz.prog 192 [.sl 1 (s1.map Qe),.i .i64 v2] [] (Gives (.i .i64 r) []):=by
 refine Qc.walk 19 Tryz.func192 rfl Tryz.ntmps192 rfl fun C hC=>?_
 unfold Qch at h
 refine Qa hC [.n 9,.o (.ln s1.length),.n 4,.keep [0,1,7,8] []] rfl ⟨tt_,Qh⟩ ?_
 obtain⟨o11,hl11,h⟩:=Qb h
 refine AK.loop (body:=(fun st=>QaS s1 v2 st)) (fun st σ=>σ=⟨[(0,.sl 1 (s1.map Qe)),(1,.i .i64 v2),(7,.i .i64 (s1.length:Int)),(8,.i .i64 st)],[]⟩) (Sum.elim (fun q e σ=>e=.ret∧σ=⟨[(4,.i .i64 q)],[]⟩) (fun q e σ=>e=.exit 0∧σ=⟨[],[]⟩)) hl11 rfl ?_ ?_
 ·rintro x5 o σ rfl h
  replace h:QaS s1 v2 x5=some o:=h
  unfold QaS at h
  refine Qa hC [.n 6] rfl tt_ ?_
  rcases bifE h with⟨hc8,h⟩|⟨hc8,h⟩
  ·obtain⟨e9,he9,h⟩:=Qb h
   refine Qa hC [.br true,.n 15,.o (.row (Qe e9)),.n 4] rfl ⟨⟨tt_,hc8⟩,(idxM he9)⟩ ?_
   rcases bifE h with⟨hc10,h⟩|⟨hc10,h⟩
   ·refine Qa hC [.br true,.n 9,.keep [4] []] rfl ⟨tt_,hc10⟩ ?_
    cases h
    exact rndR rfl (an_ rfl rfl)
   ·refine Qa hC [.br false,.n 7,.keep [0,1,7,8] []] rfl ⟨tt_,hc10⟩ ?_
    cases h
    exact rndN rfl rfl
  ·refine Qa hC [.br false,.n 2,.keep [] []] rfl ⟨tt_,hc8⟩ ?_
   cases h
   exact rndX rfl (an_ rfl rfl)
 ·rcases o11 with(x7 | _)
  ·replace h:Qbz x7=some r:=h
   unfold Qbz at h
   rintro e σ ⟨rfl,rfl⟩
   refine Qa hC [.n 2,.keep [4] []] rfl tt_ ?_
   cases h
   exact AK.done (ex_ [_] (an_ (an_ rfl tt_) (gives tt_)))
  ·replace h:QbA=some r:=h
   unfold QbA at h
   rintro e σ ⟨rfl,rfl⟩
   refine Qa hC [.n 8,.keep [4] []] rfl tt_ ?_
   cases h
   exact AK.done (ex_ [_] (an_ (an_ rfl tt_) (gives tt_)))
def QaA (s1:(List Int))(v2:Int):Option Bool:=
 (Qch s1 v2).bind fun x4=>
 some (decide (0≤x4))
theorem Qgt (s1:(List Int))(v2:Int){r:Bool}(h:QaA s1 v2=some r):Qc Tryz.prog 141 [.sl 1 (s1.map Qe),.i .i64 v2] [] (Gives (.b r) []):=by
 refine Qc.walk 9 Tryz.func141 rfl Tryz.ntmps141 rfl fun C hC=>?_
 unfold QaA at h
 obtain⟨x4,hx4,h⟩:=Qb h
 refine Qa hC [.n 9,.o (.c false [.d,.d] (.i .i64 x4)),.n 5,.keep [4] []] rfl ⟨tt_,(Qlq _ _ hx4)⟩ ?_
 cases h
 exact AK.done (ex_ [_] (an_ (an_ rfl tt_) (gives tt_)))
def Qak (s1:(List Int)):Option (List Int):=
 (chk (decide (([]:List Int).length+s1.length≤4294967296))).bind fun _=>
 some (([]:List Int)++s1)
theorem QbB (s1:(List Int)){r:(List Int)}(h:Qak s1=some r):Qc Tryz.prog 142 [.sl 1 (s1.map Qe)] [] (Gives (.own 30000 r.length) [(30000,.arr 1 (r.map Qe))]):=by
 refine Qc.walk 8 Tryz.func142 rfl Tryz.ntmps142 rfl fun C hC=>?_
 unfold Qak at h
 refine Qa hC [.n 9] rfl tt_ ?_
 refine AK.eqNil rfl rfl rfl (bleN hC.n rfl) rfl rfl QvJ ?_ ?_
 ·intro hz4
  replace h:some ([]:List Int)=some r:=by simpa [chk,List.map_eq_nil_iff.1 hz4] using h
  refine Qa hC [.n 10,.adopt 2 30000 1,.sayO 30000 (.arr 1 (([]:List Int).map Qe)),.say 2 (.own 30000 ([]:List Int).length),.keep [2] [30000]] rfl ⟨⟨tt_,rfl⟩,rfl⟩ ?_
  cases h
  exact AK.done (ex_ [_] (an_ (an_ rfl tt_) (gives ⟨rfl,tt_⟩)))
 ·obtain⟨_,hk5,h⟩:=Qb h
  replace hk5:=chkE hk5
  refine Qa hC [.n 8,.sayO 5 (.arr 1 (([]:List Int).map Qe)),.say 5 (.own 5 ([]:List Int).length),.n 1,.app ((([]:List Int)++s1).map Qe) (([]:List Int)++s1).length,.n 4,.keep [2] [5],.ren 5 30000,.keep [2] [30000]] rfl ⟨⟨⟨tt_,rfl⟩,rfl⟩,⟨Qh,QeL hk5 Qh,Qdm,QgU Qh⟩⟩ ?_
  cases h
  exact AK.done (ex_ [_] (an_ (an_ rfl tt_) (gives ⟨rfl,tt_⟩)))
def Qci (x10:Int):Option (Int⊕(Unit⊕Unit)):=
 some (.inl (w64 (x10+1)))
def Qf0 (x19:((List (List (Int×Int)))×Int))(b1:QB):Option Bool:=
 bif (x19.2==0)then
 (Qft x19.1 b1.m).bind fun x23=>
 some x23
 else
 some false
def Qcj (x10:Int)(x20:Bool):Option (Int⊕(Unit⊕Unit)):=
 bif x20 then
 some (.inr (.inl ()))
 else
 Qci x10
def Qbs (b1:QB)(ins2:(List Int))(x10:Int):Option (Int⊕(Unit⊕Unit)):=
 bif (decide (x10<(b1.task.Ins.length:Int)))then
 (QaA ins2 x10).bind fun x13=>
 bif x13 then
 Qci x10
 else
 (Qak ins2).bind fun x15=>
 (chk (decide (x15.length+([x10]:List Int).length≤4294967296))).bind fun _=>
 (Qa4 (x15++([x10]:List Int))).bind fun x17=>
 (chk (decide (x17.length=(x15++([x10]:List Int)).length))).bind fun _=>
 (Qcr b1.net b1.task.Ins x17 b1.env).bind fun x19=>
 (Qf0 x19 b1).bind (fun x20=>Qcj x10 x20)
 else
 some (.inr (.inr ()))
def Qf1 : Option Int:=
 some 11
def Qf2 : Option Int:=
 some 0
def Qcb (b1:QB)(ins2:(List Int)):Option Int:=
 (Qcr b1.net b1.task.Ins ins2 b1.env).bind fun x5=>
 bif (x5.2 != 0)then
 some x5.2
 else
 (Qft x5.1 b1.m).bind fun x7=>
 bif (!x7)then
 some 10
 else
 bif (b1.task.Join != 3)then
 some 0
 else
 (QE (fun st=>Qbs b1 ins2 st) 0).bind (Sum.elim (fun q=>Qf1) (fun q=>Qf2))
theorem QiR (b1:QB)(ins2:(List Int)){r:Int}(h:Qcb b1 ins2=some r):Qc Tryz.prog 73 [.agg (Qp b1),.sl 1 (ins2.map Qe)] [] (Gives (.i .i64 r) []):=by
 refine Qc.walk 76 Tryz.func73 rfl Tryz.ntmps73 rfl fun C hC=>?_
 unfold Qcb at h
 obtain⟨x5,hx5,h⟩:=Qb h
 refine Qa hC [.n 9,.v .no [] (.agg (Qd b1.net)),.n 6,.o (.c false [.d,.d,.d,.d] (.tup [.sl 1 (x5.1.map Qg),.i .i64 x5.2])),.n 16] rfl ⟨⟨tt_,rfl⟩,(QeT _ _ _ _ hx5)⟩ ?_
 rcases bifE h with⟨hc6,h⟩|⟨hc6,h⟩
 ·refine Qa hC [.br true,.n 9,.keep [4] []] rfl ⟨tt_,hc6⟩ ?_
  cases h
  exact AK.done (ex_ [_] (an_ (an_ rfl tt_) (gives tt_)))
 ·obtain⟨x7,hx7,h⟩:=Qb h
  refine Qa hC [.br false,.n 5,.o (.c false [.d,.d] (.b x7)),.n 4] rfl ⟨⟨tt_,hc6⟩,(QlO _ _ hx7)⟩ ?_
  rcases bifE h with⟨hc8,h⟩|⟨hc8,h⟩
  ·refine Qa hC [.br true,.n 8,.keep [4] []] rfl ⟨tt_,hc8⟩ ?_
   cases h
   exact AK.done (ex_ [_] (an_ (an_ rfl tt_) (gives tt_)))
  ·refine Qa hC [.br false,.n 9] rfl ⟨tt_,hc8⟩ ?_
   rcases bifE h with⟨hc9,h⟩|⟨hc9,h⟩
   ·refine Qa hC [.br true,.n 8,.keep [4] []] rfl ⟨tt_,hc9⟩ ?_
    cases h
    exact AK.done (ex_ [_] (an_ (an_ rfl tt_) (gives tt_)))
   ·refine Qa hC [.br false,.n 9,.o (.ln b1.task.Ins.length),.n 4,.keep [1,2,41,42] [2]] rfl ⟨⟨tt_,hc9⟩,Qh⟩ ?_
    obtain⟨o25,hl25,h⟩:=Qb h
    refine AK.loop (body:=(fun st=>Qbs b1 ins2 st)) (fun st σ=>σ=⟨[(1,.sl 1 (ins2.map Qe)),(2,.loc 2 0 0),(41,.i .i64 (b1.task.Ins.length:Int)),(42,.i .i64 st)],[(2,.var (Qp b1))]⟩) (Sum.elim (fun q e σ=>e=.ret∧σ=⟨[(4,.i .i64 11)],[]⟩) (fun q e σ=>e=.exit 1∧σ=⟨[],[]⟩)) hl25 rfl ?_ ?_
    ·rintro x10 o σ rfl h
     replace h:Qbs b1 ins2 x10=some o:=h
     unfold Qbs at h
     refine Qa hC [.n 6] rfl tt_ ?_
     rcases bifE h with⟨hc12,h⟩|⟨hc12,h⟩
     ·refine Qa hC [.br true,.n 2] rfl ⟨tt_,hc12⟩ ?_
      refine AK.meet (fun σ=>σ=⟨[(1,.sl 1 (ins2.map Qe)),(2,.loc 2 0 0),(41,.i .i64 (b1.task.Ins.length:Int)),(42,.i .i64 x10)],[(2,.var (Qp b1))]⟩∧Qci x10=some o) ?_ ?_
      ·obtain⟨x13,hx13,h⟩:=Qb h
       refine Qa hC [.n 12,.o (.c false [.d,.d] (.b x13)),.n 2] rfl ⟨tt_,(Qgt _ _ hx13)⟩ ?_
       rcases bifE h with⟨hc14,h⟩|⟨hc14,h⟩
       ·refine Qa hC [.br true,.n 3,.keep [1,2,41,42] [2]] rfl ⟨tt_,hc14⟩ ?_
        exact AK.met (an_ rfl h)
       ·obtain⟨x15,hx15,h⟩:=Qb h
        obtain⟨_,hk16,h⟩:=Qb h
        replace hk16:=chkE hk16
        obtain⟨x17,hx17,h⟩:=Qb h
        obtain⟨_,hk18,h⟩:=Qb h
        replace hk18:=chkE hk18
        obtain⟨x19,hx19,h⟩:=Qb h
        refine Qa hC [.br false,.n 5,.o (.co false [.d] 1 (x15.map Qe) x15.length),.n 1,.v (.bd []) [] (.sl 1 (([x10]:List Int).map Qe)),.app ((x15++([x10]:List Int)).map Qe) (x15++([x10]:List Int)).length,.n 6,.cm (.fn) [(200000,49)] [(49,200000)] [] [.d] [(200000,.arr 1 (x17.map Qe))] (.tup []),.say 8 (.own 49 x17.length),.say 52 (.own 49 x17.length),.say 53 (.own 49 x17.length),.n 5,.v .no [] (.agg (Qd b1.net)),.n 6,.frz 49 (x17.map Qe) [8,52,53,61] [],.o (.c false [.d,.d,.d,.d] (.tup [.sl 1 (x19.1.map Qg),.i .i64 x19.2])),.n 8] rfl ⟨⟨⟨⟨⟨⟨⟨⟨⟨⟨⟨tt_,hc14⟩,⟨(QbB _ hx15),Qh,.inl rfl⟩⟩,rfl⟩,⟨Qh,QeL hk16 Qh,Qdm,QgU Qh⟩⟩,(Qh4 _ hx17)⟩,(by simp [of_decide_eq_true hk18])⟩,(by simp [of_decide_eq_true hk18])⟩,(by simp [of_decide_eq_true hk18])⟩,rfl⟩,⟨⟨⟨⟨tt_,(frzL Qh)⟩,(frzL Qh)⟩,(frzL Qh)⟩,(frzL Qh)⟩⟩,(QeT _ _ _ _ hx19)⟩ ?_
        obtain⟨x20,hv21,h⟩:=Qb h
        replace h:Qcj x10 x20=some o:=h
        refine AK.meetX (fun σ=>σ=⟨[(1,.sl 1 (ins2.map Qe)),(2,.loc 2 0 0),(41,.i .i64 (b1.task.Ins.length:Int)),(42,.i .i64 x10),(74,.b x20)],[(2,.var (Qp b1))]⟩) ?_ ?_
        ·replace h:=hv21
         unfold Qf0 at h
         refine Qa hC [.n 4] rfl tt_ ?_
         rcases bifE h with⟨hc22,h⟩|⟨hc22,h⟩
         ·obtain⟨x23,hx23,h⟩:=Qb h
          refine Qa hC [.say 69 (.b true),.n 3,.o (.c false [.d,.d] (.b x23)),.n 2,.keep [1,2,41,42,74] [2]] rfl ⟨⟨tt_,(congrArg V.b hc22)⟩,(QlO _ _ hx23)⟩ ?_
          cases h
          exact AK.met rfl
         ·refine Qa hC [.say 69 (.b false),.n 6,.keep [1,2,41,42,74] [2]] rfl ⟨tt_,(congrArg V.b hc22)⟩ ?_
          cases h
          exact AK.met rfl
        ·rintro σ rfl
         replace h:Qcj x10 x20=some o:=h
         unfold Qcj at h
         refine Qa hC [.n 1] rfl tt_ ?_
         rcases bifE h with⟨hc24,h⟩|⟨hc24,h⟩
         ·refine Qa hC [.br true,.n 8,.keep [4] []] rfl ⟨tt_,hc24⟩ ?_
          cases h
          exact rndR rfl (an_ rfl rfl)
         ·refine Qa hC [.br false,.n 2,.keep [1,2,41,42] [2]] rfl ⟨tt_,hc24⟩ ?_
          exact AK.met (an_ rfl h)
      ·rintro σ ⟨rfl,h⟩
       unfold Qci at h
       refine Qa hC [.n 4,.keep [1,2,41,42] [2]] rfl tt_ ?_
       cases h
       exact rndN rfl rfl
     ·refine Qa hC [.br false,.n 2,.keep [] []] rfl ⟨tt_,hc12⟩ ?_
      cases h
      exact rndX rfl (an_ rfl rfl)
    ·rcases o25 with(_ | _)
     ·replace h:Qf1=some r:=h
      unfold Qf1 at h
      rintro e σ ⟨rfl,rfl⟩
      refine Qa hC [.n 2,.keep [4] []] rfl tt_ ?_
      cases h
      exact AK.done (ex_ [_] (an_ (an_ rfl tt_) (gives tt_)))
     ·replace h:Qf2=some r:=h
      unfold Qf2 at h
      rintro e σ ⟨rfl,rfl⟩
      refine Qa hC [.n 8,.keep [4] []] rfl tt_ ?_
      cases h
      exact AK.done (ex_ [_] (an_ (an_ rfl tt_) (gives tt_)))
def Qcc (b1:QB)(outs2:(List Int)):Option Int:=
 (Qcr b1.net b1.task.Outs outs2 b1.env).bind fun x4=>
 some x4.2
theorem QiS (b1:QB)(outs2:(List Int)){r:Int}(h:Qcc b1 outs2=some r):Qc Tryz.prog 74 [.agg (Qp b1),.sl 1 (outs2.map Qe)] [] (Gives (.i .i64 r) []):=by
 refine Qc.walk 20 Tryz.func74 rfl Tryz.ntmps74 rfl fun C hC=>?_
 unfold Qcc at h
 obtain⟨x4,hx4,h⟩:=Qb h
 refine Qa hC [.n 9,.v .no [] (.agg (Qd b1.net)),.n 6,.o (.c false [.d,.d,.d,.d] (.tup [.sl 1 (x4.1.map Qg),.i .i64 x4.2])),.n 14,.keep [4] []] rfl ⟨⟨tt_,rfl⟩,(QeT _ _ _ _ hx4)⟩ ?_
 cases h
 exact AK.done (ex_ [_] (an_ (an_ rfl tt_) (gives tt_)))
def QjT (x6:(Int×QB))(o3:Qk):Option Bool:=
 (Qfs x6.2.task.Join (x6.2.task.Ins.length:Int) o3.Ins).bind fun x11=>
 bif (!x11)then
 some true
 else
 (Qfs x6.2.task.Split (x6.2.task.Outs.length:Int) o3.Outs).bind fun x13=>
 some (!x13)
def QfC (x6:(Int×QB))(o3:Qk)(x9:Bool):Option Int:=
 bif x9 then
 some 11
 else
 (Qcb x6.2 o3.Ins).bind fun x15=>
 bif (x15 != 0)then
 some x15
 else
 (Qcc x6.2 o3.Outs).bind fun x17=>
 some x17
def QdS (x6:(Int×QB))(o3:Qk)(err7:Int):Option Int:=
 bif (err7 != 0)then
 some err7
 else
 (QjT x6 o3).bind (fun x9=>QfC x6 o3 x9)
def Qgu (n1:TNet)(m2:(List (List (Int×Int))))(o3:Qk):Option Int:=
 (Qgn n1 m2 o3.Task o3.Vars).bind fun x6=>
 bif (x6.1==0)then
 (QbH x6.2).bind fun x19=>
 QdS x6 o3 x19
 else
 QdS x6 o3 x6.1
theorem Qqu (n1:TNet)(m2:(List (List (Int×Int))))(o3:Qk){r:Int}(h:Qgu n1 m2 o3=some r):Qc Tryz.prog 34 [.agg (Qd n1),.sl 1 (m2.map Qg),.agg (Qj o3)] [] (Gives (.i .i64 r) []):=by
 refine Qc.walk 62 Tryz.func34 rfl Tryz.ntmps34 rfl fun C hC=>?_
 unfold Qgu at h
 obtain⟨x6,hx6,h⟩:=Qb h
 refine Qa hC [.n 9,.v .no [] (.agg (Qd n1)),.n 5,.o (.c false [.d,.d,.d,.d] (.tup [.agg (Qp x6.2),.i .i64 x6.1])),.n 5,.sayO 7 (.var (Qp x6.2)),.n 3] rfl ⟨⟨⟨tt_,rfl⟩,(Qmm _ _ _ _ hx6)⟩,rfl⟩ ?_
 refine AK.meet (fun σ=>∃err7:Int,σ=⟨[(5,.loc 5 0 0),(7,.loc 7 0 0),(8,.i .i64 err7)],[(5,.var (Qj o3)),(7,.var (Qp x6.2))]⟩∧QdS x6 o3 err7=some r) ?_ ?_
 ·refine Qa hC [.n 6] rfl tt_ ?_
  rcases bifE h with⟨hc18,h⟩|⟨hc18,h⟩
  ·obtain⟨x19,hx19,h⟩:=Qb h
   refine Qa hC [.br true,.n 1,.v .no [] (.agg (Qp x6.2)),.o (.c false [.d] (.i .i64 x19)),.n 2,.keep [5,7,8] [5,7]] rfl ⟨⟨⟨tt_,hc18⟩,rfl⟩,(Qh2 _ hx19)⟩ ?_
   exact AK.met (ex_ _ (an_ rfl h))
  ·refine Qa hC [.br false,.n 1,.keep [5,7,8] [5,7]] rfl ⟨tt_,hc18⟩ ?_
   exact AK.met (ex_ _ (an_ rfl h))
 ·rintro σ ⟨err7,rfl,h⟩
  unfold QdS at h
  refine Qa hC [.n 7] rfl tt_ ?_
  rcases bifE h with⟨hc8,h⟩|⟨hc8,h⟩
  ·refine Qa hC [.br true,.n 8,.keep [6] []] rfl ⟨tt_,hc8⟩ ?_
   cases h
   exact AK.done (ex_ [_] (an_ (an_ rfl tt_) (gives tt_)))
  ·refine Qa hC [.br false,.n 4] rfl ⟨tt_,hc8⟩ ?_
   obtain⟨x9,hv10,h⟩:=Qb h
   replace h:QfC x6 o3 x9=some r:=h
   refine AK.meetX (fun σ=>σ=⟨[(5,.loc 5 0 0),(7,.loc 7 0 0),(50,.b x9)],[(5,.var (Qj o3)),(7,.var (Qp x6.2))]⟩) ?_ ?_
   ·replace h:=hv10
    unfold QjT at h
    obtain⟨x11,hx11,h⟩:=Qb h
    refine Qa hC [.n 7,.o (.ln x6.2.task.Ins.length),.n 2,.o (.c false [.d,.d,.d] (.b x11)),.n 2] rfl ⟨⟨tt_,Qh⟩,(QlI _ _ _ hx11)⟩ ?_
    rcases bifE h with⟨hc12,h⟩|⟨hc12,h⟩
    ·refine Qa hC [.say 38 (.b true),.n 13,.keep [5,7,50] [5,7]] rfl ⟨tt_,(congrArg V.b hc12)⟩ ?_
     cases h
     exact AK.met rfl
    ·obtain⟨x13,hx13,h⟩:=Qb h
     refine Qa hC [.say 38 (.b false),.n 6,.o (.ln x6.2.task.Outs.length),.n 2,.o (.c false [.d,.d,.d] (.b x13)),.n 3,.keep [5,7,50] [5,7]] rfl ⟨⟨⟨tt_,(congrArg V.b hc12)⟩,Qh⟩,(QlI _ _ _ hx13)⟩ ?_
     cases h
     exact AK.met rfl
   ·rintro σ rfl
    replace h:QfC x6 o3 x9=some r:=h
    unfold QfC at h
    refine Qa hC [.n 1] rfl tt_ ?_
    rcases bifE h with⟨hc14,h⟩|⟨hc14,h⟩
    ·refine Qa hC [.br true,.n 7,.keep [6] []] rfl ⟨tt_,hc14⟩ ?_
     cases h
     exact AK.done (ex_ [_] (an_ (an_ rfl tt_) (gives tt_)))
    ·obtain⟨x15,hx15,h⟩:=Qb h
     refine Qa hC [.br false,.n 5,.v .no [] (.agg (Qp x6.2)),.n 2,.o (.c false [.d,.d] (.i .i64 x15)),.n 9] rfl ⟨⟨⟨tt_,hc14⟩,rfl⟩,(QiR _ _ hx15)⟩ ?_
     rcases bifE h with⟨hc16,h⟩|⟨hc16,h⟩
     ·refine Qa hC [.br true,.n 8,.keep [6] []] rfl ⟨tt_,hc16⟩ ?_
      cases h
      exact AK.done (ex_ [_] (an_ (an_ rfl tt_) (gives tt_)))
     ·obtain⟨x17,hx17,h⟩:=Qb h
      refine Qa hC [.br false,.n 4,.v .no [] (.agg (Qp x6.2)),.n 2,.o (.c false [.d,.d] (.i .i64 x17)),.n 4,.keep [6] []] rfl ⟨⟨⟨tt_,hc16⟩,rfl⟩,(QiS _ _ hx17)⟩ ?_
      cases h
      exact AK.done (ex_ [_] (an_ (an_ rfl tt_) (gives tt_)))
def QcT (n1:TNet)(o2:Qk):Option ((List (List (Int×Int)))×Int):=
 (QgV n1 o2.Task o2.Vars).bind fun x7=>
 bif (x7.2 != 0)then
 some (([]:List (List (Int×Int))),x7.2)
 else
 (idx n1.Tasks o2.Task).bind fun e9=>
 (Qcr n1 e9.Ins o2.Ins x7.1).bind fun x10=>
 some (x10.1,x10.2)
theorem QjU (n1:TNet)(o2:Qk){r:((List (List (Int×Int)))×Int)}(h:QcT n1 o2=some r):Qc Tryz.prog 26 [.agg (Qd n1),.agg (Qj o2)] [] (Gives (.tup [.sl 1 (r.1.map Qg),.i .i64 r.2]) []):=by
 refine Qc.walk 34 Tryz.func26 rfl Tryz.ntmps26 rfl fun C hC=>?_
 unfold QcT at h
 obtain⟨x7,hx7,h⟩:=Qb h
 refine Qa hC [.n 10,.v .no [] (.agg (Qd n1)),.n 4,.o (.c false [.d,.d,.d] (.tup [.sl 1 (x7.1.map Qe),.i .i64 x7.2])),.n 14] rfl ⟨⟨tt_,rfl⟩,(QkZ _ _ _ hx7)⟩ ?_
 rcases bifE h with⟨hc8,h⟩|⟨hc8,h⟩
 ·refine Qa hC [.br true,.n 9,.denil 4 [some 1],.keep [4,5] []] rfl ⟨tt_,hc8⟩ ?_
  cases h
  exact AK.done (ex_ [_,_] (an_ (an_ rfl (an_ rfl tt_)) (gives tt_)))
 ·obtain⟨e9,he9,h⟩:=Qb h
  obtain⟨x10,hx10,h⟩:=Qb h
  refine Qa hC [.br false,.n 3,.keep [2,3,4,5,6] [2,3]] rfl ⟨tt_,hc8⟩ ?_
  refine AK.draw2 Qo hC mixed [.a .no (some ([],.agg (Qd n1))) false,.a .no none false,.a .no none false,.a .no none false,.a .no none false,.a (.row (Qi e9)) none false,.a .no none false,.a .no none false,.a .no none false,.a .no none false,.a .no none false,.a (.c false [.d,.d,.d,.d] (.tup [.sl 1 (x10.1.map Qg),.i .i64 x10.2])) none false,.a .no none false,.a .no none false,.m .s,.m .s] [] [] [4,5] [] rfl rfl rfl ⟨⟨⟨tt_,rfl⟩,(idxM he9)⟩,(QeT _ _ _ _ hx10)⟩ rfl (by kernel_rfl) rfl rfl rfl ?_
  refine Qa hC [.n 2,.keep [4,5] []] rfl tt_ ?_
  cases h
  exact AK.done (ex_ [_,_] (an_ (an_ rfl (an_ rfl tt_)) (gives tt_)))
def Qk4 (a8:Unit):Option ((List (Int×Int))×Int):=
 some (([]:List (Int×Int)),1)
def Qk5 (a9:(List (Int×Int))):Option ((List (Int×Int))×Int):=
 some (([]:List (Int×Int)),1)
def Qk6 (a10:(List (Int×Int))):Option ((List (Int×Int))×Int):=
 some (([]:List (Int×Int)),1)
def Qd5 (m16:(List (Int×Int)))(k18:Int)(v19:Int):Option ((List (Int×Int))⊕Empty):=
 some (.inl (mset ltI m16 k18 (w64 (((mget m16 k18).getD 0)-v19))))
def Qi3 (m16:(List (Int×Int))):Option ((List (Int×Int))×Int):=
 (Qcv m16).bind fun x21=>
 some (x21,0)
def Qi4 (a11:((List (Int×Int))×(List (Int×Int)))):Option ((List (Int×Int))×Int):=
 (Qca a11.2 a11.1).bind fun x12=>
 bif (!x12)then
 some (([]:List (Int×Int)),10)
 else
 (Qg9 (fun st p=>Qd5 st p.1 p.2) a11.1 a11.2).bind (Sum.elim (fun q=>Qi3 q) (fun q=>Empty.elim q))
def QaX (a1:(List (Int×Int)))(b2:(List (Int×Int))):Option ((List (Int×Int))×Int):=
 (QgW a1 b2).bind (Sum.elim (fun q=>Qk4 q) (Sum.elim (fun q=>Qk5 q) (Sum.elim (fun q=>Qk6 q) (fun q=>Qi4 q))))
theorem QrG (a1:(List (Int×Int)))(b2:(List (Int×Int))){r:((List (Int×Int))×Int)}(h:QaX a1 b2=some r):Qc Tryz.prog 36 [.sl 2 (a1.map Qt),.sl 2 (b2.map Qt)] [] (Gives (.tup [.sl 2 (r.1.map Qt),.i .i64 r.2]) []):=by
 refine Qc.walk 40 Tryz.func36 rfl Tryz.ntmps36 rfl fun C hC=>?_
 unfold QaX at h
 obtain⟨x7,hx7,h⟩:=Qb h
 refine Qa hC [.n 10] rfl tt_ ?_
 rcases x7 with(a8 | (a9 | (a10 | a11)))
 ·replace h:Qk4 a8=some r:=h
  unfold Qk4 at h
  refine Qa hC [.cm (.fn) [] [] [] [.d,.d] [] (.tup [.lit (.map none),.lit (.map none),.b false]),.n 28,.denil 4 [some 2],.keep [4,5] []] rfl ⟨tt_,(Qa0 _ _ hx7)⟩ ?_
  cases h
  exact AK.done (ex_ [_,_] (an_ (an_ rfl (an_ rfl tt_)) (gives tt_)))
 ·replace h:Qk5 a9=some r:=h
  unfold Qk5 at h
  refine Qa hC [.cm (.fn) [] [(14,30005)] [] [.d,.d] [(30005,.map (mapV (V.i .i64) (V.i .i64) a9))] (.tup [.lit (.map none),.map 30005,.b false]),.n 28,.denil 4 [some 2],.keep [4,5] []] rfl ⟨tt_,(Qa0 _ _ hx7)⟩ ?_
  cases h
  exact AK.done (ex_ [_,_] (an_ (an_ rfl (an_ rfl tt_)) (gives tt_)))
 ·replace h:Qk6 a10=some r:=h
  unfold Qk6 at h
  refine Qa hC [.cm (.fn) [] [(14,30004)] [] [.d,.d] [(30004,.map (mapV (V.i .i64) (V.i .i64) a10))] (.tup [.map 30004,.lit (.map none),.b false]),.n 28,.denil 4 [some 2],.keep [4,5] []] rfl ⟨tt_,(Qa0 _ _ hx7)⟩ ?_
  cases h
  exact AK.done (ex_ [_,_] (an_ (an_ rfl (an_ rfl tt_)) (gives tt_)))
 ·replace h:Qi4 a11=some r:=h
  unfold Qi4 at h
  obtain⟨x12,hx12,h⟩:=Qb h
  refine Qa hC [.cm (.fn) [] [(14,30004),(50000,30005)] [] [.d,.d] [(30004,.map (mapV (V.i .i64) (V.i .i64) a11.1)),(30005,.map (mapV (V.i .i64) (V.i .i64) a11.2))] (.tup [.map 30004,.map 30005,.b true]),.n 23,.cm (.fn) [(200000,50000),(200001,14)] [(50000,200000),(14,200001)] [] [.d,.d] [(200000,.map (mapV (V.i .i64) (V.i .i64) a11.2)),(200001,.map (mapV (V.i .i64) (V.i .i64) a11.1))] (.b x12),.n 4] rfl ⟨⟨tt_,(Qa0 _ _ hx7)⟩,(QiQ _ _ hx12)⟩ ?_
  rcases bifE h with⟨hc13,h⟩|⟨hc13,h⟩
  ·refine Qa hC [.br true,.n 9,.denil 4 [some 2],.keep [4,5] []] rfl ⟨tt_,hc13⟩ ?_
   cases h
   exact AK.done (ex_ [_,_] (an_ (an_ rfl (an_ rfl tt_)) (gives tt_)))
  ·refine Qa hC [.br false,.n 7] rfl ⟨tt_,hc13⟩ ?_
   refine AK.openMap (b:=50000) ky_3 rfl fun bm14 cl14 L14 hbn14 hpm14=>?_
   refine Qa hC [.x (fun σ=>(σ.set 27 (.itr bm14 cl14 #[] none)).put 27 (.loc 27 0 0)),.n 3,.keep [6,27] [14,27,50000]] rfl ⟨tt_,(Stp.range (b:=50000) rfl rfl (bleN hC.n rfl) rfl rfl Qfz rfl)⟩ ?_
   obtain⟨o20,hl20,h⟩:=Qb h
   refine AK.range (body:=(fun st p=>Qd5 st p.1 p.2)) (fun st seen σ=>∃cur:Option MapEntry,σ=⟨[(6,.map 14),(27,.loc 27 0 0)],[(14,.map (mapV (V.i .i64) (V.i .i64) st)),(27,.itr bm14 cl14 seen cur),(50000,.mapX bm14 cl14 (typV (V.i .i64) (V.i .i64) L14) (mapV (V.i .i64) (V.i .i64) a11.2))]⟩) (fun (q:Empty) _ _=>False) (fun st e σ=>e=.exit 1∧σ=⟨[(6,.map 14)],[(14,.map (mapV (V.i .i64) (V.i .i64) st))]⟩) hbn14 hpm14 hl20 (ex_ _ rfl) ?_ ?_
   ·rintro m16 seen σ ⟨cur,rfl⟩ hex
    refine Qa hC [.n 2] rfl tt_ ?_
    refine AK.nextT (b:=27) (m:=50000) rfl rfl rfl (bleN hC.n rfl) rfl rfl rfl rfl ?_ ?_
    ·intro hleft
     refine Qa hC [.n 7,.keep [6] [14]] rfl tt_ ?_
     exact AK.done (Or.inl (an_ hleft (an_ (fun h=>(by cases h)) (an_ rfl rfl))))
    ·intro xk18 k18 v19 hq15
     obtain⟨o,h⟩:=hex _ hq15
     have ho:=h
     replace h:Qd5 m16 k18 v19=some o:=h
     unfold Qd5 at h
     refine Qa hC [.n 10,.x (fun σ=>σ.put 30 (.tup [.i .i64 k18,.i .i64 v19])),.n 9,.o (.any (.i .i64 ((mget m16 k18).getD 0)) none),.n 2,.x (fun σ=>σ.set 14 (.map (mapV (V.i .i64) (V.i .i64) (mset ltI m16 k18 (w64 (((mget m16 k18).getD 0)-v19)))))),.n 2,.keep [6,27] [14,27,50000]] rfl ⟨⟨⟨tt_,(Stp.entryT (b:=27) (m:=50000) rfl rfl (bleN hC.n rfl) rfl hq15 rfl rfl)⟩,(fun σ h1 h2 _=>Stp.lookup (e:=(V.i .i64)) (f:=(V.i .i64)) (l:=m16) (k:=k18) (z:=0) rfl rfl (bleN hC.n rfl) (h1 _ _ rfl) (h2 _ _ rfl) (h1 _ _ rfl) Qfz ky_3 zi_3 rfl)⟩,(Stp.mapUpdate (e:=(V.i .i64)) (f:=(V.i .i64)) (l:=m16) (k:=k18) (v:=(w64 (((mget m16 k18).getD 0)-v19))) ltI rfl rfl rfl rfl rfl rfl Qfz ky_3 rfl)⟩ ?_
     cases h
     exact AK.done (Or.inr (ex_ _ (an_ hq15 (Or.inl (ex_ _ (an_ ho (an_ rfl (ex_ _ rfl))))))))
   ·rcases o20 with(m16 | q)
    ·replace h:Qi3 m16=some r:=h
     unfold Qi3 at h
     rintro e σ ⟨rfl,rfl⟩
     obtain⟨x21,hx21,h⟩:=Qb h
     refine Qa hC [.n 5,.cm (.fn) [(200000,14)] [(39,30000),(14,200000)] [] [.d] [(30000,.arr 2 (x21.map Qt)),(200000,.map (mapV (V.i .i64) (V.i .i64) m16))] (.own 30000 x21.length),.n 5,.frz 39 (x21.map Qt) [4] [],.keep [4,5] []] rfl ⟨⟨tt_,(Qhv _ hx21)⟩,⟨tt_,(frzL Qh)⟩⟩ ?_
     cases h
     exact AK.done (ex_ [_,_] (an_ (an_ rfl (an_ rfl tt_)) (gives tt_)))
    ·exact q.elim
def QbM (a1:(List (List (Int×Int))))(b2:(List (List (Int×Int))))(x9:Int)(l10:(List (List (Int×Int)))):Option ((Int×(List (List (Int×Int))))⊕(Int⊕(List (List (Int×Int))))):=
 bif (decide (x9<((List.replicate (min2 (a1.length:Int) (b2.length:Int)).toNat (([]:(List (Int×Int))):(List (Int×Int)))).length:Int)))then
 (idx a1 x9).bind fun e16=>
 (idx b2 x9).bind fun e17=>
 (QaX e16 e17).bind fun x18=>
 (idx l10 x9).bind fun e19=>
 bif (x18.2 != 0)then
 some (.inr (.inl x18.2))
 else
 some (.inl ((w64 (x9+1)),(l10.set x9.toNat x18.1)))
 else
 some (.inr (.inr l10))
def Qji (x13:Int):Option ((List (List (Int×Int)))×Int):=
 some (([]:List (List (Int×Int))),x13)
def Qjj (l14:(List (List (Int×Int)))):Option ((List (List (Int×Int)))×Int):=
 some (l14,0)
def Qc9 (a1:(List (List (Int×Int))))(b2:(List (List (Int×Int)))):Option ((List (List (Int×Int)))×Int):=
 (chk (decide (0≤(min2 (a1.length:Int) (b2.length:Int)))&&decide ((min2 (a1.length:Int) (b2.length:Int))≤(min2 (a1.length:Int) (b2.length:Int)))&&decide ((min2 (a1.length:Int) (b2.length:Int))≤4294967296))).bind fun _=>
 (QE (fun st=>QbM a1 b2 st.1 st.2) (0,(List.replicate (min2 (a1.length:Int) (b2.length:Int)).toNat (([]:(List (Int×Int))):(List (Int×Int)))))).bind (Sum.elim (fun q=>Qji q) (fun q=>Qjj q))
theorem QpJ (a1:(List (List (Int×Int))))(b2:(List (List (Int×Int)))){r:((List (List (Int×Int)))×Int)}(h:Qc9 a1 b2=some r):Qc Tryz.prog 35 [.sl 1 (a1.map Qg),.sl 1 (b2.map Qg),.clo (.func 36) [] []] [] (Gives (.tup [.sl 1 (r.1.map Qg),.i .i64 r.2]) []):=by
 refine Qc.walk 43 Tryz.func35 rfl Tryz.ntmps35 rfl fun C hC=>?_
 unfold Qc9 at h
 obtain⟨_,hk7,h⟩:=Qb h
 replace hk7:=chkE hk7
 refine Qa hC [.n 9,.o (.ln a1.length),.n 1,.o (.ln b2.length),.n 1,.o (.rows (List.replicate (min2 (a1.length:Int) (b2.length:Int)).toNat [.lit (.slice none 0 0)]))] rfl ⟨⟨⟨tt_,Qh⟩,Qh⟩,⟨hk7,rfl⟩⟩ ?_
 refine AK.denilA (b:=16) [some 2] rfl (Qsh (f:=Qg) (x:=([]:(List (Int×Int)))) rfl) ?_
 refine Qa hC [.say 16 (.own 16 (List.replicate (min2 (a1.length:Int) (b2.length:Int)).toNat (([]:(List (Int×Int))):(List (Int×Int)))).length),.n 12,.keep [0,1,2,8,18,19] [16]] rfl ⟨tt_,(by simp)⟩ ?_
 obtain⟨o21,hl21,h⟩:=Qb h
 refine AK.loop (body:=(fun st=>QbM a1 b2 st.1 st.2)) (fun st σ=>σ=⟨[(0,.sl 1 (a1.map Qg)),(1,.sl 1 (b2.map Qg)),(2,.clo (.func 36) [] []),(8,.own 16 st.2.length),(18,.i .i64 ((List.replicate (min2 (a1.length:Int) (b2.length:Int)).toNat (([]:(List (Int×Int))):(List (Int×Int)))).length:Int)),(19,.i .i64 st.1)],[(16,.arr 1 (st.2.map Qg))]⟩) (Sum.elim (fun q e σ=>e=.ret∧σ=⟨[(6,.lit (.slice none 0 0)),(7,.i .i64 q)],[]⟩) (fun q e σ=>e=.exit 0∧σ=⟨[(8,.own 16 q.length)],[(16,.arr 1 (q.map Qg))]⟩)) hl21 rfl ?_ ?_
 ·rintro ⟨x9,l10⟩ o σ rfl h
  replace h:QbM a1 b2 x9 l10=some o:=h
  unfold QbM at h
  refine Qa hC [.n 6] rfl tt_ ?_
  rcases bifE h with⟨hc15,h⟩|⟨hc15,h⟩
  ·obtain⟨e16,he16,h⟩:=Qb h
   obtain⟨e17,he17,h⟩:=Qb h
   obtain⟨x18,hx18,h⟩:=Qb h
   obtain⟨e19,he19,h⟩:=Qb h
   refine Qa hC [.br true,.n 16,.keep [0,1,2,8,9,10,18,19] [16]] rfl ⟨tt_,hc15⟩ ?_
   refine AK.draw2 Qo hC mixed [.a .no none false,.a .no none false,.a .no none false,.a .no none false,.a .no none false,.a (.row (Qg e16)) none false,.a .no none false,.a .no none false,.a .no none false,.a (.row (Qg e17)) none false,.a .no none false,.a (.c false [.d,.d] (.tup [.sl 2 (x18.1.map Qt),.i .i64 x18.2])) none false,.a .no none true true,.a .no none false,.a .no none true,.a .no none false,.m (.st (Qg e19) ((l10.set x9.toNat x18.1).map Qg)),.m .s] [0,1,2,8,9,10,18,19] [] [0,1,2,8,10,18,19] [16] rfl rfl rfl ⟨⟨⟨⟨⟨tt_,(idxM he16)⟩,(idxM he17)⟩,(QrG _ _ hx18)⟩,(Qdc he19 rfl)⟩,⟨(QbJ (idxE he19).2),QjB rfl⟩⟩ rfl (by kernel_rfl) rfl rfl rfl ?_
   refine Qa hC [.n 7] rfl tt_ ?_
   rcases bifE h with⟨hc20,h⟩|⟨hc20,h⟩
   ·refine Qa hC [.br true,.n 10,.keep [6,7] []] rfl ⟨tt_,hc20⟩ ?_
    cases h
    exact rndR rfl (an_ rfl rfl)
   ·refine Qa hC [.br false,.n 7,.say 8 (.own 16 (l10.set x9.toNat x18.1).length),.keep [0,1,2,8,18,19] [16]] rfl ⟨⟨tt_,hc20⟩,(congrArg (fun n=>V.own 16 n) (by simp))⟩ ?_
    cases h
    exact rndN rfl rfl
  ·refine Qa hC [.br false,.n 2,.keep [8] [16]] rfl ⟨tt_,hc15⟩ ?_
   cases h
   exact rndX rfl (an_ rfl rfl)
 ·rcases o21 with(x13 | l14)
  ·replace h:Qji x13=some r:=h
   unfold Qji at h
   rintro e σ ⟨rfl,rfl⟩
   refine Qa hC [.n 2,.denil 6 [some 1],.keep [6,7] []] rfl tt_ ?_
   cases h
   exact AK.done (ex_ [_,_] (an_ (an_ rfl (an_ rfl tt_)) (gives tt_)))
  ·replace h:Qjj l14=some r:=h
   unfold Qjj at h
   rintro e σ ⟨rfl,rfl⟩
   refine Qa hC [.n 10,.frz 16 (l14.map Qg) [6] [],.keep [6,7] []] rfl ⟨tt_,⟨tt_,(frzL Qh)⟩⟩ ?_
   cases h
   exact AK.done (ex_ [_,_] (an_ (an_ rfl (an_ rfl tt_)) (gives tt_)))
def Qck (n1:TNet)(m2:(List (List (Int×Int))))(o3:Qk):Option ((List (List (Int×Int)))×Int):=
 (Qgu n1 m2 o3).bind fun x8=>
 bif (x8 != 0)then
 some (([]:List (List (Int×Int))),x8)
 else
 (QcT n1 o3).bind fun x10=>
 bif (x10.2 != 0)then
 some (([]:List (List (Int×Int))),x10.2)
 else
 (Qc9 m2 x10.1).bind fun x12=>
 some (x12.1,x12.2)
theorem Qks (n1:TNet)(m2:(List (List (Int×Int))))(o3:Qk){r:((List (List (Int×Int)))×Int)}(h:Qck n1 m2 o3=some r):Qc Tryz.prog 10 [.agg (Qd n1),.sl 1 (m2.map Qg),.agg (Qj o3)] [] (Gives (.tup [.sl 1 (r.1.map Qg),.i .i64 r.2]) []):=by
 refine Qc.walk 32 Tryz.func10 rfl Tryz.ntmps10 rfl fun C hC=>?_
 unfold Qck at h
 obtain⟨x8,hx8,h⟩:=Qb h
 refine Qa hC [.n 11,.v .no [] (.agg (Qd n1)),.n 1,.v .no [] (.agg (Qj o3)),.o (.c false [.d,.d,.d] (.i .i64 x8)),.n 9] rfl ⟨⟨⟨tt_,rfl⟩,rfl⟩,(Qqu _ _ _ hx8)⟩ ?_
 rcases bifE h with⟨hc9,h⟩|⟨hc9,h⟩
 ·refine Qa hC [.br true,.n 9,.denil 6 [some 1],.keep [6,7] []] rfl ⟨tt_,hc9⟩ ?_
  cases h
  exact AK.done (ex_ [_,_] (an_ (an_ rfl (an_ rfl tt_)) (gives tt_)))
 ·obtain⟨x10,hx10,h⟩:=Qb h
  refine Qa hC [.br false,.n 4,.v .no [] (.agg (Qd n1)),.v .no [] (.agg (Qj o3)),.o (.c false [.d,.d] (.tup [.sl 1 (x10.1.map Qg),.i .i64 x10.2])),.n 14] rfl ⟨⟨⟨⟨tt_,hc9⟩,rfl⟩,rfl⟩,(QjU _ _ hx10)⟩ ?_
  rcases bifE h with⟨hc11,h⟩|⟨hc11,h⟩
  ·refine Qa hC [.br true,.n 9,.denil 6 [some 1],.keep [6,7] []] rfl ⟨tt_,hc11⟩ ?_
   cases h
   exact AK.done (ex_ [_,_] (an_ (an_ rfl (an_ rfl tt_)) (gives tt_)))
  ·obtain⟨x12,hx12,h⟩:=Qb h
   refine Qa hC [.br false,.n 6,.cm (.fn) [] [] [] [.d,.d,.d] [] (.tup [.sl 1 (x12.1.map Qg),.i .i64 x12.2]),.n 7,.keep [6,7] []] rfl ⟨⟨tt_,hc11⟩,(QpJ _ _ hx12)⟩ ?_
   cases h
   exact AK.done (ex_ [_,_] (an_ (an_ rfl (an_ rfl tt_)) (gives tt_)))
def Qh7 (n1:TNet)(o2:Qk):Option ((List (List (Int×Int)))×Int):=
 (QgV n1 o2.Task o2.Vars).bind fun x7=>
 bif (x7.2 != 0)then
 some (([]:List (List (Int×Int))),x7.2)
 else
 (idx n1.Tasks o2.Task).bind fun e9=>
 (Qcr n1 e9.Outs o2.Outs x7.1).bind fun x10=>
 some (x10.1,x10.2)
theorem Qqv (n1:TNet)(o2:Qk){r:((List (List (Int×Int)))×Int)}(h:Qh7 n1 o2=some r):Qc Tryz.prog 40 [.agg (Qd n1),.agg (Qj o2)] [] (Gives (.tup [.sl 1 (r.1.map Qg),.i .i64 r.2]) []):=by
 refine Qc.walk 34 Tryz.func40 rfl Tryz.ntmps40 rfl fun C hC=>?_
 unfold Qh7 at h
 obtain⟨x7,hx7,h⟩:=Qb h
 refine Qa hC [.n 10,.v .no [] (.agg (Qd n1)),.n 4,.o (.c false [.d,.d,.d] (.tup [.sl 1 (x7.1.map Qe),.i .i64 x7.2])),.n 14] rfl ⟨⟨tt_,rfl⟩,(QkZ _ _ _ hx7)⟩ ?_
 rcases bifE h with⟨hc8,h⟩|⟨hc8,h⟩
 ·refine Qa hC [.br true,.n 9,.denil 4 [some 1],.keep [4,5] []] rfl ⟨tt_,hc8⟩ ?_
  cases h
  exact AK.done (ex_ [_,_] (an_ (an_ rfl (an_ rfl tt_)) (gives tt_)))
 ·obtain⟨e9,he9,h⟩:=Qb h
  obtain⟨x10,hx10,h⟩:=Qb h
  refine Qa hC [.br false,.n 3,.keep [2,3,4,5,6] [2,3]] rfl ⟨tt_,hc8⟩ ?_
  refine AK.draw2 Qo hC mixed [.a .no (some ([],.agg (Qd n1))) false,.a .no none false,.a .no none false,.a .no none false,.a .no none false,.a (.row (Qi e9)) none false,.a .no none false,.a .no none false,.a .no none false,.a .no none false,.a .no none false,.a (.c false [.d,.d,.d,.d] (.tup [.sl 1 (x10.1.map Qg),.i .i64 x10.2])) none false,.a .no none false,.a .no none false,.m .s,.m .s] [] [] [4,5] [] rfl rfl rfl ⟨⟨⟨tt_,rfl⟩,(idxM he9)⟩,(QeT _ _ _ _ hx10)⟩ rfl (by kernel_rfl) rfl rfl rfl ?_
  refine Qa hC [.n 2,.keep [4,5] []] rfl tt_ ?_
  cases h
  exact AK.done (ex_ [_,_] (an_ (an_ rfl (an_ rfl tt_)) (gives tt_)))
def QaY (s1:(List (List (Int×Int)))):Option (List (List (Int×Int))):=
 (chk (decide (([]:List (List (Int×Int))).length+s1.length≤4294967296))).bind fun _=>
 some (([]:List (List (Int×Int)))++s1)
theorem QhP (s1:(List (List (Int×Int)))){r:(List (List (Int×Int)))}(h:QaY s1=some r):Qc Tryz.prog 85 [.sl 1 (s1.map Qg)] [] (Gives (.own 30000 r.length) [(30000,.arr 1 (r.map Qg))]):=by
 refine Qc.walk 8 Tryz.func85 rfl Tryz.ntmps85 rfl fun C hC=>?_
 unfold QaY at h
 refine Qa hC [.n 9] rfl tt_ ?_
 refine AK.eqNil rfl rfl rfl (bleN hC.n rfl) rfl rfl QvI ?_ ?_
 ·intro hz4
  replace h:some ([]:List (List (Int×Int)))=some r:=by simpa [chk,List.map_eq_nil_iff.1 hz4] using h
  refine Qa hC [.n 10,.adopt 2 30000 1,.sayO 30000 (.arr 1 (([]:List (List (Int×Int))).map Qg)),.say 2 (.own 30000 ([]:List (List (Int×Int))).length),.keep [2] [30000]] rfl ⟨⟨tt_,rfl⟩,rfl⟩ ?_
  cases h
  exact AK.done (ex_ [_] (an_ (an_ rfl tt_) (gives ⟨rfl,tt_⟩)))
 ·obtain⟨_,hk5,h⟩:=Qb h
  replace hk5:=chkE hk5
  refine Qa hC [.n 8,.sayO 5 (.arr 1 (([]:List (List (Int×Int))).map Qg)),.say 5 (.own 5 ([]:List (List (Int×Int))).length),.n 1,.app ((([]:List (List (Int×Int)))++s1).map Qg) (([]:List (List (Int×Int)))++s1).length,.n 4,.keep [2] [5],.ren 5 30000,.keep [2] [30000]] rfl ⟨⟨⟨tt_,rfl⟩,rfl⟩,⟨Qh,QeL hk5 Qh,Qdm,QgU Qh⟩⟩ ?_
  cases h
  exact AK.done (ex_ [_] (an_ (an_ rfl tt_) (gives ⟨rfl,tt_⟩)))
def QbY (s1:(List (Int×Int))):Option (List (Int×Int)):=
 (chk (decide (([]:List (Int×Int)).length+s1.length≤4294967296))).bind fun _=>
 some (([]:List (Int×Int))++s1)
theorem Qjx (s1:(List (Int×Int))){r:(List (Int×Int))}(h:QbY s1=some r):Qc Tryz.prog 86 [.sl 2 (s1.map Qt)] [] (Gives (.own 30000 r.length) [(30000,.arr 2 (r.map Qt))]):=by
 refine Qc.walk 8 Tryz.func86 rfl Tryz.ntmps86 rfl fun C hC=>?_
 unfold QbY at h
 refine Qa hC [.n 9] rfl tt_ ?_
 refine AK.eqNil rfl rfl rfl (bleN hC.n rfl) rfl rfl QvK ?_ ?_
 ·intro hz4
  replace h:some ([]:List (Int×Int))=some r:=by simpa [chk,List.map_eq_nil_iff.1 hz4] using h
  refine Qa hC [.n 10,.adopt 2 30000 2,.sayO 30000 (.arr 2 (([]:List (Int×Int)).map Qt)),.say 2 (.own 30000 ([]:List (Int×Int)).length),.keep [2] [30000]] rfl ⟨⟨tt_,rfl⟩,rfl⟩ ?_
  cases h
  exact AK.done (ex_ [_] (an_ (an_ rfl tt_) (gives ⟨rfl,tt_⟩)))
 ·obtain⟨_,hk5,h⟩:=Qb h
  replace hk5:=chkE hk5
  refine Qa hC [.n 8,.sayO 5 (.arr 2 (([]:List (Int×Int)).map Qt)),.say 5 (.own 5 ([]:List (Int×Int)).length),.n 1,.app ((([]:List (Int×Int))++s1).map Qt) (([]:List (Int×Int))++s1).length,.n 4,.keep [2] [5],.ren 5 30000,.keep [2] [30000]] rfl ⟨⟨⟨tt_,rfl⟩,rfl⟩,⟨Qh,QeL hk5 Qh,Qdm,QgU Qh⟩⟩ ?_
  cases h
  exact AK.done (ex_ [_] (an_ (an_ rfl tt_) (gives ⟨rfl,tt_⟩)))
def Qdr (x3:(List (List (Int×Int))))(x5:Int)(l6:(List (List (Int×Int)))):Option ((Int×(List (List (Int×Int))))⊕(List (List (Int×Int)))):=
 bif (decide (x5<(x3.length:Int)))then
 (idx l6 x5).bind fun e11=>
 (QbY e11).bind fun x12=>
 (idx l6 x5).bind fun e13=>
 some (.inl ((w64 (x5+1)),(l6.set x5.toNat x12)))
 else
 some (.inr l6)
def Qkt (l9:(List (List (Int×Int)))):Option (List (List (Int×Int))):=
 some l9
def Qhr (m1:(List (List (Int×Int)))):Option (List (List (Int×Int))):=
 (QaY m1).bind fun x3=>
 (QE (fun st=>Qdr x3 st.1 st.2) (0,x3)).bind (fun q=>Qkt q)
theorem QmO (m1:(List (List (Int×Int)))){r:(List (List (Int×Int)))}(h:Qhr m1=some r):Qc Tryz.prog 41 [.sl 1 (m1.map Qg)] [] (Gives (.own 30000 r.length) [(30000,.arr 1 (r.map Qg))]):=by
 refine Qc.walk 22 Tryz.func41 rfl Tryz.ntmps41 rfl fun C hC=>?_
 unfold Qhr at h
 obtain⟨x3,hx3,h⟩:=Qb h
 refine Qa hC [.n 8,.o (.co false [.d] 1 (x3.map Qg) x3.length),.n 12,.keep [3,8,9,10] [7]] rfl ⟨tt_,⟨(QhP _ hx3),Qh,.inl rfl⟩⟩ ?_
 obtain⟨l9,hl14,h⟩:=Qb h
 refine AK.loop (body:=(fun st=>Qdr x3 st.1 st.2)) (fun st σ=>σ=⟨[(3,.own 7 st.2.length),(8,.own 7 st.2.length),(9,.i .i64 (x3.length:Int)),(10,.i .i64 st.1)],[(7,.arr 1 (st.2.map Qg))]⟩) (fun q e σ=>e=.exit 0∧σ=⟨[(3,.own 7 q.length)],[(7,.arr 1 (q.map Qg))]⟩) hl14 rfl ?_ ?_
 ·rintro ⟨x5,l6⟩ o σ rfl h
  replace h:Qdr x3 x5 l6=some o:=h
  unfold Qdr at h
  refine Qa hC [.n 6] rfl tt_ ?_
  rcases bifE h with⟨hc10,h⟩|⟨hc10,h⟩
  ·obtain⟨e11,he11,h⟩:=Qb h
   obtain⟨x12,hx12,h⟩:=Qb h
   obtain⟨e13,he13,h⟩:=Qb h
   refine Qa hC [.br true,.n 8,.o (.row (Qg e11)),.n 8,.o (.co false [.d] 2 (x12.map Qt) x12.length),.n 1,.frz 18 (x12.map Qt) [18] [],.st (Qg e13) ((l6.set x5.toNat x12).map Qg),.n 7,.say 3 (.own 7 (l6.set x5.toNat x12).length),.say 8 (.own 7 (l6.set x5.toNat x12).length),.keep [3,8,9,10] [7]] rfl ⟨⟨⟨⟨⟨⟨⟨⟨⟨tt_,hc10⟩,(Qdc he11 rfl)⟩,(QbJ (idxE he11).2)⟩,⟨(Qjx _ hx12),Qh,.inl rfl⟩⟩,(Qdc he13 rfl)⟩,⟨tt_,(frzL Qh)⟩⟩,⟨(QbJ (idxE he13).2),QjB rfl⟩⟩,(congrArg (fun n=>V.own 7 n) (by simp))⟩,(congrArg (fun n=>V.own 7 n) (by simp))⟩ ?_
   cases h
   exact rndN rfl rfl
  ·refine Qa hC [.br false,.n 2,.keep [3] [7]] rfl ⟨tt_,hc10⟩ ?_
   cases h
   exact rndX rfl (an_ rfl rfl)
 ·replace h:Qkt l9=some r:=h
  unfold Qkt at h
  rintro e σ ⟨rfl,rfl⟩
  refine Qa hC [.n 9,.keep [2] [7],.ren 7 30000,.keep [2] [30000]] rfl tt_ ?_
  cases h
  exact AK.done (ex_ [_] (an_ (an_ rfl tt_) (gives ⟨rfl,tt_⟩)))
def QaV (a1:(List (List (Int×Int))))(b2:(List (List (Int×Int))))(x9:Int)(l10:(List (List (Int×Int)))):Option ((Int×(List (List (Int×Int))))⊕(Int⊕(List (List (Int×Int))))):=
 bif (decide (x9<((List.replicate (min2 (a1.length:Int) (b2.length:Int)).toNat (([]:(List (Int×Int))):(List (Int×Int)))).length:Int)))then
 (idx a1 x9).bind fun e16=>
 (idx b2 x9).bind fun e17=>
 (QaO e16 e17).bind fun x18=>
 (idx l10 x9).bind fun e19=>
 bif (x18.2 != 0)then
 some (.inr (.inl x18.2))
 else
 some (.inl ((w64 (x9+1)),(l10.set x9.toNat x18.1)))
 else
 some (.inr (.inr l10))
def Qhw (x13:Int):Option ((List (List (Int×Int)))×Int):=
 some (([]:List (List (Int×Int))),x13)
def Qhx (l14:(List (List (Int×Int)))):Option ((List (List (Int×Int)))×Int):=
 some (l14,0)
def QbN (a1:(List (List (Int×Int))))(b2:(List (List (Int×Int)))):Option ((List (List (Int×Int)))×Int):=
 (chk (decide (0≤(min2 (a1.length:Int) (b2.length:Int)))&&decide ((min2 (a1.length:Int) (b2.length:Int))≤(min2 (a1.length:Int) (b2.length:Int)))&&decide ((min2 (a1.length:Int) (b2.length:Int))≤4294967296))).bind fun _=>
 (QE (fun st=>QaV a1 b2 st.1 st.2) (0,(List.replicate (min2 (a1.length:Int) (b2.length:Int)).toNat (([]:(List (Int×Int))):(List (Int×Int)))))).bind (Sum.elim (fun q=>Qhw q) (fun q=>Qhx q))
theorem Qko (a1:(List (List (Int×Int))))(b2:(List (List (Int×Int)))){r:((List (List (Int×Int)))×Int)}(h:QbN a1 b2=some r):Qc Tryz.prog 35 [.sl 1 (a1.map Qg),.sl 1 (b2.map Qg),.clo (.func 24) [] []] [] (Gives (.tup [.sl 1 (r.1.map Qg),.i .i64 r.2]) []):=by
 refine Qc.walk 43 Tryz.func35 rfl Tryz.ntmps35 rfl fun C hC=>?_
 unfold QbN at h
 obtain⟨_,hk7,h⟩:=Qb h
 replace hk7:=chkE hk7
 refine Qa hC [.n 9,.o (.ln a1.length),.n 1,.o (.ln b2.length),.n 1,.o (.rows (List.replicate (min2 (a1.length:Int) (b2.length:Int)).toNat [.lit (.slice none 0 0)]))] rfl ⟨⟨⟨tt_,Qh⟩,Qh⟩,⟨hk7,rfl⟩⟩ ?_
 refine AK.denilA (b:=16) [some 2] rfl (Qsh (f:=Qg) (x:=([]:(List (Int×Int)))) rfl) ?_
 refine Qa hC [.say 16 (.own 16 (List.replicate (min2 (a1.length:Int) (b2.length:Int)).toNat (([]:(List (Int×Int))):(List (Int×Int)))).length),.n 12,.keep [0,1,2,8,18,19] [16]] rfl ⟨tt_,(by simp)⟩ ?_
 obtain⟨o21,hl21,h⟩:=Qb h
 refine AK.loop (body:=(fun st=>QaV a1 b2 st.1 st.2)) (fun st σ=>σ=⟨[(0,.sl 1 (a1.map Qg)),(1,.sl 1 (b2.map Qg)),(2,.clo (.func 24) [] []),(8,.own 16 st.2.length),(18,.i .i64 ((List.replicate (min2 (a1.length:Int) (b2.length:Int)).toNat (([]:(List (Int×Int))):(List (Int×Int)))).length:Int)),(19,.i .i64 st.1)],[(16,.arr 1 (st.2.map Qg))]⟩) (Sum.elim (fun q e σ=>e=.ret∧σ=⟨[(6,.lit (.slice none 0 0)),(7,.i .i64 q)],[]⟩) (fun q e σ=>e=.exit 0∧σ=⟨[(8,.own 16 q.length)],[(16,.arr 1 (q.map Qg))]⟩)) hl21 rfl ?_ ?_
 ·rintro ⟨x9,l10⟩ o σ rfl h
  replace h:QaV a1 b2 x9 l10=some o:=h
  unfold QaV at h
  refine Qa hC [.n 6] rfl tt_ ?_
  rcases bifE h with⟨hc15,h⟩|⟨hc15,h⟩
  ·obtain⟨e16,he16,h⟩:=Qb h
   obtain⟨e17,he17,h⟩:=Qb h
   obtain⟨x18,hx18,h⟩:=Qb h
   obtain⟨e19,he19,h⟩:=Qb h
   refine Qa hC [.br true,.n 16,.keep [0,1,2,8,9,10,18,19] [16]] rfl ⟨tt_,hc15⟩ ?_
   refine AK.draw2 Qo hC mixed [.a .no none false,.a .no none false,.a .no none false,.a .no none false,.a .no none false,.a (.row (Qg e16)) none false,.a .no none false,.a .no none false,.a .no none false,.a (.row (Qg e17)) none false,.a .no none false,.a (.c false [.d,.d] (.tup [.sl 2 (x18.1.map Qt),.i .i64 x18.2])) none false,.a .no none true true,.a .no none false,.a .no none true,.a .no none false,.m (.st (Qg e19) ((l10.set x9.toNat x18.1).map Qg)),.m .s] [0,1,2,8,9,10,18,19] [] [0,1,2,8,10,18,19] [16] rfl rfl rfl ⟨⟨⟨⟨⟨tt_,(idxM he16)⟩,(idxM he17)⟩,(Qor _ _ hx18)⟩,(Qdc he19 rfl)⟩,⟨(QbJ (idxE he19).2),QjB rfl⟩⟩ rfl (by kernel_rfl) rfl rfl rfl ?_
   refine Qa hC [.n 7] rfl tt_ ?_
   rcases bifE h with⟨hc20,h⟩|⟨hc20,h⟩
   ·refine Qa hC [.br true,.n 10,.keep [6,7] []] rfl ⟨tt_,hc20⟩ ?_
    cases h
    exact rndR rfl (an_ rfl rfl)
   ·refine Qa hC [.br false,.n 7,.say 8 (.own 16 (l10.set x9.toNat x18.1).length),.keep [0,1,2,8,18,19] [16]] rfl ⟨⟨tt_,hc20⟩,(congrArg (fun n=>V.own 16 n) (by simp))⟩ ?_
    cases h
    exact rndN rfl rfl
  ·refine Qa hC [.br false,.n 2,.keep [8] [16]] rfl ⟨tt_,hc15⟩ ?_
   cases h
   exact rndX rfl (an_ rfl rfl)
 ·rcases o21 with(x13 | l14)
  ·replace h:Qhw x13=some r:=h
   unfold Qhw at h
   rintro e σ ⟨rfl,rfl⟩
   refine Qa hC [.n 2,.denil 6 [some 1],.keep [6,7] []] rfl tt_ ?_
   cases h
   exact AK.done (ex_ [_,_] (an_ (an_ rfl (an_ rfl tt_)) (gives tt_)))
  ·replace h:Qhx l14=some r:=h
   unfold Qhx at h
   rintro e σ ⟨rfl,rfl⟩
   refine Qa hC [.n 10,.frz 16 (l14.map Qg) [6] [],.keep [6,7] []] rfl ⟨tt_,⟨tt_,(frzL Qh)⟩⟩ ?_
   cases h
   exact AK.done (ex_ [_,_] (an_ (an_ rfl (an_ rfl tt_)) (gives tt_)))

end Go.Proofs
