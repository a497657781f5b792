/- What functions of the program do, as functions over plain data, and the walks that show it: printed by a program. -/
import Derived.Test.YtpijolohkdchcaaGreatDoorXVm5
import Derived.Test.YtpijolohkdchcaaGreatDoorProg
set_option linter.unusedVariables false
set_option linter.unusedSimpArgs false
set_option linter.unusedSectionVars false
set_option linter.deprecated false
set_option maxRecDepth 100000
set_option maxHeartbeats 4000000
noncomputable section
namespace Go.Proofs
open Go Go.RowKit Go.Vm
structure Qz where
 Name:ByteArray
 Kind:Int
 Lo:Int
 Hi:Int
 Names:(List ByteArray)
 First:Int
 Then:Int
structure QB where
 Name:ByteArray
 Colour:Int
 First:(List (Int×Int))
structure TVar where
 Name:ByteArray
 Colour:Int
structure Qh where
 Kind:Int
 Num:Int
 Kids:(List Qh)
structure TArc where
 Place:Int
 Expr:Qh
structure Qr where
 Name:ByteArray
 Vars:(List TVar)
 Guard:Qh
 Join:Int
 Split:Int
 Ins:(List TArc)
 Outs:(List TArc)
 Cancel:(List Int)
 After:Int
 Many:(Int×Int×Int)
structure TNet where
 Colours:(List Qz)
 Places:(List QB)
 Tasks:(List Qr)
 From:Int
 To:Int
structure Qk where
 Task:Int
 Vars:(List Int)
 Ins:(List Int)
 Outs:(List Int)
structure QA where
 net:TNet
 m:(List (List (Int×Int)))
 task:Qr
 env:(List Int)
structure Qab where
 all:(List Qz)
 sizes:(List Int)
 k:Int
structure Qdz where
 Kind:Int
 At:Int
def Qdg (x:ByteArray):List V:=[.s x]
def Qe (x:Int):List V:=[.i .i64 x]
theorem Qtv (l:List Int):∀r∈l.map Qe,∀v∈r,v.sca=true:=Qux (fun _=>rfl) l
def QuX (x:(List ByteArray)):List V:=[.sl 1 (x.map Qdg)]
def Qv (x:Qz):List V:=[.s x.Name,.i .i64 x.Kind,.i .i64 x.Lo,.i .i64 x.Hi,.sl 1 (x.Names.map Qdg),.i .i64 x.First,.i .i64 x.Then]
def Qr2 (x:(List Qz)):List V:=[.sl 7 (x.map Qv)]
def Qs (x:(Int×Int)):List V:=[.i .i64 x.1,.i .i64 x.2]
def Qf (x:(List (Int×Int))):List V:=[.sl 2 (x.map Qs)]
def Qt (x:QB):List V:=[.s x.Name,.i .i64 x.Colour,.sl 2 (x.First.map Qs)]
def Qso (x:(List QB)):List V:=[.sl 3 (x.map Qt)]
def QC (x:TVar):List V:=[.s x.Name,.i .i64 x.Colour]
def Qbp (x:(List TVar)):List V:=[.sl 2 (x.map QC)]
mutual
def Qm2 : Qh→List V
 | ⟨x0,x1,x2⟩=>[.i .i64 x0,.i .i64 x1,.sl 3 (QaD x2)]
def QaD : List Qh→List (List V)
 | []=>[]
 | e::es=>Qm2 e::QaD es
end
def Ql (x:Qh):List V:=[.i .i64 x.Kind,.i .i64 x.Num,.sl 3 (QaD x.Kids)]
theorem Qrh : ∀x:Qh,Qm2 x=Ql x
 | ⟨x0,x1,x2⟩=>by rw [Qm2];rfl
theorem Qh1 : ∀l:List Qh,QaD l=l.map Ql
 | []=>by rw [QaD];rfl
 | e::es=>by rw [QaD,Qh1 es,Qrh];rfl
theorem Qh2 (l:List Qh):(QaD l).length=l.length:=by rw [Qh1,List.length_map]
theorem Qdh {l:List Qh}{j:Int}{x:Qh}(h:idx l j=some x):0≤j∧(QaD l)[j.toNat]? = some (Ql x):=by rw [Qh1];exact idxM h
def QP (x:TArc):List V:=[.i .i64 x.Place,.i .i64 x.Expr.Kind,.i .i64 x.Expr.Num,.sl 3 (QaD x.Expr.Kids)]
def Qtw (x:(List TArc)):List V:=[.sl 4 (x.map QP)]
def Qw (x:(List Int)):List V:=[.sl 1 (x.map Qe)]
def QqI (x:(Int×Int×Int)):List V:=[.i .i64 x.1,.i .i64 x.2.1,.i .i64 x.2.2]
def Qi (x:Qr):List V:=[.s x.Name,.sl 2 (x.Vars.map QC),.i .i64 x.Guard.Kind,.i .i64 x.Guard.Num,.sl 3 (QaD x.Guard.Kids),.i .i64 x.Join,.i .i64 x.Split,.sl 4 (x.Ins.map QP),.sl 4 (x.Outs.map QP),.sl 1 (x.Cancel.map Qe),.i .i64 x.After,.i .i64 x.Many.1,.i .i64 x.Many.2.1,.i .i64 x.Many.2.2]
def Qs0 (x:(List Qr)):List V:=[.sl 14 (x.map Qi)]
def Qd (x:TNet):List V:=[.sl 7 (x.Colours.map Qv),.sl 3 (x.Places.map Qt),.sl 14 (x.Tasks.map Qi),.i .i64 x.From,.i .i64 x.To]
def Qj (x:Qk):List V:=[.i .i64 x.Task,.sl 1 (x.Vars.map Qe),.sl 1 (x.Ins.map Qe),.sl 1 (x.Outs.map Qe)]
def QT (x:(List (List (Int×Int)))):List V:=[.sl 1 (x.map Qf)]
def Qo (x:QA):List V:=[.sl 7 (x.net.Colours.map Qv),.sl 3 (x.net.Places.map Qt),.sl 14 (x.net.Tasks.map Qi),.i .i64 x.net.From,.i .i64 x.net.To,.sl 1 (x.m.map Qf),.s x.task.Name,.sl 2 (x.task.Vars.map QC),.i .i64 x.task.Guard.Kind,.i .i64 x.task.Guard.Num,.sl 3 (QaD x.task.Guard.Kids),.i .i64 x.task.Join,.i .i64 x.task.Split,.sl 4 (x.task.Ins.map QP),.sl 4 (x.task.Outs.map QP),.sl 1 (x.task.Cancel.map Qe),.i .i64 x.task.After,.i .i64 x.task.Many.1,.i .i64 x.task.Many.2.1,.i .i64 x.task.Many.2.2,.sl 1 (x.env.map Qe)]
def QK (x:Qab):List V:=[.sl 7 (x.all.map Qv),.sl 1 (x.sizes.map Qe),.i .i64 x.k]
def QE (x:(List (List Int))):List V:=[.sl 1 (x.map Qw)]
def Qs1 (x:(List Qk)):List V:=[.sl 4 (x.map Qj)]
def Qcp (x:Qdz):List V:=[.i .i64 x.Kind,.i .i64 x.At]
def Qev (fn:Nat):QfT:=rfOf Tryz.f201 0 fn
def Qap (fn:Nat):QfT:=rfOf Tryz.f88 0 fn
theorem Quq (a0 a1 b0 b1:Int):EqT Tryz.prog 40 [.int .i64 a0,.int .i64 a1] [.int .i64 b0,.int .i64 b1] ((a0==b0)&&(a1==b1)):=by
 refine⟨by kernel_rfl,fun w=>?_⟩
 have u3:=Tryz.underlying3
 have g3:=Tryz.isAgg3
 have z3:=Tryz.sizeOf3
 show(Op.equalIn (9999+1) 40 (.agg #[.int .i64 a0,.int .i64 a1]) (.agg #[.int .i64 b0,.int .i64 b1])).run Tryz.prog w=_
 rw [Op.equalIn]
 simp only [Sem.run_bind,run_underlying Tryz.underlying40,Result.andThen_ok]
 simp only [Std.Legacy.Range.forIn_eq_forIn_range',Std.Legacy.Range.size,Nat.sub_zero,Nat.add_sub_cancel,Nat.div_one,List.range'_succ,List.range'_zero,List.forIn_cons,List.forIn_nil]
 go_simp
 by_cases h0:a0=b0<;>by_cases h1:a1=b1<;>simp [h0,h1]
theorem Qva (a0 a1 a2 b0 b1 b2:Int):EqT Tryz.prog 53 [.int .i64 a0,.int .i64 a1,.int .i64 a2] [.int .i64 b0,.int .i64 b1,.int .i64 b2] ((a0==b0)&&((a1==b1)&&(a2==b2))):=by
 refine⟨by kernel_rfl,fun w=>?_⟩
 have u3:=Tryz.underlying3
 have g3:=Tryz.isAgg3
 have z3:=Tryz.sizeOf3
 show(Op.equalIn (9999+1) 53 (.agg #[.int .i64 a0,.int .i64 a1,.int .i64 a2]) (.agg #[.int .i64 b0,.int .i64 b1,.int .i64 b2])).run Tryz.prog w=_
 rw [Op.equalIn]
 simp only [Sem.run_bind,run_underlying Tryz.underlying53,Result.andThen_ok]
 simp only [Std.Legacy.Range.forIn_eq_forIn_range',Std.Legacy.Range.size,Nat.sub_zero,Nat.add_sub_cancel,Nat.div_one,List.range'_succ,List.range'_zero,List.forIn_cons,List.forIn_nil]
 go_simp
 by_cases h0:a0=b0<;>by_cases h1:a1=b1<;>by_cases h2:a2=b2<;>simp [h0,h1,h2]
theorem Quz : QnZ Tryz.prog 94 1=some (1,false,1):=by kernel_rfl
theorem QuA : QnZ Tryz.prog 94 2=some (2,false,1):=by kernel_rfl
def Qt7 : Go.Shelf.Ren:=⟨fun | 157=>238 | 199=>251 | 229=>250 | 261=>258 | 311=>261 | 312=>262 | n=>n,fun | 0=>0 | 3=>3 | 4=>4 | 5=>5 | 9=>9 | 21=>21 | 31=>92 | 40=>238 | 46=>196 | 49=>258 | 51=>219 | 119=>236 | 141=>250 | 152=>246 | 154=>248 | 193=>254 | 194=>255 | 196=>257 | 198=>260 | 201=>263 | 226=>265 | 227=>266 | n=>n,fun | 0=>0 | 6=>1 | n=>n⟩
theorem Qtx : Lays.n157 Tryz.prog Qt7 where
 mixed:=by kernel_rfl
 f157:=Tryz.func238.trans (congrArg some (by kernel_rfl))
 f199:=Tryz.func251.trans (congrArg some (by kernel_rfl))
 f229:=Tryz.func250.trans (congrArg some (by kernel_rfl))
 f261:=Tryz.func258.trans (congrArg some (by kernel_rfl))
 f311:=Tryz.func261.trans (congrArg some (by kernel_rfl))
 f312:=Tryz.func262.trans (congrArg some (by kernel_rfl))
 t0:=Tryz.underlying0
 a0:=Tryz.isAgg0
 z0:=Tryz.sizeOf0
 v0:=Tryz.zeroValue0
 t3:=Tryz.underlying3
 a3:=Tryz.isAgg3
 z3:=Tryz.sizeOf3
 v3:=Tryz.zeroValue3
 t4:=Tryz.underlying4
 a4:=Tryz.isAgg4
 z4:=Tryz.sizeOf4
 v4:=Tryz.zeroValue4
 t5:=Tryz.underlying5
 a5:=Tryz.isAgg5
 z5:=Tryz.sizeOf5
 v5:=Tryz.zeroValue5
 t9:=Tryz.underlying9
 a9:=Tryz.isAgg9
 z9:=Tryz.sizeOf9
 v9:=Tryz.zeroValue9
 t21:=Tryz.underlying21
 a21:=Tryz.isAgg21
 z21:=Tryz.sizeOf21
 v21:=Tryz.zeroValue21
 t31:=Tryz.underlying92
 a31:=Tryz.isAgg92
 z31:=Tryz.sizeOf92
 v31:=Tryz.zeroValue92
 t40:=Tryz.underlying238
 a40:=Tryz.isAgg238
 z40:=Tryz.sizeOf238
 v40:=Tryz.zeroValue238
 t46:=Tryz.underlying196
 a46:=Tryz.isAgg196
 z46:=Tryz.sizeOf196
 v46:=Tryz.zeroValue196
 t49:=Tryz.underlying258
 a49:=Tryz.isAgg258
 z49:=Tryz.sizeOf258
 v49:=Tryz.zeroValue258
 t51:=Tryz.underlying219
 a51:=Tryz.isAgg219
 z51:=Tryz.sizeOf219
 v51:=Tryz.zeroValue219
 t119:=Tryz.underlying236
 a119:=Tryz.isAgg236
 z119:=Tryz.sizeOf236
 t141:=Tryz.underlying250
 a141:=Tryz.isAgg250
 z141:=Tryz.sizeOf250
 v141:=Tryz.zeroValue250
 t152:=Tryz.underlying246
 a152:=Tryz.isAgg246
 z152:=Tryz.sizeOf246
 v152:=Tryz.zeroValue246
 t154:=Tryz.underlying248
 a154:=Tryz.isAgg248
 z154:=Tryz.sizeOf248
 v154:=Tryz.zeroValue248
 t193:=Tryz.underlying254
 a193:=Tryz.isAgg254
 z193:=Tryz.sizeOf254
 v193:=Tryz.zeroValue254
 t194:=Tryz.underlying255
 a194:=Tryz.isAgg255
 z194:=Tryz.sizeOf255
 v194:=Tryz.zeroValue255
 t196:=Tryz.underlying257
 a196:=Tryz.isAgg257
 z196:=Tryz.sizeOf257
 v196:=Tryz.zeroValue257
 t198:=Tryz.underlying260
 a198:=Tryz.isAgg260
 z198:=Tryz.sizeOf260
 v198:=Tryz.zeroValue260
 t201:=Tryz.underlying263
 a201:=Tryz.isAgg263
 z201:=Tryz.sizeOf263
 v201:=Tryz.zeroValue263
 t226:=Tryz.underlying265
 a226:=Tryz.isAgg265
 z226:=Tryz.sizeOf265
 v226:=Tryz.zeroValue265
 t227:=Tryz.underlying266
 a227:=Tryz.isAgg266
 z227:=Tryz.sizeOf266
 v227:=Tryz.zeroValue266
 g0:=by kernel_rfl
 g6:=by kernel_rfl
theorem Qn0 : intT Tryz.prog 221 .u64=true:=by kernel_rfl
theorem it_3 : intT Tryz.prog 3 .i64=true:=by kernel_rfl
theorem ky_3 : QfU Tryz.prog 3 (V.i .i64) (Value.int .i64):=QfU.int (by kernel_rfl)
theorem ky_9 : QfU Tryz.prog 9 V.s Value.string:=QfU.str (by kernel_rfl)
theorem mixed : Tryz.prog.follows .mixedOrders=true:=by kernel_rfl
theorem Qp5 : mapT Tryz.prog 202=some (9,4):=by kernel_rfl
theorem QgD : mapT Tryz.prog 79=some (3,3):=by kernel_rfl
def Qt8 : Go.Shelf.Ren:=⟨fun | 125=>194 | 128=>221 | 129=>222 | 189=>143 | 215=>245 | 216=>218 | 257=>193 | 294=>212 | 295=>213 | 296=>214 | 297=>215 | 298=>216 | 299=>217 | 300=>219 | 301=>220 | 328=>240 | 329=>241 | 330=>242 | 331=>243 | 332=>244 | 343=>252 | n=>n,fun | 0=>0 | 3=>3 | 4=>4 | 5=>5 | 9=>9 | 28=>29 | 46=>196 | 51=>219 | 53=>221 | 131=>132 | 182=>211 | 183=>212 | 218=>229 | 222=>233 | 228=>239 | 229=>240 | n=>n,fun n=>n⟩
theorem Qty : Lays.n189 Tryz.prog Qt8 where
 mixed:=by kernel_rfl
 f125:=Tryz.func194.trans (congrArg some (by kernel_rfl))
 f128:=Tryz.func221.trans (congrArg some (by kernel_rfl))
 f129:=Tryz.func222.trans (congrArg some (by kernel_rfl))
 f189:=Tryz.func143.trans (congrArg some (by kernel_rfl))
 f215:=Tryz.func245.trans (congrArg some (by kernel_rfl))
 f216:=Tryz.func218.trans (congrArg some (by kernel_rfl))
 f257:=Tryz.func193.trans (congrArg some (by kernel_rfl))
 f294:=Tryz.func212.trans (congrArg some (by kernel_rfl))
 f295:=Tryz.func213.trans (congrArg some (by kernel_rfl))
 f296:=Tryz.func214.trans (congrArg some (by kernel_rfl))
 f297:=Tryz.func215.trans (congrArg some (by kernel_rfl))
 f298:=Tryz.func216.trans (congrArg some (by kernel_rfl))
 f299:=Tryz.func217.trans (congrArg some (by kernel_rfl))
 f300:=Tryz.func219.trans (congrArg some (by kernel_rfl))
 f301:=Tryz.func220.trans (congrArg some (by kernel_rfl))
 f328:=Tryz.func240.trans (congrArg some (by kernel_rfl))
 f329:=Tryz.func241.trans (congrArg some (by kernel_rfl))
 f330:=Tryz.func242.trans (congrArg some (by kernel_rfl))
 f331:=Tryz.func243.trans (congrArg some (by kernel_rfl))
 f332:=Tryz.func244.trans (congrArg some (by kernel_rfl))
 f343:=Tryz.func252.trans (congrArg some (by kernel_rfl))
 t0:=Tryz.underlying0
 a0:=Tryz.isAgg0
 z0:=Tryz.sizeOf0
 v0:=Tryz.zeroValue0
 t3:=Tryz.underlying3
 a3:=Tryz.isAgg3
 z3:=Tryz.sizeOf3
 v3:=Tryz.zeroValue3
 t4:=Tryz.underlying4
 a4:=Tryz.isAgg4
 z4:=Tryz.sizeOf4
 v4:=Tryz.zeroValue4
 t5:=Tryz.underlying5
 a5:=Tryz.isAgg5
 z5:=Tryz.sizeOf5
 v5:=Tryz.zeroValue5
 t9:=Tryz.underlying9
 a9:=Tryz.isAgg9
 z9:=Tryz.sizeOf9
 v9:=Tryz.zeroValue9
 t28:=Tryz.underlying29
 a28:=Tryz.isAgg29
 z28:=Tryz.sizeOf29
 v28:=Tryz.zeroValue29
 t46:=Tryz.underlying196
 a46:=Tryz.isAgg196
 z46:=Tryz.sizeOf196
 v46:=Tryz.zeroValue196
 t51:=Tryz.underlying219
 a51:=Tryz.isAgg219
 z51:=Tryz.sizeOf219
 v51:=Tryz.zeroValue219
 t53:=Tryz.underlying221
 a53:=Tryz.isAgg221
 z53:=Tryz.sizeOf221
 v53:=Tryz.zeroValue221
 t131:=Tryz.underlying132
 a131:=Tryz.isAgg132
 z131:=Tryz.sizeOf132
 v131:=Tryz.zeroValue132
 t182:=Tryz.underlying211
 a182:=Tryz.isAgg211
 z182:=Tryz.sizeOf211
 v182:=Tryz.zeroValue211
 t183:=Tryz.underlying212
 a183:=Tryz.isAgg212
 z183:=Tryz.sizeOf212
 v183:=Tryz.zeroValue212
 t218:=Tryz.underlying229
 a218:=Tryz.isAgg229
 z218:=Tryz.sizeOf229
 v218:=Tryz.zeroValue229
 t222:=Tryz.underlying233
 a222:=Tryz.isAgg233
 z222:=Tryz.sizeOf233
 v222:=Tryz.zeroValue233
 t228:=Tryz.underlying239
 a228:=Tryz.isAgg239
 z228:=Tryz.sizeOf239
 v228:=Tryz.zeroValue239
 t229:=Tryz.underlying240
 a229:=Tryz.isAgg240
 z229:=Tryz.sizeOf240
 v229:=Tryz.zeroValue240
theorem QuY : Tryz.prog.underlying 160=some (.slice 29):=by kernel_rfl
theorem Qvb : Tryz.prog.underlying 28=some (.slice 35):=by kernel_rfl
theorem Qvc : Tryz.prog.underlying 29=some (.slice 3):=by kernel_rfl
theorem Qvd : Tryz.prog.underlying 35=some (.slice 40):=by kernel_rfl
theorem zi_3 : Qjm Tryz.prog 3 ((V.i .i64) 0):=Qjm.one (v:=.int .i64 0) (by kernel_rfl)
theorem zi_4 : Qjm Tryz.prog 4 (V.b false):=Qjm.one (v:=.bool false) (by kernel_rfl)
theorem zv_3 : Qao Tryz.prog 3=some [.i .i64 0]:=by kernel_rfl
theorem Qve : Qao Tryz.prog 26=some [.lit (.slice none 0 0),.lit (.slice none 0 0),.lit (.slice none 0 0),.i .i64 0,.i .i64 0]:=by kernel_rfl
theorem Qur : Qao Tryz.prog 29=some [.lit (.slice none 0 0)]:=by kernel_rfl
theorem Qvf : Qao Tryz.prog 31=some [.i .i64 0,.lit (.slice none 0 0),.lit (.slice none 0 0),.lit (.slice none 0 0)]:=by kernel_rfl
theorem Qvg : Qao Tryz.prog 35=some [.lit (.slice none 0 0)]:=by kernel_rfl
theorem Qvh : Qao Tryz.prog 36=some [.i .i64 0]:=by kernel_rfl
theorem Qvi : Qao Tryz.prog 40=some [.i .i64 0,.i .i64 0]:=by kernel_rfl
theorem Qvj : Qao Tryz.prog 42=some [.lit (.slice none 0 0)]:=by kernel_rfl
theorem Qvk : Qao Tryz.prog 51=some [.i .i64 0,.i .i64 0,.lit (.slice none 0 0)]:=by kernel_rfl
theorem Qvl : Qao Tryz.prog 53=some [.i .i64 0,.i .i64 0,.i .i64 0]:=by kernel_rfl
theorem Qvm : Qao Tryz.prog 55=some [.s (⟨#[]⟩:ByteArray),.lit (.slice none 0 0),.i .i64 0,.i .i64 0,.lit (.slice none 0 0),.i .i64 0,.i .i64 0,.lit (.slice none 0 0),.lit (.slice none 0 0),.lit (.slice none 0 0),.i .i64 0,.i .i64 0,.i .i64 0,.i .i64 0]:=by kernel_rfl
theorem Qvn : Qao Tryz.prog 67=some [.i .i64 0,.i .i64 0]:=by kernel_rfl
theorem Qvo : Qao Tryz.prog 89=some [.s (⟨#[]⟩:ByteArray),.i .i64 0,.lit (.slice none 0 0)]:=by kernel_rfl
theorem Qvp : Qao Tryz.prog 94=some [.s (⟨#[]⟩:ByteArray),.i .i64 0,.i .i64 0,.i .i64 0,.lit (.slice none 0 0),.i .i64 0,.i .i64 0]:=by kernel_rfl
theorem Qvq : Qao Tryz.prog 96=some [.s (⟨#[]⟩:ByteArray),.i .i64 0]:=by kernel_rfl
theorem Qvr : Qao Tryz.prog 98=some [.i .i64 0,.i .i64 0,.i .i64 0,.lit (.slice none 0 0)]:=by kernel_rfl
theorem Qkt : Qao Tryz.prog 102=some [.lit (.nilFunc),.i .i64 0]:=by kernel_rfl
theorem QuZ : Qao Tryz.prog 113=some [.lit (.slice none 0 0),.lit (.slice none 0 0),.lit (.slice none 0 0),.i .i64 0,.i .i64 0,.lit (.slice none 0 0),.s (⟨#[]⟩:ByteArray),.lit (.slice none 0 0),.i .i64 0,.i .i64 0,.lit (.slice none 0 0),.i .i64 0,.i .i64 0,.lit (.slice none 0 0),.lit (.slice none 0 0),.lit (.slice none 0 0),.i .i64 0,.i .i64 0,.i .i64 0,.i .i64 0,.lit (.slice none 0 0)]:=by kernel_rfl
theorem Qu0 : Qao Tryz.prog 136=some [.lit (.slice none 0 0),.lit (.slice none 0 0),.i .i64 0]:=by kernel_rfl
theorem Qu1 : Qao Tryz.prog 146=some [.lit (.nilFunc)]:=by kernel_rfl
theorem Qu2 : Qao Tryz.prog 151=some [.lit (.nilFunc)]:=by kernel_rfl
theorem Qu3 : Qao Tryz.prog 160=some [.lit (.slice none 0 0)]:=by kernel_rfl
theorem Qu4 : Qao Tryz.prog 183=some [.lit (.nilFunc)]:=by kernel_rfl
def tab : Tab:={ ag:=[(3,false),(9,false),(22,false),(23,false),(24,false),(26,true),(28,false),(29,false),(31,true),(32,false),(35,false),(36,false),(40,true),(42,false),(48,false),(49,false),(51,true),(52,false),(53,true),(55,true),(67,true),(79,false),(89,true),(92,false),(94,true),(96,true),(98,true),(102,true),(113,true),(116,false),(136,true),(146,false),(151,false),(154,false),(160,false),(183,false)],sz:=[(3,1),(26,5),(29,1),(31,4),(35,1),(36,1),(40,2),(42,1),(51,3),(53,3),(55,14),(67,2),(89,3),(94,7),(96,2),(98,4),(102,2),(113,21),(136,3),(146,1),(151,1),(160,1),(183,1)],fo:=[(26,[0,1,2,3,4]),(31,[0,1,2,3]),(51,[0,1,2]),(55,[0,1,2,5,6,7,8,9,10,11]),(89,[0,1,2]),(94,[0,1,2,3,4,5,6]),(96,[0,1]),(98,[0,1]),(102,[0,1]),(113,[0,5,6,20]),(136,[0,1,2])],sp:=[(26,[(0,1),(1,1),(2,1),(3,1),(4,1)]),(31,[(0,1),(1,1),(2,1),(3,1)]),(51,[(0,1),(1,1),(2,1)]),(55,[(0,1),(1,1),(2,3),(5,1),(6,1),(7,1),(8,1),(9,1),(10,1),(11,3)]),(67,[(0,1),(1,1)]),(89,[(0,1),(1,1),(2,1)]),(94,[(0,1),(1,1),(2,1),(3,1),(4,1),(5,1),(6,1)]),(96,[(0,1),(1,1)]),(98,[(0,1),(1,3)]),(102,[(0,1),(1,1)]),(113,[(0,5),(5,1),(6,14),(20,1)]),(136,[(0,1),(1,1),(2,1)])],es:=[(22,(94,7,80)),(23,(89,3,48)),(24,(55,14,200)),(28,(35,1,24)),(29,(3,1,8)),(35,(40,2,16)),(42,(31,4,80)),(48,(96,2,24)),(49,(51,3,40)),(52,(98,4,48)),(92,(9,1,16)),(140,(102,2,16)),(160,(29,1,24)),(174,(3,1,8))],ar:=[(40,(2,1)),(53,(3,1))],zv:=[(3,[.i .i64 0]),(26,[.lit (.slice none 0 0),.lit (.slice none 0 0),.lit (.slice none 0 0),.i .i64 0,.i .i64 0]),(29,[.lit (.slice none 0 0)]),(31,[.i .i64 0,.lit (.slice none 0 0),.lit (.slice none 0 0),.lit (.slice none 0 0)]),(35,[.lit (.slice none 0 0)]),(36,[.i .i64 0]),(40,[.i .i64 0,.i .i64 0]),(42,[.lit (.slice none 0 0)]),(51,[.i .i64 0,.i .i64 0,.lit (.slice none 0 0)]),(53,[.i .i64 0,.i .i64 0,.i .i64 0]),(55,[.s (⟨#[]⟩:ByteArray),.lit (.slice none 0 0),.i .i64 0,.i .i64 0,.lit (.slice none 0 0),.i .i64 0,.i .i64 0,.lit (.slice none 0 0),.lit (.slice none 0 0),.lit (.slice none 0 0),.i .i64 0,.i .i64 0,.i .i64 0,.i .i64 0]),(67,[.i .i64 0,.i .i64 0]),(89,[.s (⟨#[]⟩:ByteArray),.i .i64 0,.lit (.slice none 0 0)]),(94,[.s (⟨#[]⟩:ByteArray),.i .i64 0,.i .i64 0,.i .i64 0,.lit (.slice none 0 0),.i .i64 0,.i .i64 0]),(96,[.s (⟨#[]⟩:ByteArray),.i .i64 0]),(98,[.i .i64 0,.i .i64 0,.i .i64 0,.lit (.slice none 0 0)]),(102,[.lit (.nilFunc),.i .i64 0]),(113,[.lit (.slice none 0 0),.lit (.slice none 0 0),.lit (.slice none 0 0),.i .i64 0,.i .i64 0,.lit (.slice none 0 0),.s (⟨#[]⟩:ByteArray),.lit (.slice none 0 0),.i .i64 0,.i .i64 0,.lit (.slice none 0 0),.i .i64 0,.i .i64 0,.lit (.slice none 0 0),.lit (.slice none 0 0),.lit (.slice none 0 0),.i .i64 0,.i .i64 0,.i .i64 0,.i .i64 0,.lit (.slice none 0 0)]),(136,[.lit (.slice none 0 0),.lit (.slice none 0 0),.i .i64 0]),(146,[.lit (.nilFunc)]),(151,[.lit (.nilFunc)]),(160,[.lit (.slice none 0 0)]),(183,[.lit (.nilFunc)])],sb:=[9],bo:=[4],cc:=[],en:=[8,9,10,12,14,16,18,19,22,24,25,26,27,28,29,30,31,32,33,34,35,36,40,41,43,45,47,48,49,50,51,52,53,54,55,56,57,58,59,60,61,62,63,64,65,66,67,68,69,70,71,72,73,74,75,85,86,88,90,91,92,93,94,95,96,97,98,99,100,101,102,103,104,105,106,107,108,109,110,111,112,113,114,115,116,117,118,119,120,121,122,123,124,125,126,127,128,129,130,131,132,133,134,135,136,137,138,139,140,141,142,143,153,154,155,156,158,159,160,161,162,163,164,165,166,167,168,169,170,171,172,173,174,175,176,177,178,179,180,181,182,183,184,185,186,187,188,189,190,191,192,199,201,202,203,204,205,206,207,208,209,210,211,230,231,232,233,234,235,236,237,238,239,248,249,253,254,255,256,257,259,260] }
theorem Qp : Qcy Tryz.prog tab:=Tab.ok (by kernel_rfl) (List.forall_mem_cons.2 ⟨zv_3,List.forall_mem_cons.2 ⟨Qve,List.forall_mem_cons.2 ⟨Qur,List.forall_mem_cons.2 ⟨Qvf,List.forall_mem_cons.2 ⟨Qvg,List.forall_mem_cons.2 ⟨Qvh,List.forall_mem_cons.2 ⟨Qvi,List.forall_mem_cons.2 ⟨Qvj,List.forall_mem_cons.2 ⟨Qvk,List.forall_mem_cons.2 ⟨Qvl,List.forall_mem_cons.2 ⟨Qvm,List.forall_mem_cons.2 ⟨Qvn,List.forall_mem_cons.2 ⟨Qvo,List.forall_mem_cons.2 ⟨Qvp,List.forall_mem_cons.2 ⟨Qvq,List.forall_mem_cons.2 ⟨Qvr,List.forall_mem_cons.2 ⟨Qkt,List.forall_mem_cons.2 ⟨QuZ,List.forall_mem_cons.2 ⟨Qu0,List.forall_mem_cons.2 ⟨Qu1,List.forall_mem_cons.2 ⟨Qu2,List.forall_mem_cons.2 ⟨Qu3,List.forall_mem_cons.2 ⟨Qu4,fun _ h=>(by cases h)⟩⟩⟩⟩⟩⟩⟩⟩⟩⟩⟩⟩⟩⟩⟩⟩⟩⟩⟩⟩⟩⟩⟩)
theorem Qa {C:Ctx}{Q:Exit→St→Prop}{n:Nat}{pt pt1:Pt}{ks ks1:List Fr}{σ σ1:St}{φ:Prop}(hC:Qd5 Tryz.prog C n)(ds:List Dir)(e:Vm.go Tryz.prog C tab n ds pt ks σ True=some ⟨pt1,ks1,σ1,φ⟩)(hφ:φ)(h:AK Tryz.prog C Q pt1 ks1 σ1):AK Tryz.prog C Q pt ks σ:=AK.go Qp hC ds e hφ h
theorem tt_ : True:=trivial
theorem an_ {a b:Prop}(x:a)(y:b):a∧b:=⟨x,y⟩
theorem ex_ {α:Sort _}{p:α→Prop}(w:α)(h:p w):∃x,p x:=⟨w,h⟩
def Qmb  : Option TNet:=
 some (TNet.mk ([(Qz.mk (⟨#[110]⟩:ByteArray) 1 0 3 ([]:(List ByteArray)) 0 0)]:List Qz) ([(QB.mk (⟨#[97]⟩:ByteArray) 0 ([]:(List (Int×Int)))),(QB.mk (⟨#[98]⟩:ByteArray) 0 ([]:(List (Int×Int)))),(QB.mk (⟨#[99]⟩:ByteArray) 0 ([]:(List (Int×Int))))]:List QB) ([(Qr.mk (⟨#[116]⟩:ByteArray) ([(TVar.mk (⟨#[120]⟩:ByteArray) 0)]:List TVar) (Qh.mk 1 1 ([]:(List Qh))) 1 1 ([(TArc.mk 0 (Qh.mk 2 0 ([]:(List Qh))))]:List TArc) ([(TArc.mk 1 (Qh.mk 5 1 ([(Qh.mk 2 0 ([]:(List Qh))),(Qh.mk 1 1 ([]:(List Qh)))]:List Qh)))]:List TArc) ([2]:List Int) 0 (0,0,0))]:List Qr) 0 1)
theorem QqJ  {r:TNet}(h:Qmb  = some r):Qc Tryz.prog 29 [] [] (Gives (.agg (Qd r)) []):=by
 refine Qc.walk 29 Tryz.func29 rfl Tryz.ntmps29 rfl fun C hC=>?_
 unfold Qmb at h
 refine Qa hC [.n 7,.v .no [none,none,some 3] (.agg (Ql (Qh.mk 2 0 ([]:(List Qh))))),.n 2,.sayO 1 (.var (Ql (Qh.mk 2 0 ([]:(List Qh))))),.n 4,.v .no [none,none,some 3] (.agg (Ql (Qh.mk 1 1 ([]:(List Qh))))),.n 2,.sayO 2 (.var (Ql (Qh.mk 1 1 ([]:(List Qh))))),.n 4,.v .no [] (.agg (Ql (Qh.mk 2 0 ([]:(List Qh))))),.v .no [] (.agg (Ql (Qh.mk 1 1 ([]:(List Qh))))),.v (.bd []) [] (.sl 3 (QaD ([(Qh.mk 2 0 ([]:(List Qh))),(Qh.mk 1 1 ([]:(List Qh)))]:List Qh))),.v .no [] (.agg (Ql (Qh.mk 5 1 ([(Qh.mk 2 0 ([]:(List Qh))),(Qh.mk 1 1 ([]:(List Qh)))]:List Qh)))),.n 2,.sayO 3 (.var (Ql (Qh.mk 5 1 ([(Qh.mk 2 0 ([]:(List Qh))),(Qh.mk 1 1 ([]:(List Qh)))]:List Qh)))),.n 4,.v .no [none,none,none,none,some 1,none,none] (.agg (Qv (Qz.mk (⟨#[110]⟩:ByteArray) 1 0 3 ([]:(List ByteArray)) 0 0))),.v (.bd []) [] (.sl 7 (([(Qz.mk (⟨#[110]⟩:ByteArray) 1 0 3 ([]:(List ByteArray)) 0 0)]:List Qz).map Qv)),.v .no [none,none,some 2] (.agg (Qt (QB.mk (⟨#[97]⟩:ByteArray) 0 ([]:(List (Int×Int)))))),.v .no [none,none,some 2] (.agg (Qt (QB.mk (⟨#[98]⟩:ByteArray) 0 ([]:(List (Int×Int)))))),.v .no [none,none,some 2] (.agg (Qt (QB.mk (⟨#[99]⟩:ByteArray) 0 ([]:(List (Int×Int)))))),.v (.bd []) [] (.sl 3 (([(QB.mk (⟨#[97]⟩:ByteArray) 0 ([]:(List (Int×Int)))),(QB.mk (⟨#[98]⟩:ByteArray) 0 ([]:(List (Int×Int)))),(QB.mk (⟨#[99]⟩:ByteArray) 0 ([]:(List (Int×Int))))]:List QB).map Qt)),.v .no [] (.agg (QC (TVar.mk (⟨#[120]⟩:ByteArray) 0))),.v (.bd []) [] (.sl 2 (([(TVar.mk (⟨#[120]⟩:ByteArray) 0)]:List TVar).map QC)),.v .no [] (.agg (Ql (Qh.mk 1 1 ([]:(List Qh))))),.v .no [] (.agg (Ql (Qh.mk 2 0 ([]:(List Qh))))),.v .no [] (.agg (QP (TArc.mk 0 (Qh.mk 2 0 ([]:(List Qh)))))),.v (.bd []) [] (.sl 4 (([(TArc.mk 0 (Qh.mk 2 0 ([]:(List Qh))))]:List TArc).map QP)),.v .no [] (.agg (Ql (Qh.mk 5 1 ([(Qh.mk 2 0 ([]:(List Qh))),(Qh.mk 1 1 ([]:(List Qh)))]:List Qh)))),.v .no [] (.agg (QP (TArc.mk 1 (Qh.mk 5 1 ([(Qh.mk 2 0 ([]:(List Qh))),(Qh.mk 1 1 ([]:(List Qh)))]:List Qh))))),.v (.bd []) [] (.sl 4 (([(TArc.mk 1 (Qh.mk 5 1 ([(Qh.mk 2 0 ([]:(List Qh))),(Qh.mk 1 1 ([]:(List Qh)))]:List Qh)))]:List TArc).map QP)),.v (.bd []) [] (.sl 1 (([2]:List Int).map Qe)),.v .no [] (.agg (Qi (Qr.mk (⟨#[116]⟩:ByteArray) ([(TVar.mk (⟨#[120]⟩:ByteArray) 0)]:List TVar) (Qh.mk 1 1 ([]:(List Qh))) 1 1 ([(TArc.mk 0 (Qh.mk 2 0 ([]:(List Qh))))]:List TArc) ([(TArc.mk 1 (Qh.mk 5 1 ([(Qh.mk 2 0 ([]:(List Qh))),(Qh.mk 1 1 ([]:(List Qh)))]:List Qh)))]:List TArc) ([2]:List Int) 0 (0,0,0)))),.v (.bd []) [] (.sl 14 (([(Qr.mk (⟨#[116]⟩:ByteArray) ([(TVar.mk (⟨#[120]⟩:ByteArray) 0)]:List TVar) (Qh.mk 1 1 ([]:(List Qh))) 1 1 ([(TArc.mk 0 (Qh.mk 2 0 ([]:(List Qh))))]:List TArc) ([(TArc.mk 1 (Qh.mk 5 1 ([(Qh.mk 2 0 ([]:(List Qh))),(Qh.mk 1 1 ([]:(List Qh)))]:List Qh)))]:List TArc) ([2]:List Int) 0 (0,0,0))]:List Qr).map Qi)),.v .no [] (.agg (Qd (TNet.mk ([(Qz.mk (⟨#[110]⟩:ByteArray) 1 0 3 ([]:(List ByteArray)) 0 0)]:List Qz) ([(QB.mk (⟨#[97]⟩:ByteArray) 0 ([]:(List (Int×Int)))),(QB.mk (⟨#[98]⟩:ByteArray) 0 ([]:(List (Int×Int)))),(QB.mk (⟨#[99]⟩:ByteArray) 0 ([]:(List (Int×Int))))]:List QB) ([(Qr.mk (⟨#[116]⟩:ByteArray) ([(TVar.mk (⟨#[120]⟩:ByteArray) 0)]:List TVar) (Qh.mk 1 1 ([]:(List Qh))) 1 1 ([(TArc.mk 0 (Qh.mk 2 0 ([]:(List Qh))))]:List TArc) ([(TArc.mk 1 (Qh.mk 5 1 ([(Qh.mk 2 0 ([]:(List Qh))),(Qh.mk 1 1 ([]:(List Qh)))]:List Qh)))]:List TArc) ([2]:List Int) 0 (0,0,0))]:List Qr) 0 1))),.n 1,.sayO 0 (.var (Qd (TNet.mk ([(Qz.mk (⟨#[110]⟩:ByteArray) 1 0 3 ([]:(List ByteArray)) 0 0)]:List Qz) ([(QB.mk (⟨#[97]⟩:ByteArray) 0 ([]:(List (Int×Int)))),(QB.mk (⟨#[98]⟩:ByteArray) 0 ([]:(List (Int×Int)))),(QB.mk (⟨#[99]⟩:ByteArray) 0 ([]:(List (Int×Int))))]:List QB) ([(Qr.mk (⟨#[116]⟩:ByteArray) ([(TVar.mk (⟨#[120]⟩:ByteArray) 0)]:List TVar) (Qh.mk 1 1 ([]:(List Qh))) 1 1 ([(TArc.mk 0 (Qh.mk 2 0 ([]:(List Qh))))]:List TArc) ([(TArc.mk 1 (Qh.mk 5 1 ([(Qh.mk 2 0 ([]:(List Qh))),(Qh.mk 1 1 ([]:(List Qh)))]:List Qh)))]:List TArc) ([2]:List Int) 0 (0,0,0))]:List Qr) 0 1))),.n 3,.keep [0] [0]] rfl ⟨⟨⟨⟨⟨⟨⟨⟨⟨⟨⟨⟨⟨⟨⟨⟨⟨⟨⟨⟨⟨⟨⟨⟨⟨⟨⟨⟨⟨tt_,rfl⟩,rfl⟩,rfl⟩,rfl⟩,rfl⟩,rfl⟩,rfl⟩,rfl⟩,rfl⟩,rfl⟩,rfl⟩,rfl⟩,rfl⟩,rfl⟩,rfl⟩,rfl⟩,rfl⟩,rfl⟩,rfl⟩,rfl⟩,rfl⟩,rfl⟩,rfl⟩,rfl⟩,rfl⟩,rfl⟩,rfl⟩,rfl⟩,rfl⟩ ?_
 cases h
 exact AK.done (ex_ [_] (an_ (an_ (ex_ _ (ex_ _ (an_ rfl (an_ rfl (Or.inl (an_ (Qp.ag rfl) (an_ (Qp.sz rfl) rfl))))))) tt_) (gives tt_)))
def QgR (lo1:Int)(hi2:Int):Option Int:=
 bif (decide (hi2<lo1))then
 some 0
 else
 some (w64 ((w64 (min2 (IntKind.u64.wrap ((IntKind.u64.wrap hi2)-(IntKind.u64.wrap lo1))) 1024))+1))
theorem Qpm (lo1:Int)(hi2:Int){r:Int}(h:QgR lo1 hi2=some r):Qc Tryz.prog 235 [.i .i64 lo1,.i .i64 hi2] [] (Gives (.i .i64 r) []):=by
 refine Qc.walk 16 Tryz.func235 rfl Tryz.ntmps235 rfl fun C hC=>?_
 unfold QgR at h
 refine Qa hC [.n 13] rfl tt_ ?_
 rcases bifE h with⟨hc5,h⟩|⟨hc5,h⟩
 ·refine Qa hC [.br true,.n 7,.keep [4] []] rfl ⟨tt_,hc5⟩ ?_
  cases h
  exact AK.done (ex_ [_] (an_ (an_ rfl tt_) (gives tt_)))
 ·refine Qa hC [.br false,.n 5,.o (.any (.i .u64 (IntKind.u64.wrap hi2)) none),.n 1,.o (.any (.i .u64 (IntKind.u64.wrap lo1)) none),.n 2,.o (.any (.i .i64 (w64 (min2 (IntKind.u64.wrap ((IntKind.u64.wrap hi2)-(IntKind.u64.wrap lo1))) 1024))) none),.n 5,.keep [4] []] rfl ⟨⟨⟨⟨tt_,hc5⟩,(fun σ h1 h2 _=>Stp.convI rfl rfl (bleN hC.n rfl) (h1 _ _ rfl) it_3 Qn0)⟩,(fun σ h1 h2 _=>Stp.convI rfl rfl (bleN hC.n rfl) (h1 _ _ rfl) it_3 Qn0)⟩,(fun σ h1 h2 _=>Stp.convI rfl rfl (bleN hC.n rfl) (h1 _ _ rfl) Qn0 it_3)⟩ ?_
  cases h
  exact AK.done (ex_ [_] (an_ (an_ rfl tt_) (gives tt_)))
def QdA (c1:Int):Option Bool:=
 some (bif (decide (97≤c1))then((decide (c1≤122))||((decide (65≤c1))&&(decide (c1≤90))))else((decide (65≤c1))&&(decide (c1≤90))))
theorem Qku (c1:Int){r:Bool}(h:QdA c1=some r):Qc Tryz.prog 204 [.i .u8 c1] [] (Gives (.b r) []):=by
 refine Qc.walk 17 Tryz.func204 rfl Tryz.ntmps204 rfl fun C hC=>?_
 unfold QdA at h
 refine Qa hC [.n 6] rfl tt_ ?_
 refine AK.meetX (fun σ=>σ=⟨[(2,.b (bif (decide (97≤c1))then((decide (c1≤122))||((decide (65≤c1))&&(decide (c1≤90))))else((decide (65≤c1))&&(decide (c1≤90)))))],[]⟩) ?_ ?_
 ·refine Qa hC [.n 4] rfl tt_ ?_
  rcases QJ (decide (97≤c1))with hc4 | hc4
  ·refine Qa hC [.say 5 (.b true),.n 4] rfl ⟨tt_,(congrArg V.b hc4)⟩ ?_
   rcases QJ (decide (c1≤122))with hc5 | hc5
   ·refine Qa hC [.say 9 (.b true),.n 9,.say 2 (.b (bif (decide (97≤c1))then((decide (c1≤122))||((decide (65≤c1))&&(decide (c1≤90))))else((decide (65≤c1))&&(decide (c1≤90))))),.keep [2] []] rfl ⟨⟨tt_,(congrArg V.b hc5)⟩,(congrArg V.b (bifT hc4 (orT hc5 rfl)))⟩ ?_
    exact AK.met rfl
   ·refine Qa hC [.say 9 (.b false),.n 3] rfl ⟨tt_,(congrArg V.b hc5)⟩ ?_
    rcases QJ (decide (65≤c1))with hc6 | hc6
    ·refine Qa hC [.say 12 (.b true),.n 6,.say 2 (.b (bif (decide (97≤c1))then((decide (c1≤122))||((decide (65≤c1))&&(decide (c1≤90))))else((decide (65≤c1))&&(decide (c1≤90))))),.keep [2] []] rfl ⟨⟨tt_,(congrArg V.b hc6)⟩,(congrArg V.b (bifT hc4 (orF hc5 (andT hc6 rfl))))⟩ ?_
     exact AK.met rfl
    ·refine Qa hC [.say 12 (.b false),.n 6,.say 2 (.b (bif (decide (97≤c1))then((decide (c1≤122))||((decide (65≤c1))&&(decide (c1≤90))))else((decide (65≤c1))&&(decide (c1≤90))))),.keep [2] []] rfl ⟨⟨tt_,(congrArg V.b hc6)⟩,(congrArg V.b (bifT hc4 (orF hc5 (andF hc6 rfl))))⟩ ?_
     exact AK.met rfl
  ·refine Qa hC [.say 5 (.b false),.n 7] rfl ⟨tt_,(congrArg V.b hc4)⟩ ?_
   rcases QJ (decide (65≤c1))with hc7 | hc7
   ·refine Qa hC [.say 12 (.b true),.n 6,.say 2 (.b (bif (decide (97≤c1))then((decide (c1≤122))||((decide (65≤c1))&&(decide (c1≤90))))else((decide (65≤c1))&&(decide (c1≤90))))),.keep [2] []] rfl ⟨⟨tt_,(congrArg V.b hc7)⟩,(congrArg V.b (bifF hc4 (andT hc7 rfl)))⟩ ?_
    exact AK.met rfl
   ·refine Qa hC [.say 12 (.b false),.n 6,.say 2 (.b (bif (decide (97≤c1))then((decide (c1≤122))||((decide (65≤c1))&&(decide (c1≤90))))else((decide (65≤c1))&&(decide (c1≤90))))),.keep [2] []] rfl ⟨⟨tt_,(congrArg V.b hc7)⟩,(congrArg V.b (bifF hc4 (andF hc7 rfl)))⟩ ?_
    exact AK.met rfl
 ·rintro σ rfl
  refine Qa hC [.n 2,.keep [2] []] rfl tt_ ?_
  cases h
  exact AK.done (ex_ [_] (an_ (an_ rfl tt_) (gives tt_)))
def QiW (s1:ByteArray):Option Bool:=
 bif (QgB s1 (⟨#[]⟩:ByteArray))then
 some true
 else
 bif (decide (32<(s1.size:Int)))then
 some true
 else
 (sidx s1 0).bind fun c8=>
 (QdA c8).bind fun x9=>
 some (!x9)
def QiX (c14:Int):Option Bool:=
 (QdA c14).bind fun x17=>
 bif (!x17)then
 bif (decide (c14<48))then
 some (c14 != 95)
 else
 bif (decide (57<c14))then
 some (c14 != 95)
 else
 some false
 else
 some false
def Qew (x11:Int)(x15:Bool):Option (Int⊕(Unit⊕Unit)):=
 bif x15 then
 some (.inr (.inl ()))
 else
 some (.inl (w64 (x11+1)))
def Qc8 (s1:ByteArray)(x11:Int):Option (Int⊕(Unit⊕Unit)):=
 bif (decide (x11<(s1.size:Int)))then
 (sidx s1 x11).bind fun c14=>
 (QiX c14).bind (fun x15=>Qew x11 x15)
 else
 some (.inr (.inr ()))
def Qex : Option Bool:=
 some false
def Qey : Option Bool:=
 some true
def Qez (s1:ByteArray)(x4:Bool):Option Bool:=
 bif x4 then
 some false
 else
 (QF (fun st=>Qc8 s1 st) 0).bind (Sum.elim (fun q=>Qex) (fun q=>Qey))
def QdN (s1:ByteArray):Option Bool:=
 (QiW s1).bind (fun x4=>Qez s1 x4)
theorem QiY (s1:ByteArray){r:Bool}(h:QdN s1=some r):Qc Tryz.prog 164 [.s s1] [] (Gives (.b r) []):=by
 refine Qc.walk 42 Tryz.func164 rfl Tryz.ntmps164 rfl fun C hC=>?_
 unfold QdN at h
 refine Qa hC [.n 7] rfl tt_ ?_
 obtain⟨x4,hv5,h⟩:=Qb h
 replace h:Qez s1 x4=some r:=h
 refine AK.meetX (fun σ=>σ=⟨[(0,.s s1),(17,.b x4)],[]⟩) ?_ ?_
 ·replace h:=hv5
  unfold QiW at h
  refine Qa hC [.n 4] rfl tt_ ?_
  rcases bifE h with⟨hc6,h⟩|⟨hc6,h⟩
  ·refine Qa hC [.say 7 (.b true),.n 11,.keep [0,17] []] rfl ⟨tt_,(congrArg V.b hc6)⟩ ?_
   cases h
   exact AK.met rfl
  ·refine Qa hC [.say 7 (.b false),.n 5] rfl ⟨tt_,(congrArg V.b hc6)⟩ ?_
   rcases bifE h with⟨hc7,h⟩|⟨hc7,h⟩
   ·refine Qa hC [.say 12 (.b true),.n 6,.keep [0,17] []] rfl ⟨tt_,(congrArg V.b hc7)⟩ ?_
    cases h
    exact AK.met rfl
   ·obtain⟨c8,hc8,h⟩:=Qb h
    obtain⟨x9,hx9,h⟩:=Qb h
    refine Qa hC [.say 12 (.b false),.n 1,.o (.num c8),.o (.c false [.d] (.b x9)),.n 3,.keep [0,17] []] rfl ⟨⟨⟨tt_,(congrArg V.b hc7)⟩,hc8⟩,(Qku _ hx9)⟩ ?_
    cases h
    exact AK.met rfl
 ·rintro σ rfl
  replace h:Qez s1 x4=some r:=h
  unfold Qez at h
  refine Qa hC [.n 1] rfl tt_ ?_
  rcases bifE h with⟨hc10,h⟩|⟨hc10,h⟩
  ·refine Qa hC [.br true,.n 7,.keep [2] []] rfl ⟨tt_,hc10⟩ ?_
   cases h
   exact AK.done (ex_ [_] (an_ (an_ rfl tt_) (gives tt_)))
  ·refine Qa hC [.br false,.n 11,.keep [0,19,20] []] rfl ⟨tt_,hc10⟩ ?_
   obtain⟨o22,hl22,h⟩:=Qb h
   refine AK.loop (body:=(fun st=>Qc8 s1 st)) (fun st σ=>σ=⟨[(0,.s s1),(19,.i .i64 (s1.size:Int)),(20,.i .i64 st)],[]⟩) (Sum.elim (fun q e σ=>e=.ret∧σ=⟨[(2,.b false)],[]⟩) (fun q e σ=>e=.exit 0∧σ=⟨[],[]⟩)) hl22 rfl ?_ ?_
   ·rintro x11 o σ rfl h
    replace h:Qc8 s1 x11=some o:=h
    unfold Qc8 at h
    refine Qa hC [.n 6] rfl tt_ ?_
    rcases bifE h with⟨hc13,h⟩|⟨hc13,h⟩
    ·obtain⟨c14,hc14,h⟩:=Qb h
     refine Qa hC [.br true,.n 14,.o (.num c14),.n 4] rfl ⟨⟨tt_,hc13⟩,hc14⟩ ?_
     obtain⟨x15,hv16,h⟩:=Qb h
     replace h:Qew x11 x15=some o:=h
     refine AK.meetX (fun σ=>σ=⟨[(0,.s s1),(19,.i .i64 (s1.size:Int)),(20,.i .i64 x11),(40,.b x15)],[]⟩) ?_ ?_
     ·replace h:=hv16
      unfold QiX at h
      obtain⟨x17,hx17,h⟩:=Qb h
      refine Qa hC [.n 2,.o (.c false [.d] (.b x17)),.n 2] rfl ⟨tt_,(Qku _ hx17)⟩ ?_
      rcases bifE h with⟨hc18,h⟩|⟨hc18,h⟩
      ·refine Qa hC [.say 29 (.b true),.n 3] rfl ⟨tt_,(congrArg V.b hc18)⟩ ?_
       rcases bifE h with⟨hc19,h⟩|⟨hc19,h⟩
       ·refine Qa hC [.say 32 (.b true),.n 9,.keep [0,19,20,40] []] rfl ⟨tt_,(congrArg V.b hc19)⟩ ?_
        cases h
        exact AK.met rfl
       ·refine Qa hC [.say 32 (.b false),.n 5] rfl ⟨tt_,(congrArg V.b hc19)⟩ ?_
        rcases bifE h with⟨hc20,h⟩|⟨hc20,h⟩
        ·refine Qa hC [.say 37 (.b true),.n 4,.keep [0,19,20,40] []] rfl ⟨tt_,(congrArg V.b hc20)⟩ ?_
         cases h
         exact AK.met rfl
        ·refine Qa hC [.say 37 (.b false),.n 4,.keep [0,19,20,40] []] rfl ⟨tt_,(congrArg V.b hc20)⟩ ?_
         cases h
         exact AK.met rfl
      ·refine Qa hC [.say 29 (.b false),.n 12,.keep [0,19,20,40] []] rfl ⟨tt_,(congrArg V.b hc18)⟩ ?_
       cases h
       exact AK.met rfl
     ·rintro σ rfl
      replace h:Qew x11 x15=some o:=h
      unfold Qew at h
      refine Qa hC [.n 1] rfl tt_ ?_
      rcases bifE h with⟨hc21,h⟩|⟨hc21,h⟩
      ·refine Qa hC [.br true,.n 8,.keep [2] []] rfl ⟨tt_,hc21⟩ ?_
       cases h
       exact rndR rfl (an_ rfl rfl)
      ·refine Qa hC [.br false,.n 7,.keep [0,19,20] []] rfl ⟨tt_,hc21⟩ ?_
       cases h
       exact rndN rfl rfl
    ·refine Qa hC [.br false,.n 2,.keep [] []] rfl ⟨tt_,hc13⟩ ?_
     cases h
     exact rndX rfl (an_ rfl rfl)
   ·rcases o22 with(_ | _)
    ·replace h:Qex=some r:=h
     unfold Qex at h
     rintro e σ ⟨rfl,rfl⟩
     refine Qa hC [.n 2,.keep [2] []] rfl tt_ ?_
     cases h
     exact AK.done (ex_ [_] (an_ (an_ rfl tt_) (gives tt_)))
    ·replace h:Qey=some r:=h
     unfold Qey at h
     rintro e σ ⟨rfl,rfl⟩
     refine Qa hC [.n 8,.keep [2] []] rfl tt_ ?_
     cases h
     exact AK.done (ex_ [_] (an_ (an_ rfl tt_) (gives tt_)))
def Qid (e10:ByteArray)(m6:(List (ByteArray×Bool))):Option Bool:=
 (QdN e10).bind fun x13=>
 bif (!x13)then
 some true
 else
 some ((mget m6 e10).getD false)
def QdS (x5:Int)(m6:(List (ByteArray×Bool)))(e10:ByteArray)(x11:Bool):Option ((Int×(List (ByteArray×Bool)))⊕(Unit⊕Unit)):=
 bif x11 then
 some (.inr (.inl ()))
 else
 some (.inl ((w64 (x5+1)),(mset ltS m6 e10 true)))
def QcQ (l1:(List ByteArray))(x5:Int)(m6:(List (ByteArray×Bool))):Option ((Int×(List (ByteArray×Bool)))⊕(Unit⊕Unit)):=
 bif (decide (x5<(l1.length:Int)))then
 (idx l1 x5).bind fun e10=>
 (Qid e10 m6).bind (fun x11=>QdS x5 m6 e10 x11)
 else
 some (.inr (.inr ()))
def QdT : Option Bool:=
 some false
def QdU : Option Bool:=
 some true
def Qf5 (l1:(List ByteArray)):Option Bool:=
 (QF (fun st=>QcQ l1 st.1 st.2) (0,([]:(List (ByteArray×Bool))))).bind (Sum.elim (fun q=>QdT) (fun q=>QdU))
theorem QoJ (l1:(List ByteArray)){r:Bool}(h:Qf5 l1=some r):Qc Tryz.prog 236 [.sl 1 (l1.map Qdg)] [] (Gives (.b r) []):=by
 refine Qc.walk 24 Tryz.func236 rfl Tryz.ntmps236 rfl fun C hC=>?_
 unfold Qf5 at h
 refine Qa hC [.n 8,.sayO 6 (.map (mapV V.s V.b ([]:(List (ByteArray×Bool))))),.n 7,.o (.ln l1.length),.n 4,.keep [3,7,8,9] [6]] rfl ⟨⟨tt_,rfl⟩,Qg⟩ ?_
 obtain⟨o16,hl16,h⟩:=Qb h
 refine AK.loop (body:=(fun st=>QcQ l1 st.1 st.2)) (fun st σ=>σ=⟨[(3,.map 6),(7,.sl 1 (l1.map Qdg)),(8,.i .i64 (l1.length:Int)),(9,.i .i64 st.1)],[(6,.map (mapV V.s V.b st.2))]⟩) (Sum.elim (fun q e σ=>e=.ret∧σ=⟨[(2,.b false)],[]⟩) (fun q e σ=>e=.exit 0∧σ=⟨[],[]⟩)) hl16 rfl ?_ ?_
 ·rintro ⟨x5,m6⟩ o σ rfl h
  replace h:QcQ l1 x5 m6=some o:=h
  unfold QcQ at h
  refine Qa hC [.n 6] rfl tt_ ?_
  rcases bifE h with⟨hc9,h⟩|⟨hc9,h⟩
  ·obtain⟨e10,he10,h⟩:=Qb h
   refine Qa hC [.br true,.n 6,.o (.row (Qdg e10)),.n 6] rfl ⟨⟨tt_,hc9⟩,(idxM he10)⟩ ?_
   obtain⟨x11,hv12,h⟩:=Qb h
   replace h:QdS x5 m6 e10 x11=some o:=h
   refine AK.meetX (fun σ=>σ=⟨[(3,.map 6),(5,.s e10),(7,.sl 1 (l1.map Qdg)),(8,.i .i64 (l1.length:Int)),(9,.i .i64 x5),(20,.b x11)],[(6,.map (mapV V.s V.b m6))]⟩) ?_ ?_
   ·replace h:=hv12
    unfold Qid at h
    obtain⟨x13,hx13,h⟩:=Qb h
    refine Qa hC [.n 2,.o (.c false [.d] (.b x13)),.n 2] rfl ⟨tt_,(QiY _ hx13)⟩ ?_
    rcases bifE h with⟨hc14,h⟩|⟨hc14,h⟩
    ·refine Qa hC [.say 16 (.b true),.n 5,.keep [3,5,7,8,9,20] [6]] rfl ⟨tt_,(congrArg V.b hc14)⟩ ?_
     cases h
     exact AK.met rfl
    ·refine Qa hC [.say 16 (.b false),.n 2,.o (.any (.b ((mget m6 e10).getD false)) none),.n 2,.keep [3,5,7,8,9,20] [6]] rfl ⟨⟨tt_,(congrArg V.b hc14)⟩,(fun σ h1 h2 _=>Stp.lookup (e:=V.s) (f:=V.b) (l:=m6) (k:=e10) (z:=false) rfl rfl (bleN hC.n rfl) (h1 _ _ rfl) (h2 _ _ rfl) (h1 _ _ rfl) Qp5 ky_9 zi_4 rfl)⟩ ?_
     cases h
     exact AK.met rfl
   ·rintro σ rfl
    replace h:QdS x5 m6 e10 x11=some o:=h
    unfold QdS at h
    refine Qa hC [.n 1] rfl tt_ ?_
    rcases bifE h with⟨hc15,h⟩|⟨hc15,h⟩
    ·refine Qa hC [.br true,.n 9,.keep [2] []] rfl ⟨tt_,hc15⟩ ?_
     cases h
     exact rndR rfl (an_ rfl rfl)
    ·refine Qa hC [.br false,.n 5,.x (fun σ=>σ.set 6 (.map (mapV V.s V.b (mset ltS m6 e10 true)))),.n 7,.keep [3,7,8,9] [6]] rfl ⟨⟨tt_,hc15⟩,(Stp.mapUpdate (e:=V.s) (f:=V.b) (l:=m6) (k:=e10) (v:=true) ltS rfl rfl rfl rfl rfl rfl Qp5 ky_9 rfl)⟩ ?_
     cases h
     exact rndN rfl rfl
  ·refine Qa hC [.br false,.n 2,.keep [] []] rfl ⟨tt_,hc9⟩ ?_
   cases h
   exact rndX rfl (an_ rfl rfl)
 ·rcases o16 with(_ | _)
  ·replace h:QdT=some r:=h
   unfold QdT at h
   rintro e σ ⟨rfl,rfl⟩
   refine Qa hC [.n 2,.keep [2] []] rfl tt_ ?_
   cases h
   exact AK.done (ex_ [_] (an_ (an_ rfl tt_) (gives tt_)))
  ·replace h:QdU=some r:=h
   unfold QdU at h
   rintro e σ ⟨rfl,rfl⟩
   refine Qa hC [.n 8,.keep [2] []] rfl tt_ ?_
   cases h
   exact AK.done (ex_ [_] (an_ (an_ rfl tt_) (gives tt_)))
def QbD : Option Int:=
 some 0
def QgS (c1:Qz)(ahead2:(List Int)):Option Int:=
 bif (c1.Kind==1)then
 (QgR c1.Lo c1.Hi).bind fun x6=>
 some x6
 else
 bif (c1.Kind==2)then
 (Qf5 c1.Names).bind fun x8=>
 bif x8 then
 some (c1.Names.length:Int)
 else
 QbD
 else
 bif (c1.Kind==3)then
 bif ((decide (0≤(min2 c1.First c1.Then)))&&(decide ((max2 c1.First c1.Then)<(ahead2.length:Int))))then
 (idx ahead2 c1.First).bind fun e14=>
 (idx ahead2 c1.Then).bind fun e15=>
 some (w64 (e14*e15))
 else
 QbD
 else
 QbD
theorem Qpn (c1:Qz)(ahead2:(List Int)){r:Int}(h:QgS c1 ahead2=some r):Qc Tryz.prog 203 [.agg (Qv c1),.sl 1 (ahead2.map Qe)] [] (Gives (.i .i64 r) []):=by
 refine Qc.walk 51 Tryz.func203 rfl Tryz.ntmps203 rfl fun C hC=>?_
 unfold QgS at h
 refine Qa hC [.n 6] rfl tt_ ?_
 refine AK.meet (fun σ=>σ=⟨[],[]⟩∧QbD=some r) ?_ ?_
 ·refine Qa hC [.n 13] rfl tt_ ?_
  rcases bifE h with⟨hc5,h⟩|⟨hc5,h⟩
  ·obtain⟨x6,hx6,h⟩:=Qb h
   refine Qa hC [.br true,.n 6,.o (.c false [.d,.d] (.i .i64 x6)),.n 6,.keep [4] []] rfl ⟨⟨tt_,hc5⟩,(Qpm _ _ hx6)⟩ ?_
   cases h
   exact AK.done (ex_ [_] (an_ (an_ rfl tt_) (gives tt_)))
  ·refine Qa hC [.br false,.n 6] rfl ⟨tt_,hc5⟩ ?_
   rcases bifE h with⟨hc7,h⟩|⟨hc7,h⟩
   ·obtain⟨x8,hx8,h⟩:=Qb h
    refine Qa hC [.br true,.n 4,.o (.c false [.d] (.b x8)),.n 2] rfl ⟨⟨tt_,hc7⟩,(QoJ _ hx8)⟩ ?_
    rcases bifE h with⟨hc9,h⟩|⟨hc9,h⟩
    ·refine Qa hC [.br true,.n 4,.o (.ln c1.Names.length),.n 6,.keep [4] []] rfl ⟨⟨tt_,hc9⟩,Qg⟩ ?_
     cases h
     exact AK.done (ex_ [_] (an_ (an_ rfl tt_) (gives tt_)))
    ·refine Qa hC [.br false,.n 2,.keep [] []] rfl ⟨tt_,hc9⟩ ?_
     exact AK.met (an_ rfl h)
   ·refine Qa hC [.br false,.n 6] rfl ⟨tt_,hc7⟩ ?_
    rcases bifE h with⟨hc10,h⟩|⟨hc10,h⟩
    ·refine Qa hC [.br true,.n 1] rfl ⟨tt_,hc10⟩ ?_
     refine AK.meetX (fun σ=>σ=⟨[(1,.sl 1 (ahead2.map Qe)),(2,.loc 2 0 0),(39,.b ((decide (0≤(min2 c1.First c1.Then)))&&(decide ((max2 c1.First c1.Then)<(ahead2.length:Int)))))],[(2,.var (Qv c1))]⟩) ?_ ?_
     ·refine Qa hC [.n 8] rfl tt_ ?_
      rcases QJ (decide (0≤(min2 c1.First c1.Then)))with hc12 | hc12
      ·refine Qa hC [.say 30 (.b true),.n 6,.o (.ln ahead2.length),.n 3,.say 39 (.b ((decide (0≤(min2 c1.First c1.Then)))&&(decide ((max2 c1.First c1.Then)<(ahead2.length:Int))))),.keep [1,2,39] [2]] rfl ⟨⟨⟨tt_,(congrArg V.b hc12)⟩,Qg⟩,(congrArg V.b (andT hc12 rfl))⟩ ?_
       exact AK.met rfl
      ·refine Qa hC [.say 30 (.b false),.n 10,.say 39 (.b ((decide (0≤(min2 c1.First c1.Then)))&&(decide ((max2 c1.First c1.Then)<(ahead2.length:Int))))),.keep [1,2,39] [2]] rfl ⟨⟨tt_,(congrArg V.b hc12)⟩,(congrArg V.b (andF hc12 rfl))⟩ ?_
       exact AK.met rfl
     ·rintro σ rfl
      refine Qa hC [.n 1] rfl tt_ ?_
      rcases bifE h with⟨hc13,h⟩|⟨hc13,h⟩
      ·obtain⟨e14,he14,h⟩:=Qb h
       obtain⟨e15,he15,h⟩:=Qb h
       refine Qa hC [.br true,.n 1,.keep [1,2] [2]] rfl ⟨tt_,hc13⟩ ?_
       refine AK.draw2 Qp hC mixed [.a .no none false,.a .no none false,.a .no none false,.a (.row (Qe e14)) none false,.a .no none false,.a .no none false,.a .no none false,.a .no none false,.a (.row (Qe e15)) none false,.a .no none false,.a .no none false,.a .no none false] [] [] [4] [] rfl rfl rfl ⟨⟨tt_,(idxM he14)⟩,(idxM he15)⟩ rfl (by kernel_rfl) rfl rfl rfl ?_
       refine Qa hC [.n 4,.keep [4] []] rfl tt_ ?_
       cases h
       exact AK.done (ex_ [_] (an_ (an_ rfl tt_) (gives tt_)))
      ·refine Qa hC [.br false,.n 2,.keep [] []] rfl ⟨tt_,hc13⟩ ?_
       exact AK.met (an_ rfl h)
    ·refine Qa hC [.br false,.n 2,.keep [] []] rfl ⟨tt_,hc10⟩ ?_
     exact AK.met (an_ rfl h)
 ·rintro σ ⟨rfl,h⟩
  unfold QbD at h
  refine Qa hC [.n 6,.keep [4] []] rfl tt_ ?_
  cases h
  exact AK.done (ex_ [_] (an_ (an_ rfl tt_) (gives tt_)))
def Qie (e16:Qz)(m9:(List (ByteArray×Bool)))(x17:Int):Option Bool:=
 (QdN e16.Name).bind fun x20=>
 bif (!x20)then
 some true
 else
 bif ((mget m9 e16.Name).getD false)then
 some true
 else
 bif (decide (x17<1))then
 some true
 else
 some (decide (1024<x17))
def QdV (l10:(List Int))(x17:Int)(x8:Int)(m9:(List (ByteArray×Bool)))(e16:Qz)(x18:Bool):Option ((Int×(List (ByteArray×Bool))×(List Int))⊕(Unit⊕(List Int))):=
 bif x18 then
 some (.inr (.inl ()))
 else
 (chk (decide (l10.length+([x17]:List Int).length≤4294967296))).bind fun _=>
 some (.inl ((w64 (x8+1)),(mset ltS m9 e16.Name true),(l10++([x17]:List Int))))
def QcR (l1:(List Qz))(x8:Int)(m9:(List (ByteArray×Bool)))(l10:(List Int)):Option ((Int×(List (ByteArray×Bool))×(List Int))⊕(Unit⊕(List Int))):=
 bif (decide (x8<(l1.length:Int)))then
 (idx l1 x8).bind fun e16=>
 (QgS e16 l10).bind fun x17=>
 (Qie e16 m9 x17).bind (fun x18=>QdV l10 x17 x8 m9 e16 x18)
 else
 some (.inr (.inr l10))
def Qif : Option ((List Int)×Bool):=
 some (([]:List Int),false)
def Qig (l14:(List Int)):Option ((List Int)×Bool):=
 some (l14,true)
def Qeg (l1:(List Qz)):Option ((List Int)×Bool):=
 bif (decide (32<(l1.length:Int)))then
 some (([]:List Int),false)
 else
 (QF (fun st=>QcR l1 st.1 st.2.1 st.2.2) (0,([]:(List (ByteArray×Bool))),([]:List Int))).bind (Sum.elim (fun q=>Qif) (fun q=>Qig q))
theorem QkR (l1:(List Qz)){r:((List Int)×Bool)}(h:Qeg l1=some r):Qc Tryz.prog 163 [.sl 7 (l1.map Qv)] [] (Gives (.tup [.sl 1 (r.1.map Qe),.b r.2]) []):=by
 refine Qc.walk 49 Tryz.func163 rfl Tryz.ntmps163 rfl fun C hC=>?_
 unfold Qeg at h
 refine Qa hC [.n 10,.o (.ln l1.length),.n 3] rfl ⟨tt_,Qg⟩ ?_
 rcases bifE h with⟨hc6,h⟩|⟨hc6,h⟩
 ·refine Qa hC [.br true,.n 8,.denil 2 [some 1],.keep [2,3] []] rfl ⟨tt_,hc6⟩ ?_
  cases h
  exact AK.done (ex_ [_,_] (an_ (an_ rfl (an_ rfl tt_)) (gives tt_)))
 ·refine Qa hC [.br false,.n 5,.sayO 12 (.map (mapV V.s V.b ([]:(List (ByteArray×Bool))))),.n 12,.o (.ln l1.length),.n 4,.adopt 5 43 1,.sayO 43 (.arr 1 (([]:List Int).map Qe)),.say 5 (.own 43 ([]:List Int).length),.keep [4,5,13,14,15] [12,43]] rfl ⟨⟨⟨⟨⟨tt_,hc6⟩,rfl⟩,Qg⟩,rfl⟩,(congrArg (fun n=>V.own 43 n) (by simp))⟩ ?_
  obtain⟨o26,hl26,h⟩:=Qb h
  refine AK.loop (body:=(fun st=>QcR l1 st.1 st.2.1 st.2.2)) (fun st σ=>σ=⟨[(4,.map 12),(5,.own 43 st.2.2.length),(13,.sl 7 (l1.map Qv)),(14,.i .i64 (l1.length:Int)),(15,.i .i64 st.1)],[(12,.map (mapV V.s V.b st.2.1)),(43,.arr 1 (st.2.2.map Qe))]⟩) (Sum.elim (fun q e σ=>e=.ret∧σ=⟨[(2,.lit (.slice none 0 0)),(3,.b false)],[]⟩) (fun q e σ=>e=.exit 0∧σ=⟨[(5,.own 43 q.length)],[(43,.arr 1 (q.map Qe))]⟩)) hl26 rfl ?_ ?_
  ·rintro ⟨x8,m9,l10⟩ o σ rfl h
   replace h:QcR l1 x8 m9 l10=some o:=h
   unfold QcR at h
   refine Qa hC [.n 6] rfl tt_ ?_
   rcases bifE h with⟨hc15,h⟩|⟨hc15,h⟩
   ·obtain⟨e16,he16,h⟩:=Qb h
    obtain⟨x17,hx17,h⟩:=Qb h
    refine Qa hC [.br true,.n 6,.o (.row (Qv e16)),.v .no [] (.agg (Qv e16)),.n 2,.sayO 7 (.var (Qv e16)),.n 4,.v .no [] (.agg (Qv e16)),.n 1,.o (.c true [.d,.o (l10.map Qe)] (.i .i64 x17)),.n 5] rfl ⟨⟨⟨⟨⟨⟨tt_,hc15⟩,(idxM he16)⟩,rfl⟩,rfl⟩,rfl⟩,⟨(QoD rfl),(Qpn _ _ hx17)⟩⟩ ?_
    obtain⟨x18,hv19,h⟩:=Qb h
    replace h:QdV l10 x17 x8 m9 e16 x18=some o:=h
    refine AK.meetX (fun σ=>σ=⟨[(4,.map 12),(5,.own 43 l10.length),(7,.loc 7 0 0),(8,.i .i64 x17),(13,.sl 7 (l1.map Qv)),(14,.i .i64 (l1.length:Int)),(15,.i .i64 x8),(39,.b x18)],[(7,.var (Qv e16)),(12,.map (mapV V.s V.b m9)),(43,.arr 1 (l10.map Qe))]⟩) ?_ ?_
    ·replace h:=hv19
     unfold Qie at h
     obtain⟨x20,hx20,h⟩:=Qb h
     refine Qa hC [.n 3,.o (.c false [.d] (.b x20)),.n 2] rfl ⟨tt_,(QiY _ hx20)⟩ ?_
     rcases bifE h with⟨hc21,h⟩|⟨hc21,h⟩
     ·refine Qa hC [.say 26 (.b true),.n 14,.keep [4,5,7,8,13,14,15,39] [7,12,43]] rfl ⟨tt_,(congrArg V.b hc21)⟩ ?_
      cases h
      exact AK.met rfl
     ·refine Qa hC [.say 26 (.b false),.n 3,.o (.any (.b ((mget m9 e16.Name).getD false)) none),.n 2] rfl ⟨⟨tt_,(congrArg V.b hc21)⟩,(fun σ h1 h2 _=>Stp.lookup (e:=V.s) (f:=V.b) (l:=m9) (k:=e16.Name) (z:=false) rfl rfl (bleN hC.n rfl) (h1 _ _ rfl) (h2 _ _ rfl) (h1 _ _ rfl) Qp5 ky_9 zi_4 rfl)⟩ ?_
      rcases bifE h with⟨hc22,h⟩|⟨hc22,h⟩
      ·refine Qa hC [.say 32 (.b true),.n 8,.keep [4,5,7,8,13,14,15,39] [7,12,43]] rfl ⟨tt_,(congrArg V.b hc22)⟩ ?_
       cases h
       exact AK.met rfl
      ·refine Qa hC [.say 32 (.b false),.n 4] rfl ⟨tt_,(congrArg V.b hc22)⟩ ?_
       rcases bifE h with⟨hc23,h⟩|⟨hc23,h⟩
       ·refine Qa hC [.say 36 (.b true),.n 4,.keep [4,5,7,8,13,14,15,39] [7,12,43]] rfl ⟨tt_,(congrArg V.b hc23)⟩ ?_
        cases h
        exact AK.met rfl
       ·refine Qa hC [.say 36 (.b false),.n 4,.keep [4,5,7,8,13,14,15,39] [7,12,43]] rfl ⟨tt_,(congrArg V.b hc23)⟩ ?_
        cases h
        exact AK.met rfl
    ·rintro σ rfl
     replace h:QdV l10 x17 x8 m9 e16 x18=some o:=h
     unfold QdV at h
     refine Qa hC [.n 1] rfl tt_ ?_
     rcases bifE h with⟨hc24,h⟩|⟨hc24,h⟩
     ·refine Qa hC [.br true,.n 10,.keep [2,3] []] rfl ⟨tt_,hc24⟩ ?_
      cases h
      exact rndR rfl (an_ rfl rfl)
     ·obtain⟨_,hk25,h⟩:=Qb h
      replace hk25:=chkE hk25
      refine Qa hC [.br false,.n 7,.x (fun σ=>σ.set 12 (.map (mapV V.s V.b (mset ltS m9 e16.Name true)))),.n 5,.v (.bd []) [] (.sl 1 (([x17]:List Int).map Qe)),.app ((l10++([x17]:List Int)).map Qe) (l10++([x17]:List Int)).length,.n 8,.keep [4,5,13,14,15] [12,43]] rfl ⟨⟨⟨⟨tt_,hc24⟩,(Stp.mapUpdate (e:=V.s) (f:=V.b) (l:=m9) (k:=e16.Name) (v:=true) ltS rfl rfl rfl rfl rfl rfl Qp5 ky_9 rfl)⟩,rfl⟩,⟨Qg,Qdn hk25 Qg,Qco,Qfl Qg⟩⟩ ?_
      cases h
      exact rndN rfl rfl
   ·refine Qa hC [.br false,.n 2,.keep [5] [43]] rfl ⟨tt_,hc15⟩ ?_
    cases h
    exact rndX rfl (an_ rfl rfl)
  ·rcases o26 with(_ | l14)
   ·replace h:Qif=some r:=h
    unfold Qif at h
    rintro e σ ⟨rfl,rfl⟩
    refine Qa hC [.n 2,.denil 2 [some 1],.keep [2,3] []] rfl tt_ ?_
    cases h
    exact AK.done (ex_ [_,_] (an_ (an_ rfl (an_ rfl tt_)) (gives tt_)))
   ·replace h:Qig l14=some r:=h
    unfold Qig at h
    rintro e σ ⟨rfl,rfl⟩
    refine Qa hC [.n 10,.frz 43 (l14.map Qe) [2] [],.keep [2,3] []] rfl ⟨tt_,⟨tt_,(frzL Qg)⟩⟩ ?_
    cases h
    exact AK.done (ex_ [_,_] (an_ (an_ rfl (an_ rfl tt_)) (gives tt_)))
def Qef (l1:(List Qz))(k2:Int):Option (Bool×Qab):=
 (Qeg l1).bind fun x7=>
 bif ((!x7.2)||((decide (k2<0))||(decide ((l1.length:Int)≤k2))))then
 some (false,(Qab.mk ([]:(List Qz)) ([]:(List Int)) 0))
 else
 some (true,(Qab.mk l1 x7.1 k2))
theorem Qj7 (l1:(List Qz))(k2:Int){r:(Bool×Qab)}(h:Qef l1 k2=some r):Qc Tryz.prog 98 [.sl 7 (l1.map Qv),.i .i64 k2] [] (Gives (.tup [.agg (QK r.2),.b r.1]) []):=by
 refine Qc.walk 30 Tryz.func98 rfl Tryz.ntmps98 rfl fun C hC=>?_
 unfold Qef at h
 obtain⟨x7,hx7,h⟩:=Qb h
 refine Qa hC [.n 9,.o (.c false [.d] (.tup [.sl 1 (x7.1.map Qe),.b x7.2])),.n 9] rfl ⟨tt_,(QkR _ hx7)⟩ ?_
 refine AK.meetX (fun σ=>σ=⟨[(0,.sl 7 (l1.map Qv)),(1,.i .i64 k2),(4,.loc 4 0 0),(6,.sl 1 (x7.1.map Qe)),(24,.b ((!x7.2)||((decide (k2<0))||(decide ((l1.length:Int)≤k2)))))],[(4,.var [.lit (.slice none 0 0),.lit (.slice none 0 0),.i .i64 0])]⟩) ?_ ?_
 ·refine Qa hC [.n 4] rfl tt_ ?_
  rcases QJ (!x7.2)with hc9 | hc9
  ·refine Qa hC [.say 15 (.b true),.n 10,.say 24 (.b ((!x7.2)||((decide (k2<0))||(decide ((l1.length:Int)≤k2))))),.keep [0,1,4,6,24] [4]] rfl ⟨⟨tt_,(congrArg V.b hc9)⟩,(congrArg V.b (orT hc9 rfl))⟩ ?_
   exact AK.met rfl
  ·refine Qa hC [.say 15 (.b false),.n 4] rfl ⟨tt_,(congrArg V.b hc9)⟩ ?_
   rcases QJ (decide (k2<0))with hc10 | hc10
   ·refine Qa hC [.say 19 (.b true),.n 6,.say 24 (.b ((!x7.2)||((decide (k2<0))||(decide ((l1.length:Int)≤k2))))),.keep [0,1,4,6,24] [4]] rfl ⟨⟨tt_,(congrArg V.b hc10)⟩,(congrArg V.b (orF hc9 (orT hc10 rfl)))⟩ ?_
    exact AK.met rfl
   ·refine Qa hC [.say 19 (.b false),.n 2,.o (.ln l1.length),.n 3,.say 24 (.b ((!x7.2)||((decide (k2<0))||(decide ((l1.length:Int)≤k2))))),.keep [0,1,4,6,24] [4]] rfl ⟨⟨⟨tt_,(congrArg V.b hc10)⟩,Qg⟩,(congrArg V.b (orF hc9 (orF hc10 rfl)))⟩ ?_
    exact AK.met rfl
 ·rintro σ rfl
  refine Qa hC [.n 1] rfl tt_ ?_
  rcases bifE h with⟨hc11,h⟩|⟨hc11,h⟩
  ·refine Qa hC [.br true,.n 2,.v .no [some 7,some 1,none] (.agg (QK (Qab.mk ([]:(List Qz)) ([]:(List Int)) 0))),.n 1,.sayO 4 (.var (QK (Qab.mk ([]:(List Qz)) ([]:(List Int)) 0))),.n 5,.keep [4,5] [4]] rfl ⟨⟨⟨tt_,hc11⟩,rfl⟩,rfl⟩ ?_
   cases h
   exact AK.done (ex_ [_,_] (an_ (an_ (ex_ _ (ex_ _ (an_ rfl (an_ rfl (Or.inl (an_ (Qp.ag rfl) (an_ (Qp.sz rfl) rfl))))))) (an_ rfl tt_)) (gives tt_)))
  ·refine Qa hC [.br false,.n 7,.v .no [] (.agg (QK (Qab.mk l1 x7.1 k2))),.n 1,.sayO 4 (.var (QK (Qab.mk l1 x7.1 k2))),.n 4,.keep [4,5] [4]] rfl ⟨⟨⟨tt_,hc11⟩,rfl⟩,rfl⟩ ?_
   cases h
   exact AK.done (ex_ [_,_] (an_ (an_ (ex_ _ (ex_ _ (an_ rfl (an_ rfl (Or.inl (an_ (Qp.ag rfl) (an_ (Qp.sz rfl) rfl))))))) (an_ rfl tt_)) (gives tt_)))
def Qe1 (m2:Int)(s1:Qab):Option Bool:=
 bif (decide (0≤m2))then
 (idx s1.sizes s1.k).bind fun e7=>
 some (decide (m2<e7))
 else
 some false
def Qe2 (x4:Bool):Option Bool:=
 some x4
def Qcj (s1:Qab)(m2:Int):Option Bool:=
 (Qe1 m2 s1).bind (fun x4=>Qe2 x4)
theorem Qj4 (s1:Qab)(m2:Int){r:Bool}(h:Qcj s1 m2=some r):Qc Tryz.prog 160 [.agg (QK s1),.i .i64 m2] [] (Gives (.b r) []):=by
 refine Qc.walk 17 Tryz.func160 rfl Tryz.ntmps160 rfl fun C hC=>?_
 unfold Qcj at h
 refine Qa hC [.n 7] rfl tt_ ?_
 obtain⟨x4,hv5,h⟩:=Qb h
 replace h:Qe2 x4=some r:=h
 refine AK.meetX (fun σ=>σ=⟨[(4,.b x4)],[]⟩) ?_ ?_
 ·replace h:=hv5
  unfold Qe1 at h
  refine Qa hC [.n 4] rfl tt_ ?_
  rcases bifE h with⟨hc6,h⟩|⟨hc6,h⟩
  ·obtain⟨e7,he7,h⟩:=Qb h
   refine Qa hC [.say 7 (.b true),.n 5,.o (.row (Qe e7)),.n 5,.keep [4] []] rfl ⟨⟨tt_,(congrArg V.b hc6)⟩,(idxM he7)⟩ ?_
   cases h
   exact AK.met rfl
  ·refine Qa hC [.say 7 (.b false),.n 11,.keep [4] []] rfl ⟨tt_,(congrArg V.b hc6)⟩ ?_
   cases h
   exact AK.met rfl
 ·rintro σ rfl
  replace h:Qe2 x4=some r:=h
  unfold Qe2 at h
  refine Qa hC [.n 2,.keep [4] []] rfl tt_ ?_
  cases h
  exact AK.done (ex_ [_] (an_ (an_ rfl tt_) (gives tt_)))
def Qbq (s1:Qab):Option Qz:=
 (idx s1.all s1.k).bind fun e3=>
 some e3
theorem QfI (s1:Qab){r:Qz}(h:Qbq s1=some r):Qc Tryz.prog 161 [.agg (QK s1)] [] (Gives (.agg (Qv r)) []):=by
 refine Qc.walk 9 Tryz.func161 rfl Tryz.ntmps161 rfl fun C hC=>?_
 unfold Qbq at h
 obtain⟨e3,he3,h⟩:=Qb h
 refine Qa hC [.n 12,.o (.row (Qv e3)),.v .no [] (.agg (Qv e3)),.n 1,.sayO 2 (.var (Qv e3)),.n 3,.keep [2] [2]] rfl ⟨⟨⟨tt_,(idxM he3)⟩,rfl⟩,rfl⟩ ?_
 cases h
 exact AK.done (ex_ [_] (an_ (an_ (ex_ _ (ex_ _ (an_ rfl (an_ rfl (Or.inl (an_ (Qp.ag rfl) (an_ (Qp.sz rfl) rfl))))))) tt_) (gives tt_)))
def QhJ (x8:(Bool×Qab))(m3:Int):Option Bool:=
 bif (!x8.1)then
 some true
 else
 (Qcj x8.2 m3).bind fun x12=>
 some (!x12)
def Qdo (x8:(Bool×Qab))(m3:Int)(x9:Bool):Option (Int×Bool):=
 bif x9 then
 some (0,false)
 else
 (Qbq x8.2).bind fun x14=>
 bif (x14.Kind==1)then
 (Qbq x8.2).bind fun x16=>
 some ((w64 (x16.Lo+m3)),true)
 else
 some (m3,true)
def Qfm (l1:(List Qz))(k2:Int)(m3:Int):Option (Int×Bool):=
 (Qef l1 k2).bind fun x8=>
 (QhJ x8 m3).bind (fun x9=>Qdo x8 m3 x9)
theorem Qn1 (l1:(List Qz))(k2:Int)(m3:Int){r:(Int×Bool)}(h:Qfm l1 k2 m3=some r):Qc Tryz.prog 94 [.sl 7 (l1.map Qv),.i .i64 k2,.i .i64 m3] [] (Gives (.tup [.i .i64 r.1,.b r.2]) []):=by
 refine Qc.walk 36 Tryz.func94 rfl Tryz.ntmps94 rfl fun C hC=>?_
 unfold Qfm at h
 obtain⟨x8,hx8,h⟩:=Qb h
 refine Qa hC [.n 10,.o (.c false [.d,.d] (.tup [.agg (QK x8.2),.b x8.1])),.n 5,.sayO 8 (.var (QK x8.2)),.n 6] rfl ⟨⟨tt_,(Qj7 _ _ hx8)⟩,rfl⟩ ?_
 obtain⟨x9,hv10,h⟩:=Qb h
 replace h:Qdo x8 m3 x9=some r:=h
 refine AK.meetX (fun σ=>σ=⟨[(2,.i .i64 m3),(8,.loc 8 0 0),(16,.b x9)],[(8,.var (QK x8.2))]⟩) ?_ ?_
 ·replace h:=hv10
  unfold QhJ at h
  refine Qa hC [.n 4] rfl tt_ ?_
  rcases bifE h with⟨hc11,h⟩|⟨hc11,h⟩
  ·refine Qa hC [.say 19 (.b true),.n 7,.keep [2,8,16] [8]] rfl ⟨tt_,(congrArg V.b hc11)⟩ ?_
   cases h
   exact AK.met rfl
  ·obtain⟨x12,hx12,h⟩:=Qb h
   refine Qa hC [.say 19 (.b false),.v .no [] (.agg (QK x8.2)),.n 1,.o (.c false [.d,.d] (.b x12)),.n 4,.keep [2,8,16] [8]] rfl ⟨⟨⟨tt_,(congrArg V.b hc11)⟩,rfl⟩,(Qj4 _ _ hx12)⟩ ?_
   cases h
   exact AK.met rfl
 ·rintro σ rfl
  replace h:Qdo x8 m3 x9=some r:=h
  unfold Qdo at h
  refine Qa hC [.n 1] rfl tt_ ?_
  rcases bifE h with⟨hc13,h⟩|⟨hc13,h⟩
  ·refine Qa hC [.br true,.n 9,.keep [6,7] []] rfl ⟨tt_,hc13⟩ ?_
   cases h
   exact AK.done (ex_ [_,_] (an_ (an_ rfl (an_ rfl tt_)) (gives tt_)))
  ·obtain⟨x14,hx14,h⟩:=Qb h
   refine Qa hC [.br false,.n 2,.v .no [] (.agg (QK x8.2)),.o (.c false [.d] (.agg (Qv x14))),.o (.any (.i .i64 x14.Kind) none),.n 4] rfl ⟨⟨⟨⟨tt_,hc13⟩,rfl⟩,(QfI _ hx14)⟩,(fun σ h1 h2 _=>Stp.field rfl rfl (bleN hC.n rfl) (h1 _ _ rfl) Quz rfl)⟩ ?_
   rcases bifE h with⟨hc15,h⟩|⟨hc15,h⟩
   ·obtain⟨x16,hx16,h⟩:=Qb h
    refine Qa hC [.br true,.n 2,.v .no [] (.agg (QK x8.2)),.o (.c false [.d] (.agg (Qv x16))),.o (.any (.i .i64 x16.Lo) none),.n 9,.keep [6,7] []] rfl ⟨⟨⟨⟨tt_,hc15⟩,rfl⟩,(QfI _ hx16)⟩,(fun σ h1 h2 _=>Stp.field rfl rfl (bleN hC.n rfl) (h1 _ _ rfl) QuA rfl)⟩ ?_
    cases h
    exact AK.done (ex_ [_,_] (an_ (an_ rfl (an_ rfl tt_)) (gives tt_)))
   ·refine Qa hC [.br false,.n 11,.keep [6,7] []] rfl ⟨tt_,hc15⟩ ?_
    cases h
    exact AK.done (ex_ [_,_] (an_ (an_ rfl (an_ rfl tt_)) (gives tt_)))
def Qff (e11:Qr)(vars3:(List Int))(n1:TNet)(x15:Int)(l16:(List Int)):Option ((Int×(List Int))⊕(Unit⊕(List Int))):=
 bif (decide (x15<(e11.Vars.length:Int)))then
 (idx e11.Vars x15).bind fun e21=>
 (idx vars3 x15).bind fun e22=>
 (Qfm n1.Colours e21.Colour e22).bind fun x23=>
 bif (!x23.2)then
 some (.inr (.inl ()))
 else
 (idx l16 x15).bind fun e25=>
 some (.inl ((w64 (x15+1)),(l16.set x15.toNat x23.1)))
 else
 some (.inr (.inr l16))
def QkC : Option ((List Int)×Int):=
 some (([]:List Int),1)
def QkD (l19:(List Int)):Option ((List Int)×Int):=
 some (l19,0)
def QgE (n1:TNet)(task2:Int)(vars3:(List Int)):Option ((List Int)×Int):=
 bif ((decide (task2<0))||(decide ((n1.Tasks.length:Int)≤task2)))then
 some (([]:List Int),3)
 else
 (idx n1.Tasks task2).bind fun e11=>
 bif ((vars3.length:Int) != (e11.Vars.length:Int))then
 some (([]:List Int),1)
 else
 (chk (decide (0≤(e11.Vars.length:Int))&&decide ((e11.Vars.length:Int)≤(e11.Vars.length:Int))&&decide ((e11.Vars.length:Int)≤4294967296))).bind fun _=>
 (QF (fun st=>Qff e11 vars3 n1 st.1 st.2) (0,(List.replicate (e11.Vars.length:Int).toNat (0:Int)))).bind (Sum.elim (fun q=>QkC) (fun q=>QkD q))
theorem QkE (n1:TNet)(task2:Int)(vars3:(List Int)){r:((List Int)×Int)}(h:QgE n1 task2 vars3=some r):Qc Tryz.prog 51 [.agg (Qd n1),.i .i64 task2,.sl 1 (vars3.map Qe)] [] (Gives (.tup [.sl 1 (r.1.map Qe),.i .i64 r.2]) []):=by
 refine Qc.walk 64 Tryz.func51 rfl Tryz.ntmps51 rfl fun C hC=>?_
 unfold QgE at h
 refine Qa hC [.n 9] rfl tt_ ?_
 refine AK.meetX (fun σ=>σ=⟨[(1,.i .i64 task2),(2,.sl 1 (vars3.map Qe)),(3,.loc 3 0 0),(22,.b ((decide (task2<0))||(decide ((n1.Tasks.length:Int)≤task2))))],[(3,.var (Qd n1))]⟩) ?_ ?_
 ·refine Qa hC [.n 4] rfl tt_ ?_
  rcases QJ (decide (task2<0))with hc9 | hc9
  ·refine Qa hC [.say 16 (.b true),.n 7,.say 22 (.b ((decide (task2<0))||(decide ((n1.Tasks.length:Int)≤task2)))),.keep [1,2,3,22] [3]] rfl ⟨⟨tt_,(congrArg V.b hc9)⟩,(congrArg V.b (orT hc9 rfl))⟩ ?_
   exact AK.met rfl
  ·refine Qa hC [.say 16 (.b false),.n 3,.o (.ln n1.Tasks.length),.n 3,.say 22 (.b ((decide (task2<0))||(decide ((n1.Tasks.length:Int)≤task2)))),.keep [1,2,3,22] [3]] rfl ⟨⟨⟨tt_,(congrArg V.b hc9)⟩,Qg⟩,(congrArg V.b (orF hc9 rfl))⟩ ?_
   exact AK.met rfl
 ·rintro σ rfl
  refine Qa hC [.n 1] rfl tt_ ?_
  rcases bifE h with⟨hc10,h⟩|⟨hc10,h⟩
  ·refine Qa hC [.br true,.n 8,.denil 6 [some 1],.keep [6,7] []] rfl ⟨tt_,hc10⟩ ?_
   cases h
   exact AK.done (ex_ [_,_] (an_ (an_ rfl (an_ rfl tt_)) (gives tt_)))
  ·obtain⟨e11,he11,h⟩:=Qb h
   refine Qa hC [.br false,.n 7,.o (.row (Qi e11)),.n 9,.o (.ln vars3.length),.n 1,.o (.ln e11.Vars.length),.n 3] rfl ⟨⟨⟨⟨tt_,hc10⟩,(idxM he11)⟩,Qg⟩,Qg⟩ ?_
   rcases bifE h with⟨hc12,h⟩|⟨hc12,h⟩
   ·refine Qa hC [.br true,.n 8,.denil 6 [some 1],.keep [6,7] []] rfl ⟨tt_,hc12⟩ ?_
    cases h
    exact AK.done (ex_ [_,_] (an_ (an_ rfl (an_ rfl tt_)) (gives tt_)))
   ·obtain⟨_,hk13,h⟩:=Qb h
    replace hk13:=chkE hk13
    refine Qa hC [.br false,.n 5,.o (.ln e11.Vars.length),.o (.rows ((List.replicate (e11.Vars.length:Int).toNat (0:Int)).map Qe)),.say 36 (.own 36 (List.replicate (e11.Vars.length:Int).toNat (0:Int)).length),.n 7,.o (.ln e11.Vars.length),.n 4,.keep [2,3,9,37,38,39] [3,36]] rfl ⟨⟨⟨⟨⟨tt_,hc12⟩,Qg⟩,⟨hk13,Qtd rfl⟩⟩,(by simp)⟩,Qg⟩ ?_
    obtain⟨o26,hl26,h⟩:=Qb h
    refine AK.loop (body:=(fun st=>Qff e11 vars3 n1 st.1 st.2)) (fun st σ=>σ=⟨[(2,.sl 1 (vars3.map Qe)),(3,.loc 3 0 0),(9,.own 36 st.2.length),(37,.sl 2 (e11.Vars.map QC)),(38,.i .i64 (e11.Vars.length:Int)),(39,.i .i64 st.1)],[(3,.var (Qd n1)),(36,.arr 1 (st.2.map Qe))]⟩) (Sum.elim (fun q e σ=>e=.ret∧σ=⟨[(6,.lit (.slice none 0 0)),(7,.i .i64 1)],[]⟩) (fun q e σ=>e=.exit 0∧σ=⟨[(9,.own 36 q.length)],[(36,.arr 1 (q.map Qe))]⟩)) hl26 rfl ?_ ?_
    ·rintro ⟨x15,l16⟩ o σ rfl h
     replace h:Qff e11 vars3 n1 x15 l16=some o:=h
     unfold Qff at h
     refine Qa hC [.n 6] rfl tt_ ?_
     rcases bifE h with⟨hc20,h⟩|⟨hc20,h⟩
     ·obtain⟨e21,he21,h⟩:=Qb h
      obtain⟨e22,he22,h⟩:=Qb h
      obtain⟨x23,hx23,h⟩:=Qb h
      refine Qa hC [.br true,.n 7,.o (.row (QC e21)),.v .no [] (.agg (QC e21)),.n 3,.sayO 11 (.var (QC e21)),.n 3,.keep [2,3,9,10,11,37,38,39] [3,11,36]] rfl ⟨⟨⟨⟨tt_,hc20⟩,(idxM he21)⟩,rfl⟩,rfl⟩ ?_
      refine AK.draw2 Qp hC mixed [.a .no none false,.a .no none false,.a .no none false,.a .no none false,.a .no none false,.a .no none false,.a (.row (Qe e22)) none false,.a .no none false,.a (.c false [.d,.d,.d] (.tup [.i .i64 x23.1,.b x23.2])) none false,.a .no none false,.a .no none false,.a .no none false,.a .no none false,.a .no none false] [] [] [2,3,9,10,12,13,37,38,39] [3,36] rfl rfl rfl ⟨⟨tt_,(idxM he22)⟩,(Qn1 _ _ _ hx23)⟩ rfl (by kernel_rfl) rfl rfl rfl ?_
      refine Qa hC [.n 8] rfl tt_ ?_
      rcases bifE h with⟨hc24,h⟩|⟨hc24,h⟩
      ·refine Qa hC [.br true,.n 10,.keep [6,7] []] rfl ⟨tt_,hc24⟩ ?_
       cases h
       exact rndR rfl (an_ rfl rfl)
      ·obtain⟨e25,he25,h⟩:=Qb h
       refine Qa hC [.br false,.n 7,.st (Qe e25) ((l16.set x15.toNat x23.1).map Qe),.n 7,.say 9 (.own 36 (l16.set x15.toNat x23.1).length),.keep [2,3,9,37,38,39] [3,36]] rfl ⟨⟨⟨⟨tt_,hc24⟩,(Qe0 he25 rfl)⟩,⟨(QcE (idxE he25).2),Qjk rfl⟩⟩,(congrArg (fun n=>V.own 36 n) (by simp))⟩ ?_
       cases h
       exact rndN rfl rfl
     ·refine Qa hC [.br false,.n 2,.keep [9] [36]] rfl ⟨tt_,hc20⟩ ?_
      cases h
      exact rndX rfl (an_ rfl rfl)
    ·rcases o26 with(_ | l19)
     ·replace h:QkC=some r:=h
      unfold QkC at h
      rintro e σ ⟨rfl,rfl⟩
      refine Qa hC [.n 2,.denil 6 [some 1],.keep [6,7] []] rfl tt_ ?_
      cases h
      exact AK.done (ex_ [_,_] (an_ (an_ rfl (an_ rfl tt_)) (gives tt_)))
     ·replace h:QkD l19=some r:=h
      unfold QkD at h
      rintro e σ ⟨rfl,rfl⟩
      refine Qa hC [.n 10,.frz 36 (l19.map Qe) [6] [],.keep [6,7] []] rfl ⟨tt_,⟨tt_,(frzL Qg)⟩⟩ ?_
      cases h
      exact AK.done (ex_ [_,_] (an_ (an_ rfl (an_ rfl tt_)) (gives tt_)))
def QeA (n1:TNet)(m2:(List (List (Int×Int))))(task3:Int)(vars4:(List Int)):Option (Int×QA):=
 (QgE n1 task3 vars4).bind fun x9=>
 bif (x9.2 != 0)then
 some (x9.2,(QA.mk (TNet.mk ([]:(List Qz)) ([]:(List QB)) ([]:(List Qr)) 0 0) ([]:(List (List (Int×Int)))) (Qr.mk (⟨#[]⟩:ByteArray) ([]:(List TVar)) (Qh.mk 0 0 ([]:(List Qh))) 0 0 ([]:(List TArc)) ([]:(List TArc)) ([]:(List Int)) 0 (0,0,0)) ([]:(List Int))))
 else
 (idx n1.Tasks task3).bind fun e11=>
 some (0,(QA.mk n1 m2 e11 x9.1))
theorem Ql2 (n1:TNet)(m2:(List (List (Int×Int))))(task3:Int)(vars4:(List Int)){r:(Int×QA)}(h:QeA n1 m2 task3 vars4=some r):Qc Tryz.prog 70 [.agg (Qd n1),.sl 1 (m2.map Qf),.i .i64 task3,.sl 1 (vars4.map Qe)] [] (Gives (.tup [.agg (Qo r.2),.i .i64 r.1]) []):=by
 refine Qc.walk 32 Tryz.func70 rfl Tryz.ntmps70 rfl fun C hC=>?_
 unfold QeA at h
 obtain⟨x9,hx9,h⟩:=Qb h
 refine Qa hC [.n 9,.v .no [] (.agg (Qd n1)),.n 2,.o (.c false [.d,.d,.d] (.tup [.sl 1 (x9.1.map Qe),.i .i64 x9.2])),.n 14] rfl ⟨⟨tt_,rfl⟩,(QkE _ _ _ hx9)⟩ ?_
 rcases bifE h with⟨hc10,h⟩|⟨hc10,h⟩
 ·refine Qa hC [.br true,.n 2,.v .no [some 7,some 3,some 14,none,none,some 1,none,some 2,none,none,some 3,none,none,some 4,some 4,some 1,none,none,none,none,some 1] (.agg (Qo (QA.mk (TNet.mk ([]:(List Qz)) ([]:(List QB)) ([]:(List Qr)) 0 0) ([]:(List (List (Int×Int)))) (Qr.mk (⟨#[]⟩:ByteArray) ([]:(List TVar)) (Qh.mk 0 0 ([]:(List Qh))) 0 0 ([]:(List TArc)) ([]:(List TArc)) ([]:(List Int)) 0 (0,0,0)) ([]:(List Int))))),.n 2,.sayO 8 (.var (Qo (QA.mk (TNet.mk ([]:(List Qz)) ([]:(List QB)) ([]:(List Qr)) 0 0) ([]:(List (List (Int×Int)))) (Qr.mk (⟨#[]⟩:ByteArray) ([]:(List TVar)) (Qh.mk 0 0 ([]:(List Qh))) 0 0 ([]:(List TArc)) ([]:(List TArc)) ([]:(List Int)) 0 (0,0,0)) ([]:(List Int))))),.n 5,.keep [8,9] [8]] rfl ⟨⟨⟨tt_,hc10⟩,rfl⟩,rfl⟩ ?_
  cases h
  exact AK.done (ex_ [_,_] (an_ (an_ (ex_ _ (ex_ _ (an_ rfl (an_ rfl (Or.inl (an_ (Qp.ag rfl) (an_ (Qp.sz rfl) rfl))))))) (an_ rfl tt_)) (gives tt_)))
 ·obtain⟨e11,he11,h⟩:=Qb h
  refine Qa hC [.br false,.n 3,.keep [1,2,4,8,9,10] [4,8]] rfl ⟨tt_,hc10⟩ ?_
  refine AK.draw2 Qp hC mixed [.a .no (some ([],.agg (Qd n1))) false,.a .no none false,.a .no none false,.a .no none false,.a .no none false,.a (.row (Qi e11)) none false,.a .no (some ([],.agg (Qi e11))) false,.a .no none false,.a .no (some ([],.agg (Qo (QA.mk n1 m2 e11 x9.1)))) false,.m .s,.m .s] [] [] [8,9] [8] rfl rfl rfl ⟨⟨⟨⟨tt_,rfl⟩,(idxM he11)⟩,rfl⟩,rfl⟩ rfl (by kernel_rfl) rfl rfl rfl ?_
  refine Qa hC [.sayO 8 (.var (Qo (QA.mk n1 m2 e11 x9.1))),.n 2,.keep [8,9] [8]] rfl ⟨tt_,rfl⟩ ?_
  cases h
  exact AK.done (ex_ [_,_] (an_ (an_ (ex_ _ (ex_ _ (an_ rfl (an_ rfl (Or.inl (an_ (Qp.ag rfl) (an_ (Qp.sz rfl) rfl))))))) (an_ rfl tt_)) (gives tt_)))
def QdB (e1:Qh)(rec_expr_Depth:Qh→Option Int)(n3:Int)(x4:Int):Option ((Int×Int)⊕Int):=
 bif (decide (x4<(e1.Kids.length:Int)))then
 (idx e1.Kids x4).bind fun e9=>
 (rec_expr_Depth e9).bind fun x10=>
 some (.inl ((max2 n3 x10),(w64 (x4+1))))
 else
 some (.inr n3)
def Qht (n7:Int):Option Int:=
 some (w64 (n7+1))
def Qh3 (rec_expr_Depth:Qh→Option Int)(e1:Qh):Option Int:=
 (QF (fun st=>QdB e1 rec_expr_Depth st.1 st.2) (0,0)).bind (fun q=>Qht q)
def Qc9 : Nat→Qh→Option Int
 | 0,_=>none
 | n+1,e1=>Qh3 (Qc9 n) e1
def Qlh (e1:Qh):Option Int:=Qc9 (SizeOf.sizeOf e1) e1
theorem QoK (rec_expr_Depth:Qh→Option Int)(hrec_expr_Depth:∀(e1:Qh) {r:Int},rec_expr_Depth e1=some r→Qc Tryz.prog 178 [.agg (Ql e1)] [] (Gives (.i .i64 r) []))(e1:Qh){r:Int}(h:Qh3 rec_expr_Depth e1=some r):Qc Tryz.prog 178 [.agg (Ql e1)] [] (Gives (.i .i64 r) []):=by
 refine Qc.walk 20 Tryz.func178 rfl Tryz.ntmps178 rfl fun C hC=>?_
 unfold Qh3 at h
 refine Qa hC [.n 16,.o (.ln e1.Kids.length),.n 4,.keep [3,7,8,9] []] rfl ⟨tt_,Qh2 _⟩ ?_
 obtain⟨n7,hl11,h⟩:=Qb h
 refine AK.loop (body:=(fun st=>QdB e1 rec_expr_Depth st.1 st.2)) (fun st σ=>σ=⟨[(3,.i .i64 st.1),(7,.sl 3 (QaD e1.Kids)),(8,.i .i64 (e1.Kids.length:Int)),(9,.i .i64 st.2)],[]⟩) (fun q e σ=>e=.exit 0∧σ=⟨[(3,.i .i64 q)],[]⟩) hl11 rfl ?_ ?_
 ·rintro ⟨n3,x4⟩ o σ rfl h
  replace h:QdB e1 rec_expr_Depth n3 x4=some o:=h
  unfold QdB at h
  refine Qa hC [.n 6] rfl tt_ ?_
  rcases bifE h with⟨hc8,h⟩|⟨hc8,h⟩
  ·obtain⟨e9,he9,h⟩:=Qb h
   obtain⟨x10,hx10,h⟩:=Qb h
   refine Qa hC [.br true,.n 6,.o (.row (Ql e9)),.v .no [] (.agg (Ql e9)),.n 2,.sayO 5 (.var (Ql e9)),.n 4,.v .no [] (.agg (Ql e9)),.o (.c false [.d] (.i .i64 x10)),.n 9,.keep [3,7,8,9] []] rfl ⟨⟨⟨⟨⟨⟨tt_,hc8⟩,(Qdh he9)⟩,rfl⟩,rfl⟩,rfl⟩,(hrec_expr_Depth _ hx10)⟩ ?_
   cases h
   exact rndN rfl rfl
  ·refine Qa hC [.br false,.n 2,.keep [3] []] rfl ⟨tt_,hc8⟩ ?_
   cases h
   exact rndX rfl (an_ rfl rfl)
 ·replace h:Qht n7=some r:=h
  unfold Qht at h
  rintro e σ ⟨rfl,rfl⟩
  refine Qa hC [.n 10,.keep [2] []] rfl tt_ ?_
  cases h
  exact AK.done (ex_ [_] (an_ (an_ rfl tt_) (gives tt_)))
theorem QkS : ∀(fuel:Nat) (e1:Qh) {r:Int},Qc9 fuel e1=some r→Qc Tryz.prog 178 [.agg (Ql e1)] [] (Gives (.i .i64 r) [])
 | 0,_,_,h=>by cases h
 | n+1,e1,_,h=>QoK (Qc9 n) (fun _ _ h=>QkS n _ h) e1 h
theorem Qp6 (e1:Qh){r:Int}(h:Qlh e1=some r):Qc Tryz.prog 178 [.agg (Ql e1)] [] (Gives (.i .i64 r) []):=QkS _ e1 h
def Qeh (e1:Qh)(rec_expr_Size:Qh→Option Int)(n3:Int)(x4:Int):Option ((Int×Int)⊕Int):=
 bif (decide (x4<(e1.Kids.length:Int)))then
 (idx e1.Kids x4).bind fun e9=>
 (rec_expr_Size e9).bind fun x10=>
 some (.inl ((w64 (n3+x10)),(w64 (x4+1))))
 else
 some (.inr n3)
def Qh4 (n7:Int):Option Int:=
 some n7
def QiH (rec_expr_Size:Qh→Option Int)(e1:Qh):Option Int:=
 (QF (fun st=>Qeh e1 rec_expr_Size st.1 st.2) (1,0)).bind (fun q=>Qh4 q)
def QdO : Nat→Qh→Option Int
 | 0,_=>none
 | n+1,e1=>QiH (QdO n) e1
def Qmc (e1:Qh):Option Int:=QdO (SizeOf.sizeOf e1) e1
theorem Qpo (rec_expr_Size:Qh→Option Int)(hrec_expr_Size:∀(e1:Qh) {r:Int},rec_expr_Size e1=some r→Qc Tryz.prog 179 [.agg (Ql e1)] [] (Gives (.i .i64 r) []))(e1:Qh){r:Int}(h:QiH rec_expr_Size e1=some r):Qc Tryz.prog 179 [.agg (Ql e1)] [] (Gives (.i .i64 r) []):=by
 refine Qc.walk 19 Tryz.func179 rfl Tryz.ntmps179 rfl fun C hC=>?_
 unfold QiH at h
 refine Qa hC [.n 16,.o (.ln e1.Kids.length),.n 4,.keep [3,7,8,9] []] rfl ⟨tt_,Qh2 _⟩ ?_
 obtain⟨n7,hl11,h⟩:=Qb h
 refine AK.loop (body:=(fun st=>Qeh e1 rec_expr_Size st.1 st.2)) (fun st σ=>σ=⟨[(3,.i .i64 st.1),(7,.sl 3 (QaD e1.Kids)),(8,.i .i64 (e1.Kids.length:Int)),(9,.i .i64 st.2)],[]⟩) (fun q e σ=>e=.exit 0∧σ=⟨[(3,.i .i64 q)],[]⟩) hl11 rfl ?_ ?_
 ·rintro ⟨n3,x4⟩ o σ rfl h
  replace h:Qeh e1 rec_expr_Size n3 x4=some o:=h
  unfold Qeh at h
  refine Qa hC [.n 6] rfl tt_ ?_
  rcases bifE h with⟨hc8,h⟩|⟨hc8,h⟩
  ·obtain⟨e9,he9,h⟩:=Qb h
   obtain⟨x10,hx10,h⟩:=Qb h
   refine Qa hC [.br true,.n 6,.o (.row (Ql e9)),.v .no [] (.agg (Ql e9)),.n 2,.sayO 5 (.var (Ql e9)),.n 4,.v .no [] (.agg (Ql e9)),.o (.c false [.d] (.i .i64 x10)),.n 9,.keep [3,7,8,9] []] rfl ⟨⟨⟨⟨⟨⟨tt_,hc8⟩,(Qdh he9)⟩,rfl⟩,rfl⟩,rfl⟩,(hrec_expr_Size _ hx10)⟩ ?_
   cases h
   exact rndN rfl rfl
  ·refine Qa hC [.br false,.n 2,.keep [3] []] rfl ⟨tt_,hc8⟩ ?_
   cases h
   exact rndX rfl (an_ rfl rfl)
 ·replace h:Qh4 n7=some r:=h
  unfold Qh4 at h
  rintro e σ ⟨rfl,rfl⟩
  refine Qa hC [.n 9,.keep [2] []] rfl tt_ ?_
  cases h
  exact AK.done (ex_ [_] (an_ (an_ rfl tt_) (gives tt_)))
theorem Qli : ∀(fuel:Nat) (e1:Qh) {r:Int},QdO fuel e1=some r→Qc Tryz.prog 179 [.agg (Ql e1)] [] (Gives (.i .i64 r) [])
 | 0,_,_,h=>by cases h
 | n+1,e1,_,h=>Qpo (QdO n) (fun _ _ h=>Qli n _ h) e1 h
theorem QqK (e1:Qh){r:Int}(h:Qmc e1=some r):Qc Tryz.prog 179 [.agg (Ql e1)] [] (Gives (.i .i64 r) []):=Qli _ e1 h
def Qei (kind1:Int)(x6:Bool):Option Int:=
 bif x6 then
 some 1
 else
 bif (kind1==5)then
 some 2
 else
 bif (kind1==6)then
 some 3
 else
 some (-1)
def Qej (kind1:Int)(x4:Bool):Option Int:=
 bif x4 then
 some 0
 else
 bif (kind1==3)then
 Qei kind1 (kind1==3)
 else
 Qei kind1 (kind1==4)
def Qiv (kind1:Int):Option Int:=
 bif (kind1==1)then
 Qej kind1 (kind1==1)
 else
 Qej kind1 (kind1==2)
theorem QqL (kind1:Int){r:Int}(h:Qiv kind1=some r):Qc Tryz.prog 208 [.i .i64 kind1] [] (Gives (.i .i64 r) []):=by
 refine Qc.walk 14 Tryz.func208 rfl Tryz.ntmps208 rfl fun C hC=>?_
 unfold Qiv at h
 refine Qa hC [.n 12] rfl tt_ ?_
 refine AK.meet (fun σ=>∃x4:Bool,σ=⟨[(3,.i .i64 kind1),(4,.b x4)],[]⟩∧Qej kind1 x4=some r) ?_ ?_
 ·refine Qa hC [.n 6] rfl tt_ ?_
  rcases bifE h with⟨hc11,h⟩|⟨hc11,h⟩
  ·refine Qa hC [.br true,.n 1,.keep [3,4] []] rfl ⟨tt_,hc11⟩ ?_
   exact AK.met (ex_ _ (an_ rfl h))
  ·refine Qa hC [.br false,.n 4,.keep [3,4] []] rfl ⟨tt_,hc11⟩ ?_
   exact AK.met (ex_ _ (an_ rfl h))
 ·rintro σ ⟨x4,rfl,h⟩
  unfold Qej at h
  rcases bifE h with⟨hc5,h⟩|⟨hc5,h⟩
  ·refine Qa hC [.br true,.n 8,.keep [2] []] rfl ⟨tt_,hc5⟩ ?_
   cases h
   exact AK.done (ex_ [_] (an_ (an_ rfl tt_) (gives tt_)))
  ·refine Qa hC [.br false] rfl ⟨tt_,hc5⟩ ?_
   refine AK.meet (fun σ=>∃x6:Bool,σ=⟨[(3,.i .i64 kind1),(7,.b x6)],[]⟩∧Qei kind1 x6=some r) ?_ ?_
   ·refine Qa hC [.n 6] rfl tt_ ?_
    rcases bifE h with⟨hc10,h⟩|⟨hc10,h⟩
    ·refine Qa hC [.br true,.n 1,.keep [3,7] []] rfl ⟨tt_,hc10⟩ ?_
     exact AK.met (ex_ _ (an_ rfl h))
    ·refine Qa hC [.br false,.n 4,.keep [3,7] []] rfl ⟨tt_,hc10⟩ ?_
     exact AK.met (ex_ _ (an_ rfl h))
   ·rintro σ ⟨x6,rfl,h⟩
    unfold Qei at h
    rcases bifE h with⟨hc7,h⟩|⟨hc7,h⟩
    ·refine Qa hC [.br true,.n 8,.keep [2] []] rfl ⟨tt_,hc7⟩ ?_
     cases h
     exact AK.done (ex_ [_] (an_ (an_ rfl tt_) (gives tt_)))
    ·refine Qa hC [.br false,.n 6] rfl ⟨tt_,hc7⟩ ?_
     rcases bifE h with⟨hc8,h⟩|⟨hc8,h⟩
     ·refine Qa hC [.br true,.n 8,.keep [2] []] rfl ⟨tt_,hc8⟩ ?_
      cases h
      exact AK.done (ex_ [_] (an_ (an_ rfl tt_) (gives tt_)))
     ·refine Qa hC [.br false,.n 6] rfl ⟨tt_,hc8⟩ ?_
      rcases bifE h with⟨hc9,h⟩|⟨hc9,h⟩
      ·refine Qa hC [.br true,.n 8,.keep [2] []] rfl ⟨tt_,hc9⟩ ?_
       cases h
       exact AK.done (ex_ [_] (an_ (an_ rfl tt_) (gives tt_)))
      ·refine Qa hC [.br false,.n 9,.keep [2] []] rfl ⟨tt_,hc9⟩ ?_
       cases h
       exact AK.done (ex_ [_] (an_ (an_ rfl tt_) (gives tt_)))
def QhK (op1:Int):Option Bool:=
 some ((decide (1≤op1))&&(decide (op1≤11)))
theorem Qp7 (op1:Int){r:Bool}(h:QhK op1=some r):Qc Tryz.prog 209 [.i .i64 op1] [] (Gives (.b r) []):=by
 refine Qc.walk 9 Tryz.func209 rfl Tryz.ntmps209 rfl fun C hC=>?_
 unfold QhK at h
 refine Qa hC [.n 6] rfl tt_ ?_
 refine AK.meetX (fun σ=>σ=⟨[(2,.b ((decide (1≤op1))&&(decide (op1≤11))))],[]⟩) ?_ ?_
 ·refine Qa hC [.n 4] rfl tt_ ?_
  rcases QJ (decide (1≤op1))with hc4 | hc4
  ·refine Qa hC [.say 5 (.b true),.n 5,.say 2 (.b ((decide (1≤op1))&&(decide (op1≤11)))),.keep [2] []] rfl ⟨⟨tt_,(congrArg V.b hc4)⟩,(congrArg V.b (andT hc4 rfl))⟩ ?_
   exact AK.met rfl
  ·refine Qa hC [.say 5 (.b false),.n 5,.say 2 (.b ((decide (1≤op1))&&(decide (op1≤11)))),.keep [2] []] rfl ⟨⟨tt_,(congrArg V.b hc4)⟩,(congrArg V.b (andF hc4 rfl))⟩ ?_
   exact AK.met rfl
 ·rintro σ rfl
  refine Qa hC [.n 2,.keep [2] []] rfl tt_ ?_
  cases h
  exact AK.done (ex_ [_] (an_ (an_ rfl tt_) (gives tt_)))
def Qh5 (rec_expr_parts:Qh→Int→Option Bool)(k1:Qh)(v2:Int):Option Bool:=
 (rec_expr_parts k1 v2).bind fun x4=>
 some (!x4)
theorem QoL (rec_expr_parts:Qh→Int→Option Bool)(hrec_expr_parts:∀(e1:Qh) (vars2:Int) {r:Bool},rec_expr_parts e1 vars2=some r→Qc Tryz.prog 180 [.agg (Ql e1),.i .i64 vars2] [] (Gives (.b r) []))(k1:Qh)(v2:Int){r:Bool}(h:Qh5 rec_expr_parts k1 v2=some r):Qc Tryz.prog 211 [.agg (Ql k1),.loc 200000 0 0] [(200000,.var (Qe v2))] (Gives (.b r) [(200000,.var (Qe v2))]):=by
 refine Qc.walk 8 Tryz.func211 rfl Tryz.ntmps211 rfl fun C hC=>?_
 unfold Qh5 at h
 obtain⟨x4,hx4,h⟩:=Qb h
 refine Qa hC [.n 8,.v .no [] (.agg (Ql k1)),.n 1,.o (.c false [.d,.d] (.b x4)),.n 5,.keep [3] [200000]] rfl ⟨⟨tt_,rfl⟩,(hrec_expr_parts _ _ hx4)⟩ ?_
 cases h
 exact AK.done (ex_ [_] (an_ (an_ rfl tt_) (gives ⟨rfl,tt_⟩)))
def QR (s1:(List Qh))(rec_expr_parts:Qh→Int→Option Bool)(v2:Int)(x5:Int):Option (Int⊕(Int⊕Unit)):=
 bif (decide (x5<(s1.length:Int)))then
 (idx s1 x5).bind fun e9=>
 (Qh5 rec_expr_parts e9 v2).bind fun x10=>
 bif x10 then
 some (.inr (.inl x5))
 else
 some (.inl (w64 (x5+1)))
 else
 some (.inr (.inr ()))
def Qbh (x7:Int):Option Int:=
 some x7
def Qbi : Option Int:=
 some (-1)
def QaL (rec_expr_parts:Qh→Int→Option Bool)(s1:(List Qh))(v2:Int):Option Int:=
 (QF (fun st=>QR s1 rec_expr_parts v2 st) 0).bind (Sum.elim (fun q=>Qbh q) (fun q=>Qbi))
theorem QgT (rec_expr_parts:Qh→Int→Option Bool)(hrec_expr_parts:∀(e1:Qh) (vars2:Int) {r:Bool},rec_expr_parts e1 vars2=some r→Qc Tryz.prog 180 [.agg (Ql e1),.i .i64 vars2] [] (Gives (.b r) []))(s1:(List Qh))(v2:Int){r:Int}(h:QaL rec_expr_parts s1 v2=some r):Qc Tryz.prog 239 [.sl 3 (QaD s1),.clo (.func 211) [] [.loc 200000 0 0]] [(200000,.var (Qe v2))] (Gives (.i .i64 r) [(200000,.var (Qe v2))]):=by
 refine Qc.walk 19 Tryz.func239 rfl Tryz.ntmps239 rfl fun C hC=>?_
 unfold QaL at h
 refine Qa hC [.n 9,.o (.ln s1.length),.n 4,.keep [0,1,7,8] [200000]] rfl ⟨tt_,Qh2 _⟩ ?_
 obtain⟨o12,hl12,h⟩:=Qb h
 refine AK.loop (body:=(fun st=>QR s1 rec_expr_parts v2 st)) (fun st σ=>σ=⟨[(0,.sl 3 (QaD s1)),(1,.clo (.func 211) [] [.loc 200000 0 0]),(7,.i .i64 (s1.length:Int)),(8,.i .i64 st)],[(200000,.var (Qe v2))]⟩) (Sum.elim (fun q e σ=>e=.ret∧σ=⟨[(4,.i .i64 q)],[(200000,.var (Qe v2))]⟩) (fun q e σ=>e=.exit 0∧σ=⟨[],[(200000,.var (Qe v2))]⟩)) hl12 rfl ?_ ?_
 ·rintro x5 o σ rfl h
  replace h:QR s1 rec_expr_parts v2 x5=some o:=h
  unfold QR at h
  refine Qa hC [.n 6] rfl tt_ ?_
  rcases bifE h with⟨hc8,h⟩|⟨hc8,h⟩
  ·obtain⟨e9,he9,h⟩:=Qb h
   obtain⟨x10,hx10,h⟩:=Qb h
   refine Qa hC [.br true,.n 15,.o (.row (Ql e9)),.v .no [] (.agg (Ql e9)),.cm (.clo) [(200000,200000)] [(200000,200000)] [] [.d,.d] [(200000,.var (Qe v2))] (.b x10),.n 2] rfl ⟨⟨⟨⟨tt_,hc8⟩,(Qdh he9)⟩,rfl⟩,(QoL rec_expr_parts hrec_expr_parts _ _ hx10)⟩ ?_
   rcases bifE h with⟨hc11,h⟩|⟨hc11,h⟩
   ·refine Qa hC [.br true,.n 9,.keep [4] [200000]] rfl ⟨tt_,hc11⟩ ?_
    cases h
    exact rndR rfl (an_ rfl rfl)
   ·refine Qa hC [.br false,.n 7,.keep [0,1,7,8] [200000]] rfl ⟨tt_,hc11⟩ ?_
    cases h
    exact rndN rfl rfl
  ·refine Qa hC [.br false,.n 2,.keep [] [200000]] rfl ⟨tt_,hc8⟩ ?_
   cases h
   exact rndX rfl (an_ rfl rfl)
 ·rcases o12 with(x7 | _)
  ·replace h:Qbh x7=some r:=h
   unfold Qbh at h
   rintro e σ ⟨rfl,rfl⟩
   refine Qa hC [.n 2,.keep [4] [200000]] rfl tt_ ?_
   cases h
   exact AK.done (ex_ [_] (an_ (an_ rfl tt_) (gives ⟨rfl,tt_⟩)))
  ·replace h:Qbi=some r:=h
   unfold Qbi at h
   rintro e σ ⟨rfl,rfl⟩
   refine Qa hC [.n 8,.keep [4] [200000]] rfl tt_ ?_
   cases h
   exact AK.done (ex_ [_] (an_ (an_ rfl tt_) (gives ⟨rfl,tt_⟩)))
def Q7 (rec_expr_parts:Qh→Int→Option Bool)(s1:(List Qh))(v2:Int):Option Bool:=
 (QaL rec_expr_parts s1 v2).bind fun x4=>
 some (decide (0≤x4))
theorem Qf6 (rec_expr_parts:Qh→Int→Option Bool)(hrec_expr_parts:∀(e1:Qh) (vars2:Int) {r:Bool},rec_expr_parts e1 vars2=some r→Qc Tryz.prog 180 [.agg (Ql e1),.i .i64 vars2] [] (Gives (.b r) []))(s1:(List Qh))(v2:Int){r:Bool}(h:Q7 rec_expr_parts s1 v2=some r):Qc Tryz.prog 210 [.sl 3 (QaD s1),.clo (.func 211) [] [.loc 200000 0 0]] [(200000,.var (Qe v2))] (Gives (.b r) [(200000,.var (Qe v2))]):=by
 refine Qc.walk 9 Tryz.func210 rfl Tryz.ntmps210 rfl fun C hC=>?_
 unfold Q7 at h
 obtain⟨x4,hx4,h⟩:=Qb h
 refine Qa hC [.n 9,.cm (.fn) [(200000,200000)] [(200000,200000)] [] [.d,.d] [(200000,.var (Qe v2))] (.i .i64 x4),.n 5,.keep [4] [200000]] rfl ⟨tt_,(QgT rec_expr_parts hrec_expr_parts _ _ hx4)⟩ ?_
 cases h
 exact AK.done (ex_ [_] (an_ (an_ rfl tt_) (gives ⟨rfl,tt_⟩)))
def Qjq (e1:Qh):Option Bool:=
 bif (e1.Kind==5)then
 (QhK e1.Num).bind fun x14=>
 some (!x14)
 else
 some false
def Qfn (rec_expr_parts:Qh→Int→Option Bool)(e1:Qh)(vars2:Int)(x11:Bool):Option Bool:=
 bif x11 then
 some false
 else
 (Q7 rec_expr_parts e1.Kids vars2).bind fun x16=>
 some (!x16)
def Qh6 (rec_expr_parts:Qh→Int→Option Bool)(e1:Qh)(vars2:Int):Option Bool:=
 (Qiv e1.Kind).bind fun x5=>
 bif ((e1.Kids.length:Int) != x5)then
 some false
 else
 bif ((e1.Kind==2)&&((decide (e1.Num<0))||(decide (vars2≤e1.Num))))then
 some false
 else
 (Qjq e1).bind (fun x11=>Qfn rec_expr_parts e1 vars2 x11)
def Qda : Nat→Qh→Int→Option Bool
 | 0,_,_=>none
 | n+1,e1,vars2=>Qh6 (Qda n) e1 vars2
def Qlj (e1:Qh)(vars2:Int):Option Bool:=Qda (SizeOf.sizeOf e1) e1 vars2
theorem QoM (rec_expr_parts:Qh→Int→Option Bool)(hrec_expr_parts:∀(e1:Qh) (vars2:Int) {r:Bool},rec_expr_parts e1 vars2=some r→Qc Tryz.prog 180 [.agg (Ql e1),.i .i64 vars2] [] (Gives (.b r) []))(e1:Qh)(vars2:Int){r:Bool}(h:Qh6 rec_expr_parts e1 vars2=some r):Qc Tryz.prog 180 [.agg (Ql e1),.i .i64 vars2] [] (Gives (.b r) []):=by
 refine Qc.walk 43 Tryz.func180 rfl Tryz.ntmps180 rfl fun C hC=>?_
 unfold Qh6 at h
 obtain⟨x5,hx5,h⟩:=Qb h
 refine Qa hC [.n 10,.keep [2,3] [2,3]] rfl tt_ ?_
 refine AK.draw2 Qp hC mixed [.a .no none false,.a .no none false,.a (.ln e1.Kids.length) none false,.a .no none false,.a .no none false,.a (.c false [.d] (.i .i64 x5)) none false,.a .no none false,.a .no none false] [] [] [2,3,5] [2,3] rfl rfl rfl ⟨⟨tt_,Qh2 _⟩,(QqL _ hx5)⟩ rfl (by kernel_rfl) rfl rfl rfl ?_
 refine Qa hC [.n 1] rfl tt_ ?_
 rcases bifE h with⟨hc6,h⟩|⟨hc6,h⟩
 ·refine Qa hC [.br true,.n 8,.keep [4] []] rfl ⟨tt_,hc6⟩ ?_
  cases h
  exact AK.done (ex_ [_] (an_ (an_ rfl tt_) (gives tt_)))
 ·refine Qa hC [.br false,.n 1] rfl ⟨tt_,hc6⟩ ?_
  refine AK.meetX (fun σ=>σ=⟨[(2,.loc 2 0 0),(3,.loc 3 0 0),(13,.b ((e1.Kind==2)&&((decide (e1.Num<0))||(decide (vars2≤e1.Num)))))],[(2,.var (Ql e1)),(3,.var (Qe vars2))]⟩) ?_ ?_
  ·refine Qa hC [.n 5] rfl tt_ ?_
   rcases QJ (e1.Kind==2)with hc8 | hc8
   ·refine Qa hC [.say 17 (.b true),.n 4] rfl ⟨tt_,(congrArg V.b hc8)⟩ ?_
    rcases QJ (decide (e1.Num<0))with hc9 | hc9
    ·refine Qa hC [.say 21 (.b true),.n 8,.say 13 (.b ((e1.Kind==2)&&((decide (e1.Num<0))||(decide (vars2≤e1.Num))))),.keep [2,3,13] [2,3]] rfl ⟨⟨tt_,(congrArg V.b hc9)⟩,(congrArg V.b (andT hc8 (orT hc9 rfl)))⟩ ?_
     exact AK.met rfl
    ·refine Qa hC [.say 21 (.b false),.n 8,.say 13 (.b ((e1.Kind==2)&&((decide (e1.Num<0))||(decide (vars2≤e1.Num))))),.keep [2,3,13] [2,3]] rfl ⟨⟨tt_,(congrArg V.b hc9)⟩,(congrArg V.b (andT hc8 (orF hc9 rfl)))⟩ ?_
     exact AK.met rfl
   ·refine Qa hC [.say 17 (.b false),.n 12,.say 13 (.b ((e1.Kind==2)&&((decide (e1.Num<0))||(decide (vars2≤e1.Num))))),.keep [2,3,13] [2,3]] rfl ⟨⟨tt_,(congrArg V.b hc8)⟩,(congrArg V.b (andF hc8 rfl))⟩ ?_
    exact AK.met rfl
  ·rintro σ rfl
   refine Qa hC [.n 1] rfl tt_ ?_
   rcases bifE h with⟨hc10,h⟩|⟨hc10,h⟩
   ·refine Qa hC [.br true,.n 8,.keep [4] []] rfl ⟨tt_,hc10⟩ ?_
    cases h
    exact AK.done (ex_ [_] (an_ (an_ rfl tt_) (gives tt_)))
   ·refine Qa hC [.br false,.n 1] rfl ⟨tt_,hc10⟩ ?_
    obtain⟨x11,hv12,h⟩:=Qb h
    replace h:Qfn rec_expr_parts e1 vars2 x11=some r:=h
    refine AK.meetX (fun σ=>σ=⟨[(2,.loc 2 0 0),(3,.loc 3 0 0),(28,.b x11)],[(2,.var (Ql e1)),(3,.var (Qe vars2))]⟩) ?_ ?_
    ·replace h:=hv12
     unfold Qjq at h
     refine Qa hC [.n 5] rfl tt_ ?_
     rcases bifE h with⟨hc13,h⟩|⟨hc13,h⟩
     ·obtain⟨x14,hx14,h⟩:=Qb h
      refine Qa hC [.say 32 (.b true),.n 2,.o (.c false [.d] (.b x14)),.n 4,.keep [2,3,28] [2,3]] rfl ⟨⟨tt_,(congrArg V.b hc13)⟩,(Qp7 _ hx14)⟩ ?_
      cases h
      exact AK.met rfl
     ·refine Qa hC [.say 32 (.b false),.n 7,.keep [2,3,28] [2,3]] rfl ⟨tt_,(congrArg V.b hc13)⟩ ?_
      cases h
      exact AK.met rfl
    ·rintro σ rfl
     replace h:Qfn rec_expr_parts e1 vars2 x11=some r:=h
     unfold Qfn at h
     refine Qa hC [.n 1] rfl tt_ ?_
     rcases bifE h with⟨hc15,h⟩|⟨hc15,h⟩
     ·refine Qa hC [.br true,.n 8,.keep [4] []] rfl ⟨tt_,hc15⟩ ?_
      cases h
      exact AK.done (ex_ [_] (an_ (an_ rfl tt_) (gives tt_)))
     ·obtain⟨x16,hx16,h⟩:=Qb h
      refine Qa hC [.br false,.n 8,.cm (.fn) [(200000,3)] [(3,200000)] [] [.d,.d] [(200000,.var (Qe vars2))] (.b x16),.n 5,.keep [4] []] rfl ⟨⟨tt_,hc15⟩,(Qf6 rec_expr_parts hrec_expr_parts _ _ hx16)⟩ ?_
      cases h
      exact AK.done (ex_ [_] (an_ (an_ rfl tt_) (gives tt_)))
theorem QkT : ∀(fuel:Nat) (e1:Qh) (vars2:Int) {r:Bool},Qda fuel e1 vars2=some r→Qc Tryz.prog 180 [.agg (Ql e1),.i .i64 vars2] [] (Gives (.b r) [])
 | 0,_,_,_,h=>by cases h
 | n+1,e1,vars2,_,h=>QoM (Qda n) (fun _ _ _ h=>QkT n _ _ h) e1 vars2 h
theorem Qp8 (e1:Qh)(vars2:Int){r:Bool}(h:Qlj e1 vars2=some r):Qc Tryz.prog 180 [.agg (Ql e1),.i .i64 vars2] [] (Gives (.b r) []):=QkT _ e1 vars2 h
def Qjr (e1:Qh)(vars2:Int):Option Bool:=
 (Qlh e1).bind fun x6=>
 bif (decide (x6≤40))then
 (Qmc e1).bind fun x8=>
 bif (decide (x8≤400))then
 (Qlj e1 vars2).bind fun x10=>
 some x10
 else
 some false
 else
 some false
def Qhu (x4:Bool):Option Bool:=
 some x4
def QeB (e1:Qh)(vars2:Int):Option Bool:=
 (Qjr e1 vars2).bind (fun x4=>Qhu x4)
theorem Qjs (e1:Qh)(vars2:Int){r:Bool}(h:QeB e1 vars2=some r):Qc Tryz.prog 128 [.agg (Ql e1),.i .i64 vars2] [] (Gives (.b r) []):=by
 refine Qc.walk 18 Tryz.func128 rfl Tryz.ntmps128 rfl fun C hC=>?_
 unfold QeB at h
 refine Qa hC [.n 7] rfl tt_ ?_
 obtain⟨x4,hv5,h⟩:=Qb h
 replace h:Qhu x4=some r:=h
 refine AK.meetX (fun σ=>σ=⟨[(4,.b x4)],[]⟩) ?_ ?_
 ·replace h:=hv5
  unfold Qjr at h
  obtain⟨x6,hx6,h⟩:=Qb h
  refine Qa hC [.n 1,.v .no [] (.agg (Ql e1)),.o (.c false [.d] (.i .i64 x6)),.n 2] rfl ⟨⟨tt_,rfl⟩,(Qp6 _ hx6)⟩ ?_
  rcases bifE h with⟨hc7,h⟩|⟨hc7,h⟩
  ·obtain⟨x8,hx8,h⟩:=Qb h
   refine Qa hC [.say 8 (.b true),.v .no [] (.agg (Ql e1)),.o (.c false [.d] (.i .i64 x8)),.n 3] rfl ⟨⟨⟨tt_,(congrArg V.b hc7)⟩,rfl⟩,(QqK _ hx8)⟩ ?_
   rcases bifE h with⟨hc9,h⟩|⟨hc9,h⟩
   ·obtain⟨x10,hx10,h⟩:=Qb h
    refine Qa hC [.say 13 (.b true),.v .no [] (.agg (Ql e1)),.n 1,.o (.c false [.d,.d] (.b x10)),.n 3,.keep [4] []] rfl ⟨⟨⟨tt_,(congrArg V.b hc9)⟩,rfl⟩,(Qp8 _ _ hx10)⟩ ?_
    cases h
    exact AK.met rfl
   ·refine Qa hC [.say 13 (.b false),.n 6,.keep [4] []] rfl ⟨tt_,(congrArg V.b hc9)⟩ ?_
    cases h
    exact AK.met rfl
  ·refine Qa hC [.say 8 (.b false),.n 11,.keep [4] []] rfl ⟨tt_,(congrArg V.b hc7)⟩ ?_
   cases h
   exact AK.met rfl
 ·rintro σ rfl
  replace h:Qhu x4=some r:=h
  unfold Qhu at h
  refine Qa hC [.n 2,.keep [4] []] rfl tt_ ?_
  cases h
  exact AK.done (ex_ [_] (an_ (an_ rfl tt_) (gives tt_)))
def Qa9 (v1:(List Int))(kind2:Int)(x10:Bool):Option ((List Int)⊕((List Int)⊕((List Int)⊕((List Int)⊕(List Int))))):=
 bif x10 then
 some (.inr (.inr (.inl v1)))
 else
 bif (kind2==5)then
 some (.inr (.inr (.inr (.inl v1))))
 else
 some (.inr (.inr (.inr (.inr v1))))
def Qbs (v1:(List Int))(kind2:Int):Option ((List Int)⊕((List Int)⊕((List Int)⊕((List Int)⊕(List Int))))):=
 bif (kind2==1)then
 some (.inl v1)
 else
 bif (kind2==2)then
 some (.inr (.inl v1))
 else
 bif (kind2==3)then
 Qa9 v1 kind2 (kind2==3)
 else
 Qa9 v1 kind2 (kind2==4)
theorem Qdp (v1:(List Int))(kind2:Int){r:((List Int)⊕((List Int)⊕((List Int)⊕((List Int)⊕(List Int)))))}(h:Qbs v1 kind2=some r):Qc Tryz.prog 202 [.sl 1 (v1.map Qe),.i .i64 kind2] [] ((Sum.elim (fun q=>(Gives (.clo (.func 230) [.sl 1 (q.map Qe)] []) [])) (Sum.elim (fun q=>(Gives (.clo (.func 231) [.sl 1 (q.map Qe)] []) [])) (Sum.elim (fun q=>(Gives (.clo (.func 232) [.sl 1 (q.map Qe)] []) [])) (Sum.elim (fun q=>(Gives (.clo (.func 233) [.sl 1 (q.map Qe)] []) [])) (fun q=>(Gives (.clo (.func 234) [.sl 1 (q.map Qe)] []) [])))))) r):=by
 refine Qc.walk 25 Tryz.func202 rfl Tryz.ntmps202 rfl fun C hC=>?_
 unfold Qbs at h
 refine Qa hC [.n 18] rfl tt_ ?_
 rcases bifE h with⟨hc8,h⟩|⟨hc8,h⟩
 ·refine Qa hC [.br true,.n 10,.keep [4] []] rfl ⟨tt_,hc8⟩ ?_
  cases h
  exact AK.done (ex_ [_] (an_ (an_ rfl tt_) (gives tt_)))
 ·refine Qa hC [.br false,.n 6] rfl ⟨tt_,hc8⟩ ?_
  rcases bifE h with⟨hc9,h⟩|⟨hc9,h⟩
  ·refine Qa hC [.br true,.n 10,.keep [4] []] rfl ⟨tt_,hc9⟩ ?_
   cases h
   exact AK.done (ex_ [_] (an_ (an_ rfl tt_) (gives tt_)))
  ·refine Qa hC [.br false] rfl ⟨tt_,hc9⟩ ?_
   refine AK.meet (fun σ=>∃x10:Bool,σ=⟨[(0,.sl 1 (v1.map Qe)),(5,.i .i64 kind2),(14,.b x10)],[]⟩∧Qa9 v1 kind2 x10=some r) ?_ ?_
   ·refine Qa hC [.n 6] rfl tt_ ?_
    rcases bifE h with⟨hc13,h⟩|⟨hc13,h⟩
    ·refine Qa hC [.br true,.n 1,.keep [0,5,14] []] rfl ⟨tt_,hc13⟩ ?_
     exact AK.met (ex_ _ (an_ rfl h))
    ·refine Qa hC [.br false,.n 4,.keep [0,5,14] []] rfl ⟨tt_,hc13⟩ ?_
     exact AK.met (ex_ _ (an_ rfl h))
   ·rintro σ ⟨x10,rfl,h⟩
    unfold Qa9 at h
    rcases bifE h with⟨hc11,h⟩|⟨hc11,h⟩
    ·refine Qa hC [.br true,.n 10,.keep [4] []] rfl ⟨tt_,hc11⟩ ?_
     cases h
     exact AK.done (ex_ [_] (an_ (an_ rfl tt_) (gives tt_)))
    ·refine Qa hC [.br false,.n 6] rfl ⟨tt_,hc11⟩ ?_
     rcases bifE h with⟨hc12,h⟩|⟨hc12,h⟩
     ·refine Qa hC [.br true,.n 10,.keep [4] []] rfl ⟨tt_,hc12⟩ ?_
      cases h
      exact AK.done (ex_ [_] (an_ (an_ rfl tt_) (gives tt_)))
     ·refine Qa hC [.br false,.n 11,.keep [4] []] rfl ⟨tt_,hc12⟩ ?_
      cases h
      exact AK.done (ex_ [_] (an_ (an_ rfl tt_) (gives tt_)))
def Qih (v1:(List Int))(e2:Qh):Option (Int×Int):=
 some (e2.Num,0)
theorem Qm3 (v1:(List Int))(e2:Qh){r:(Int×Int)}(h:Qih v1 e2=some r):Qc Tryz.prog 230 [.sl 1 (v1.map Qe),.agg (Ql e2)] [] (Gives (.tup [.i .i64 r.1,.i .i64 r.2]) []):=by
 refine Qc.walk 8 Tryz.func230 rfl Tryz.ntmps230 rfl fun C hC=>?_
 unfold Qih at h
 refine Qa hC [.n 16,.keep [4,5] []] rfl tt_ ?_
 cases h
 exact AK.done (ex_ [_,_] (an_ (an_ rfl (an_ rfl tt_)) (gives tt_)))
def Qe3 (v1:(List Int))(e2:Qh):Option (Int×Int):=
 (idx v1 e2.Num).bind fun e5=>
 some (e5,0)
theorem Qmd (v1:(List Int))(e2:Qh){r:(Int×Int)}(h:Qe3 v1 e2=some r):Qc Tryz.prog 231 [.sl 1 (v1.map Qe),.agg (Ql e2)] [] (Gives (.tup [.i .i64 r.1,.i .i64 r.2]) []):=by
 refine Qc.walk 11 Tryz.func231 rfl Tryz.ntmps231 rfl fun C hC=>?_
 unfold Qe3 at h
 obtain⟨e5,he5,h⟩:=Qb h
 refine Qa hC [.n 12,.o (.row (Qe e5)),.n 6,.keep [4,5] []] rfl ⟨tt_,(idxM he5)⟩ ?_
 cases h
 exact AK.done (ex_ [_,_] (an_ (an_ rfl (an_ rfl tt_)) (gives tt_)))
def Qjt (a1:Int)(b2:Int):Option (Int×Int):=
 bif (((decide (a1<0))==(decide (b2<0)))&&((decide ((w64 (a1+b2))<0)) != (decide (a1<0))))then
 some (0,6)
 else
 some ((w64 (a1+b2)),0)
theorem Qri (a1:Int)(b2:Int){r:(Int×Int)}(h:Qjt a1 b2=some r):Qc Tryz.prog 253 [.i .i64 a1,.i .i64 b2] [] (Gives (.tup [.i .i64 r.1,.i .i64 r.2]) []):=by
 refine Qc.walk 23 Tryz.func253 rfl Tryz.ntmps253 rfl fun C hC=>?_
 unfold Qjt at h
 refine Qa hC [.n 16] rfl tt_ ?_
 refine AK.meetX (fun σ=>σ=⟨[(6,.i .i64 (w64 (a1+b2))),(21,.b (((decide (a1<0))==(decide (b2<0)))&&((decide ((w64 (a1+b2))<0)) != (decide (a1<0)))))],[]⟩) ?_ ?_
 ·refine Qa hC [.n 7] rfl tt_ ?_
  rcases QJ ((decide (a1<0))==(decide (b2<0)))with hc8 | hc8
  ·refine Qa hC [.say 15 (.b true),.n 7,.say 21 (.b (((decide (a1<0))==(decide (b2<0)))&&((decide ((w64 (a1+b2))<0)) != (decide (a1<0))))),.keep [6,21] []] rfl ⟨⟨tt_,(congrArg V.b hc8)⟩,(congrArg V.b (andT hc8 rfl))⟩ ?_
   exact AK.met rfl
  ·refine Qa hC [.say 15 (.b false),.n 7,.say 21 (.b (((decide (a1<0))==(decide (b2<0)))&&((decide ((w64 (a1+b2))<0)) != (decide (a1<0))))),.keep [6,21] []] rfl ⟨⟨tt_,(congrArg V.b hc8)⟩,(congrArg V.b (andF hc8 rfl))⟩ ?_
   exact AK.met rfl
 ·rintro σ rfl
  refine Qa hC [.n 1] rfl tt_ ?_
  rcases bifE h with⟨hc9,h⟩|⟨hc9,h⟩
  ·refine Qa hC [.br true,.n 8,.keep [4,5] []] rfl ⟨tt_,hc9⟩ ?_
   cases h
   exact AK.done (ex_ [_,_] (an_ (an_ rfl (an_ rfl tt_)) (gives tt_)))
  ·refine Qa hC [.br false,.n 10,.keep [4,5] []] rfl ⟨tt_,hc9⟩ ?_
   cases h
   exact AK.done (ex_ [_,_] (an_ (an_ rfl (an_ rfl tt_)) (gives tt_)))
def QdW (a1:Int)(b2:Int):Option (Int×Int):=
 bif (((decide (a1<0)) != (decide (b2<0)))&&((decide ((w64 (a1-b2))<0)) != (decide (a1<0))))then
 some (0,6)
 else
 some ((w64 (a1-b2)),0)
theorem Qm4 (a1:Int)(b2:Int){r:(Int×Int)}(h:QdW a1 b2=some r):Qc Tryz.prog 254 [.i .i64 a1,.i .i64 b2] [] (Gives (.tup [.i .i64 r.1,.i .i64 r.2]) []):=by
 refine Qc.walk 23 Tryz.func254 rfl Tryz.ntmps254 rfl fun C hC=>?_
 unfold QdW at h
 refine Qa hC [.n 16] rfl tt_ ?_
 refine AK.meetX (fun σ=>σ=⟨[(6,.i .i64 (w64 (a1-b2))),(21,.b (((decide (a1<0)) != (decide (b2<0)))&&((decide ((w64 (a1-b2))<0)) != (decide (a1<0)))))],[]⟩) ?_ ?_
 ·refine Qa hC [.n 7] rfl tt_ ?_
  rcases QJ ((decide (a1<0)) != (decide (b2<0)))with hc8 | hc8
  ·refine Qa hC [.say 15 (.b true),.n 7,.say 21 (.b (((decide (a1<0)) != (decide (b2<0)))&&((decide ((w64 (a1-b2))<0)) != (decide (a1<0))))),.keep [6,21] []] rfl ⟨⟨tt_,(congrArg V.b hc8)⟩,(congrArg V.b (andT hc8 rfl))⟩ ?_
   exact AK.met rfl
  ·refine Qa hC [.say 15 (.b false),.n 7,.say 21 (.b (((decide (a1<0)) != (decide (b2<0)))&&((decide ((w64 (a1-b2))<0)) != (decide (a1<0))))),.keep [6,21] []] rfl ⟨⟨tt_,(congrArg V.b hc8)⟩,(congrArg V.b (andF hc8 rfl))⟩ ?_
   exact AK.met rfl
 ·rintro σ rfl
  refine Qa hC [.n 1] rfl tt_ ?_
  rcases bifE h with⟨hc9,h⟩|⟨hc9,h⟩
  ·refine Qa hC [.br true,.n 8,.keep [4,5] []] rfl ⟨tt_,hc9⟩ ?_
   cases h
   exact AK.done (ex_ [_,_] (an_ (an_ rfl (an_ rfl tt_)) (gives tt_)))
  ·refine Qa hC [.br false,.n 10,.keep [4,5] []] rfl ⟨tt_,hc9⟩ ?_
   cases h
   exact AK.done (ex_ [_,_] (an_ (an_ rfl (an_ rfl tt_)) (gives tt_)))
def Qg6 (a1:Int):Option Int:=
 bif (decide (a1<0))then
 some (IntKind.u64.wrap (0-(IntKind.u64.wrap a1)))
 else
 some (IntKind.u64.wrap a1)
theorem Qmu (a1:Int){r:Int}(h:Qg6 a1=some r):Qc Tryz.prog 260 [.i .i64 a1] [] (Gives (.i .u64 r) []):=by
 refine Qc.walk 10 Tryz.func260 rfl Tryz.ntmps260 rfl fun C hC=>?_
 unfold Qg6 at h
 refine Qa hC [.n 12] rfl tt_ ?_
 rcases bifE h with⟨hc4,h⟩|⟨hc4,h⟩
 ·refine Qa hC [.br true,.n 3,.o (.any (.i .u64 (IntKind.u64.wrap a1)) none),.n 6,.keep [2] []] rfl ⟨⟨tt_,hc4⟩,(fun σ h1 h2 _=>Stp.convI rfl rfl (bleN hC.n rfl) (h1 _ _ rfl) it_3 Qn0)⟩ ?_
  cases h
  exact AK.done (ex_ [_] (an_ (an_ rfl tt_) (gives tt_)))
 ·refine Qa hC [.br false,.n 5,.o (.any (.i .u64 (IntKind.u64.wrap a1)) none),.n 4,.keep [2] []] rfl ⟨⟨tt_,hc4⟩,(fun σ h1 h2 _=>Stp.convI rfl rfl (bleN hC.n rfl) (h1 _ _ rfl) it_3 Qn0)⟩ ?_
  cases h
  exact AK.done (ex_ [_] (an_ (an_ rfl tt_) (gives tt_)))
def QdX (p1:Int)(y2:Int):Option (Int×Int):=
 some ((IntKind.u64.wrap ((IntKind.u64.wrap ((IntKind.u64.wrap ((shrI .u64 p1 32)*(shrI .u64 y2 32)))+(shrI .u64 (IntKind.u64.wrap ((IntKind.u64.wrap ((shrI .u64 p1 32)*(andI .u64 y2 4294967295)))+(shrI .u64 (IntKind.u64.wrap ((andI .u64 p1 4294967295)*(andI .u64 y2 4294967295))) 32))) 32)))+(shrI .u64 (IntKind.u64.wrap ((andI .u64 (IntKind.u64.wrap ((IntKind.u64.wrap ((shrI .u64 p1 32)*(andI .u64 y2 4294967295)))+(shrI .u64 (IntKind.u64.wrap ((andI .u64 p1 4294967295)*(andI .u64 y2 4294967295))) 32))) 4294967295)+(IntKind.u64.wrap ((andI .u64 p1 4294967295)*(shrI .u64 y2 32))))) 32))),(IntKind.u64.wrap (p1*y2)))
theorem Qm5 (p1:Int)(y2:Int){r:(Int×Int)}(h:QdX p1 y2=some r):Qc Tryz.prog 259 [.i .u64 p1,.i .u64 y2] [] (Gives (.tup [.i .u64 r.1,.i .u64 r.2]) []):=by
 refine Qc.walk 51 Tryz.func259 rfl Tryz.ntmps259 rfl fun C hC=>?_
 unfold QdX at h
 refine Qa hC [.n 9,.o (.any (.i .u64 (andI .u64 p1 4294967295)) none),.n 6,.o (.any (.i .u64 (shrI .u64 p1 32)) none),.n 6,.o (.any (.i .u64 (andI .u64 y2 4294967295)) none),.n 6,.o (.any (.i .u64 (shrI .u64 y2 32)) none),.n 17,.o (.any (.i .u64 (shrI .u64 (IntKind.u64.wrap ((andI .u64 p1 4294967295)*(andI .u64 y2 4294967295))) 32)) none),.n 7,.o (.any (.i .u64 (andI .u64 (IntKind.u64.wrap ((IntKind.u64.wrap ((shrI .u64 p1 32)*(andI .u64 y2 4294967295)))+(shrI .u64 (IntKind.u64.wrap ((andI .u64 p1 4294967295)*(andI .u64 y2 4294967295))) 32))) 4294967295)) none),.n 6,.o (.any (.i .u64 (shrI .u64 (IntKind.u64.wrap ((IntKind.u64.wrap ((shrI .u64 p1 32)*(andI .u64 y2 4294967295)))+(shrI .u64 (IntKind.u64.wrap ((andI .u64 p1 4294967295)*(andI .u64 y2 4294967295))) 32))) 32)) none),.n 21,.o (.any (.i .u64 (shrI .u64 (IntKind.u64.wrap ((andI .u64 (IntKind.u64.wrap ((IntKind.u64.wrap ((shrI .u64 p1 32)*(andI .u64 y2 4294967295)))+(shrI .u64 (IntKind.u64.wrap ((andI .u64 p1 4294967295)*(andI .u64 y2 4294967295))) 32))) 4294967295)+(IntKind.u64.wrap ((andI .u64 p1 4294967295)*(shrI .u64 y2 32))))) 32)) none),.n 13,.keep [4,5] []] rfl ⟨⟨⟨⟨⟨⟨⟨⟨tt_,(fun σ h1 h2 _=>Stp.andB rfl rfl (bleN hC.n rfl) (h1 _ _ rfl) (h1 _ _ rfl))⟩,(fun σ h1 h2 _=>Stp.shr rfl rfl (bleN hC.n rfl) (h1 _ _ rfl) (h1 _ _ rfl) (by decide))⟩,(fun σ h1 h2 _=>Stp.andB rfl rfl (bleN hC.n rfl) (h1 _ _ rfl) (h1 _ _ rfl))⟩,(fun σ h1 h2 _=>Stp.shr rfl rfl (bleN hC.n rfl) (h1 _ _ rfl) (h1 _ _ rfl) (by decide))⟩,(fun σ h1 h2 _=>Stp.shr rfl rfl (bleN hC.n rfl) (h1 _ _ rfl) (h1 _ _ rfl) (by decide))⟩,(fun σ h1 h2 _=>Stp.andB rfl rfl (bleN hC.n rfl) (h1 _ _ rfl) (h1 _ _ rfl))⟩,(fun σ h1 h2 _=>Stp.shr rfl rfl (bleN hC.n rfl) (h1 _ _ rfl) (h1 _ _ rfl) (by decide))⟩,(fun σ h1 h2 _=>Stp.shr rfl rfl (bleN hC.n rfl) (h1 _ _ rfl) (h1 _ _ rfl) (by decide))⟩ ?_
 cases h
 exact AK.done (ex_ [_,_] (an_ (an_ rfl (an_ rfl tt_)) (gives tt_)))
def QcS (x9:(Int×Int))(a1:Int)(b2:Int)(most10:Int):Option (Int×Int):=
 bif ((decide (0<x9.1))||(decide (most10<x9.2)))then
 some (0,6)
 else
 some ((w64 (a1*b2)),0)
def Qf7 (a1:Int)(b2:Int):Option (Int×Int):=
 (Qg6 a1).bind fun x7=>
 (Qg6 b2).bind fun x8=>
 (QdX x7 x8).bind fun x9=>
 bif ((decide (a1<0)) != (decide (b2<0)))then
 QcS x9 a1 b2 (IntKind.u64.wrap (9223372036854775807+1))
 else
 QcS x9 a1 b2 9223372036854775807
theorem QoN (a1:Int)(b2:Int){r:(Int×Int)}(h:Qf7 a1 b2=some r):Qc Tryz.prog 255 [.i .i64 a1,.i .i64 b2] [] (Gives (.tup [.i .i64 r.1,.i .i64 r.2]) []):=by
 refine Qc.walk 34 Tryz.func255 rfl Tryz.ntmps255 rfl fun C hC=>?_
 unfold Qf7 at h
 obtain⟨x7,hx7,h⟩:=Qb h
 obtain⟨x8,hx8,h⟩:=Qb h
 obtain⟨x9,hx9,h⟩:=Qb h
 refine Qa hC [.n 9,.o (.c false [.d] (.i .u64 x7)),.n 1,.o (.c false [.d] (.i .u64 x8)),.o (.c false [.d,.d] (.tup [.i .u64 x9.1,.i .u64 x9.2])),.n 12] rfl ⟨⟨⟨tt_,(Qmu _ hx7)⟩,(Qmu _ hx8)⟩,(Qm5 _ _ hx9)⟩ ?_
 refine AK.meet (fun σ=>∃most10:Int,σ=⟨[(0,.i .i64 a1),(1,.i .i64 b2),(6,.i .u64 x9.1),(7,.i .u64 x9.2),(8,.i .u64 most10)],[]⟩∧QcS x9 a1 b2 most10=some r) ?_ ?_
 ·refine Qa hC [.n 9] rfl tt_ ?_
  rcases bifE h with⟨hc14,h⟩|⟨hc14,h⟩
  ·refine Qa hC [.br true,.n 5,.keep [0,1,6,7,8] []] rfl ⟨tt_,hc14⟩ ?_
   exact AK.met (ex_ _ (an_ rfl h))
  ·refine Qa hC [.br false,.n 1,.keep [0,1,6,7,8] []] rfl ⟨tt_,hc14⟩ ?_
   exact AK.met (ex_ _ (an_ rfl h))
 ·rintro σ ⟨most10,rfl,h⟩
  unfold QcS at h
  refine Qa hC [.n 2] rfl tt_ ?_
  refine AK.meetX (fun σ=>σ=⟨[(0,.i .i64 a1),(1,.i .i64 b2),(30,.b ((decide (0<x9.1))||(decide (most10<x9.2))))],[]⟩) ?_ ?_
  ·refine Qa hC [.n 4] rfl tt_ ?_
   rcases QJ (decide (0<x9.1))with hc12 | hc12
   ·refine Qa hC [.say 26 (.b true),.n 5,.say 30 (.b ((decide (0<x9.1))||(decide (most10<x9.2)))),.keep [0,1,30] []] rfl ⟨⟨tt_,(congrArg V.b hc12)⟩,(congrArg V.b (orT hc12 rfl))⟩ ?_
    exact AK.met rfl
   ·refine Qa hC [.say 26 (.b false),.n 5,.say 30 (.b ((decide (0<x9.1))||(decide (most10<x9.2)))),.keep [0,1,30] []] rfl ⟨⟨tt_,(congrArg V.b hc12)⟩,(congrArg V.b (orF hc12 rfl))⟩ ?_
    exact AK.met rfl
  ·rintro σ rfl
   refine Qa hC [.n 1] rfl tt_ ?_
   rcases bifE h with⟨hc13,h⟩|⟨hc13,h⟩
   ·refine Qa hC [.br true,.n 8,.keep [4,5] []] rfl ⟨tt_,hc13⟩ ?_
    cases h
    exact AK.done (ex_ [_,_] (an_ (an_ rfl (an_ rfl tt_)) (gives tt_)))
   ·refine Qa hC [.br false,.n 12,.keep [4,5] []] rfl ⟨tt_,hc13⟩ ?_
    cases h
    exact AK.done (ex_ [_,_] (an_ (an_ rfl (an_ rfl tt_)) (gives tt_)))
def QdC (a1:Int)(b2:Int):Option (Int×Int×Int):=
 bif (b2==0)then
 some (0,0,7)
 else
 bif ((a1==(-9223372036854775808))&&(b2==(-1)))then
 some (0,0,6)
 else
 (chk (b2 != 0)).bind fun _=>
 (chk (b2 != 0)).bind fun _=>
 some ((w64 (Int.tdiv a1 b2)),(Int.tmod a1 b2),0)
theorem Qkv (a1:Int)(b2:Int){r:(Int×Int×Int)}(h:QdC a1 b2=some r):Qc Tryz.prog 256 [.i .i64 a1,.i .i64 b2] [] (Gives (.tup [.i .i64 r.1,.i .i64 r.2.1,.i .i64 r.2.2]) []):=by
 refine Qc.walk 23 Tryz.func256 rfl Tryz.ntmps256 rfl fun C hC=>?_
 unfold QdC at h
 refine Qa hC [.n 16] rfl tt_ ?_
 rcases bifE h with⟨hc9,h⟩|⟨hc9,h⟩
 ·refine Qa hC [.br true,.n 10,.keep [4,5,6] []] rfl ⟨tt_,hc9⟩ ?_
  cases h
  exact AK.done (ex_ [_,_,_] (an_ (an_ rfl (an_ rfl (an_ rfl tt_))) (gives tt_)))
 ·refine Qa hC [.br false,.n 1] rfl ⟨tt_,hc9⟩ ?_
  refine AK.meetX (fun σ=>σ=⟨[(0,.i .i64 a1),(1,.i .i64 b2),(10,.b ((a1==(-9223372036854775808))&&(b2==(-1))))],[]⟩) ?_ ?_
  ·refine Qa hC [.n 4] rfl tt_ ?_
   rcases QJ (a1==(-9223372036854775808))with hc11 | hc11
   ·refine Qa hC [.say 13 (.b true),.n 5,.say 10 (.b ((a1==(-9223372036854775808))&&(b2==(-1)))),.keep [0,1,10] []] rfl ⟨⟨tt_,(congrArg V.b hc11)⟩,(congrArg V.b (andT hc11 rfl))⟩ ?_
    exact AK.met rfl
   ·refine Qa hC [.say 13 (.b false),.n 5,.say 10 (.b ((a1==(-9223372036854775808))&&(b2==(-1)))),.keep [0,1,10] []] rfl ⟨⟨tt_,(congrArg V.b hc11)⟩,(congrArg V.b (andF hc11 rfl))⟩ ?_
    exact AK.met rfl
  ·rintro σ rfl
   refine Qa hC [.n 1] rfl tt_ ?_
   rcases bifE h with⟨hc12,h⟩|⟨hc12,h⟩
   ·refine Qa hC [.br true,.n 10,.keep [4,5,6] []] rfl ⟨tt_,hc12⟩ ?_
    cases h
    exact AK.done (ex_ [_,_,_] (an_ (an_ rfl (an_ rfl (an_ rfl tt_))) (gives tt_)))
   ·obtain⟨_,hk13,h⟩:=Qb h
    replace hk13:=chkE hk13
    obtain⟨_,hk14,h⟩:=Qb h
    replace hk14:=chkE hk14
    refine Qa hC [.br false,.n 4,.keep [0,1] []] rfl ⟨tt_,hc12⟩ ?_
    refine AK.draw2 Qp hC mixed [.a .no none false,.a .no none false,.a .no none false,.a .no none false,.a .no none false,.a .no none false,.a .no none false,.a .no none false,.a .no none false] [] [] [4,5,6] [] rfl rfl rfl ⟨⟨tt_,(neZ hk13)⟩,(neZ hk14)⟩ rfl (by kernel_rfl) rfl rfl rfl ?_
    refine Qa hC [.n 2,.keep [4,5,6] []] rfl tt_ ?_
    cases h
    exact AK.done (ex_ [_,_,_] (an_ (an_ rfl (an_ rfl (an_ rfl tt_))) (gives tt_)))
def Qce (is1:Bool):Option (Int×Int):=
 bif is1 then
 some (1,0)
 else
 some (0,0)
theorem QcU (is1:Bool){r:(Int×Int)}(h:Qce is1=some r):Qc Tryz.prog 257 [.b is1] [] (Gives (.tup [.i .i64 r.1,.i .i64 r.2]) []):=by
 refine Qc.walk 5 Tryz.func257 rfl Tryz.ntmps257 rfl fun C hC=>?_
 unfold Qce at h
 refine Qa hC [.n 12] rfl tt_ ?_
 rcases bifE h with⟨hc5,h⟩|⟨hc5,h⟩
 ·refine Qa hC [.br true,.n 8,.keep [2,3] []] rfl ⟨tt_,hc5⟩ ?_
  cases h
  exact AK.done (ex_ [_,_] (an_ (an_ rfl (an_ rfl tt_)) (gives tt_)))
 ·refine Qa hC [.br false,.n 9,.keep [2,3] []] rfl ⟨tt_,hc5⟩ ?_
  cases h
  exact AK.done (ex_ [_,_] (an_ (an_ rfl (an_ rfl tt_)) (gives tt_)))
def Qlk (a2:Int)(b3:Int):Option (Int×Int):=
 bif (a2 != 0)then
 (Qce (b3 != 0)).bind fun x31=>
 some (x31.1,x31.2)
 else
 (Qce false).bind fun x32=>
 some (x32.1,x32.2)
def QhL (x27:Int)(x28:Int):Option (Int×Int):=
 some (x27,x28)
def Qll (a2:Int)(b3:Int):Option (Int×Int):=
 bif (a2 != 0)then
 (Qce true).bind fun x38=>
 some (x38.1,x38.2)
 else
 (Qce (b3 != 0)).bind fun x39=>
 some (x39.1,x39.2)
def QhM (x34:Int)(x35:Int):Option (Int×Int):=
 some (x34,x35)
def Qgy (op1:Int)(a2:Int)(b3:Int):Option (Int×Int):=
 bif (op1==1)then
 (Qjt a2 b3).bind fun x9=>
 some (x9.1,x9.2)
 else
 bif (op1==2)then
 (QdW a2 b3).bind fun x11=>
 some (x11.1,x11.2)
 else
 bif (op1==3)then
 (Qf7 a2 b3).bind fun x13=>
 some (x13.1,x13.2)
 else
 bif (op1==4)then
 (QdC a2 b3).bind fun x15=>
 some (x15.1,x15.2.2)
 else
 bif (op1==5)then
 (QdC a2 b3).bind fun x17=>
 some (x17.2.1,x17.2.2)
 else
 bif (op1==6)then
 (Qce (a2==b3)).bind fun x19=>
 some (x19.1,x19.2)
 else
 bif (op1==7)then
 (Qce (a2 != b3)).bind fun x21=>
 some (x21.1,x21.2)
 else
 bif (op1==8)then
 (Qce (decide (a2<b3))).bind fun x23=>
 some (x23.1,x23.2)
 else
 bif (op1==9)then
 (Qce (decide (a2≤b3))).bind fun x25=>
 some (x25.1,x25.2)
 else
 bif (op1==10)then
 (Qlk a2 b3).bind (fun v=>QhL v.1 v.2)
 else
 bif (op1==11)then
 (Qll a2 b3).bind (fun v=>QhM v.1 v.2)
 else
 some (0,1)
theorem Qju (op1:Int)(a2:Int)(b3:Int){r:(Int×Int)}(h:Qgy op1 a2 b3=some r):Qc Tryz.prog 249 [.i .i64 op1,.i .i64 a2,.i .i64 b3] [] (Gives (.tup [.i .i64 r.1,.i .i64 r.2]) []):=by
 refine Qc.walk 112 Tryz.func249 rfl Tryz.ntmps249 rfl fun C hC=>?_
 unfold Qgy at h
 refine Qa hC [.n 19] rfl tt_ ?_
 rcases bifE h with⟨hc8,h⟩|⟨hc8,h⟩
 ·obtain⟨x9,hx9,h⟩:=Qb h
  refine Qa hC [.br true,.n 4,.o (.c false [.d,.d] (.tup [.i .i64 x9.1,.i .i64 x9.2])),.n 9,.keep [6,7] []] rfl ⟨⟨tt_,hc8⟩,(Qri _ _ hx9)⟩ ?_
  cases h
  exact AK.done (ex_ [_,_] (an_ (an_ rfl (an_ rfl tt_)) (gives tt_)))
 ·refine Qa hC [.br false,.n 6] rfl ⟨tt_,hc8⟩ ?_
  rcases bifE h with⟨hc10,h⟩|⟨hc10,h⟩
  ·obtain⟨x11,hx11,h⟩:=Qb h
   refine Qa hC [.br true,.n 4,.o (.c false [.d,.d] (.tup [.i .i64 x11.1,.i .i64 x11.2])),.n 9,.keep [6,7] []] rfl ⟨⟨tt_,hc10⟩,(Qm4 _ _ hx11)⟩ ?_
   cases h
   exact AK.done (ex_ [_,_] (an_ (an_ rfl (an_ rfl tt_)) (gives tt_)))
  ·refine Qa hC [.br false,.n 6] rfl ⟨tt_,hc10⟩ ?_
   rcases bifE h with⟨hc12,h⟩|⟨hc12,h⟩
   ·obtain⟨x13,hx13,h⟩:=Qb h
    refine Qa hC [.br true,.n 4,.o (.c false [.d,.d] (.tup [.i .i64 x13.1,.i .i64 x13.2])),.n 9,.keep [6,7] []] rfl ⟨⟨tt_,hc12⟩,(QoN _ _ hx13)⟩ ?_
    cases h
    exact AK.done (ex_ [_,_] (an_ (an_ rfl (an_ rfl tt_)) (gives tt_)))
   ·refine Qa hC [.br false,.n 6] rfl ⟨tt_,hc12⟩ ?_
    rcases bifE h with⟨hc14,h⟩|⟨hc14,h⟩
    ·obtain⟨x15,hx15,h⟩:=Qb h
     refine Qa hC [.br true,.n 4,.o (.c false [.d,.d] (.tup [.i .i64 x15.1,.i .i64 x15.2.1,.i .i64 x15.2.2])),.n 20,.keep [6,7] []] rfl ⟨⟨tt_,hc14⟩,(Qkv _ _ hx15)⟩ ?_
     cases h
     exact AK.done (ex_ [_,_] (an_ (an_ rfl (an_ rfl tt_)) (gives tt_)))
    ·refine Qa hC [.br false,.n 6] rfl ⟨tt_,hc14⟩ ?_
     rcases bifE h with⟨hc16,h⟩|⟨hc16,h⟩
     ·obtain⟨x17,hx17,h⟩:=Qb h
      refine Qa hC [.br true,.n 4,.o (.c false [.d,.d] (.tup [.i .i64 x17.1,.i .i64 x17.2.1,.i .i64 x17.2.2])),.n 20,.keep [6,7] []] rfl ⟨⟨tt_,hc16⟩,(Qkv _ _ hx17)⟩ ?_
      cases h
      exact AK.done (ex_ [_,_] (an_ (an_ rfl (an_ rfl tt_)) (gives tt_)))
     ·refine Qa hC [.br false,.n 6] rfl ⟨tt_,hc16⟩ ?_
      rcases bifE h with⟨hc18,h⟩|⟨hc18,h⟩
      ·obtain⟨x19,hx19,h⟩:=Qb h
       refine Qa hC [.br true,.n 5,.o (.c false [.d] (.tup [.i .i64 x19.1,.i .i64 x19.2])),.n 9,.keep [6,7] []] rfl ⟨⟨tt_,hc18⟩,(QcU _ hx19)⟩ ?_
       cases h
       exact AK.done (ex_ [_,_] (an_ (an_ rfl (an_ rfl tt_)) (gives tt_)))
      ·refine Qa hC [.br false,.n 6] rfl ⟨tt_,hc18⟩ ?_
       rcases bifE h with⟨hc20,h⟩|⟨hc20,h⟩
       ·obtain⟨x21,hx21,h⟩:=Qb h
        refine Qa hC [.br true,.n 5,.o (.c false [.d] (.tup [.i .i64 x21.1,.i .i64 x21.2])),.n 9,.keep [6,7] []] rfl ⟨⟨tt_,hc20⟩,(QcU _ hx21)⟩ ?_
        cases h
        exact AK.done (ex_ [_,_] (an_ (an_ rfl (an_ rfl tt_)) (gives tt_)))
       ·refine Qa hC [.br false,.n 6] rfl ⟨tt_,hc20⟩ ?_
        rcases bifE h with⟨hc22,h⟩|⟨hc22,h⟩
        ·obtain⟨x23,hx23,h⟩:=Qb h
         refine Qa hC [.br true,.n 5,.o (.c false [.d] (.tup [.i .i64 x23.1,.i .i64 x23.2])),.n 9,.keep [6,7] []] rfl ⟨⟨tt_,hc22⟩,(QcU _ hx23)⟩ ?_
         cases h
         exact AK.done (ex_ [_,_] (an_ (an_ rfl (an_ rfl tt_)) (gives tt_)))
        ·refine Qa hC [.br false,.n 6] rfl ⟨tt_,hc22⟩ ?_
         rcases bifE h with⟨hc24,h⟩|⟨hc24,h⟩
         ·obtain⟨x25,hx25,h⟩:=Qb h
          refine Qa hC [.br true,.n 5,.o (.c false [.d] (.tup [.i .i64 x25.1,.i .i64 x25.2])),.n 9,.keep [6,7] []] rfl ⟨⟨tt_,hc24⟩,(QcU _ hx25)⟩ ?_
          cases h
          exact AK.done (ex_ [_,_] (an_ (an_ rfl (an_ rfl tt_)) (gives tt_)))
         ·refine Qa hC [.br false,.n 6] rfl ⟨tt_,hc24⟩ ?_
          rcases bifE h with⟨hc26,h⟩|⟨hc26,h⟩
          ·refine Qa hC [.br true,.n 1] rfl ⟨tt_,hc26⟩ ?_
           obtain⟨v,hv29,h⟩:=Qb h
           replace h:QhL v.1 v.2=some r:=h
           refine AK.meetX (fun σ=>σ=⟨[(6,.i .i64 v.1),(7,.i .i64 v.2)],[]⟩) ?_ ?_
           ·replace h:=hv29
            unfold Qlk at h
            refine Qa hC [.n 4] rfl tt_ ?_
            rcases bifE h with⟨hc30,h⟩|⟨hc30,h⟩
            ·obtain⟨x31,hx31,h⟩:=Qb h
             refine Qa hC [.say 94 (.b true),.n 3,.o (.c false [.d] (.tup [.i .i64 x31.1,.i .i64 x31.2])),.n 5,.keep [6,7] []] rfl ⟨⟨tt_,(congrArg V.b hc30)⟩,(QcU _ hx31)⟩ ?_
             cases h
             exact AK.met rfl
            ·obtain⟨x32,hx32,h⟩:=Qb h
             refine Qa hC [.say 94 (.b false),.n 3,.o (.c false [.d] (.tup [.i .i64 x32.1,.i .i64 x32.2])),.n 5,.keep [6,7] []] rfl ⟨⟨tt_,(congrArg V.b hc30)⟩,(QcU _ hx32)⟩ ?_
             cases h
             exact AK.met rfl
           ·rintro σ rfl
            obtain⟨x27,x28⟩:=v
            replace h:QhL x27 x28=some r:=h
            unfold QhL at h
            refine Qa hC [.n 4,.keep [6,7] []] rfl tt_ ?_
            cases h
            exact AK.done (ex_ [_,_] (an_ (an_ rfl (an_ rfl tt_)) (gives tt_)))
          ·refine Qa hC [.br false,.n 6] rfl ⟨tt_,hc26⟩ ?_
           rcases bifE h with⟨hc33,h⟩|⟨hc33,h⟩
           ·refine Qa hC [.br true,.n 1] rfl ⟨tt_,hc33⟩ ?_
            obtain⟨v,hv36,h⟩:=Qb h
            replace h:QhM v.1 v.2=some r:=h
            refine AK.meetX (fun σ=>σ=⟨[(6,.i .i64 v.1),(7,.i .i64 v.2)],[]⟩) ?_ ?_
            ·replace h:=hv36
             unfold Qll at h
             refine Qa hC [.n 4] rfl tt_ ?_
             rcases bifE h with⟨hc37,h⟩|⟨hc37,h⟩
             ·obtain⟨x38,hx38,h⟩:=Qb h
              refine Qa hC [.say 105 (.b true),.n 3,.o (.c false [.d] (.tup [.i .i64 x38.1,.i .i64 x38.2])),.n 5,.keep [6,7] []] rfl ⟨⟨tt_,(congrArg V.b hc37)⟩,(QcU _ hx38)⟩ ?_
              cases h
              exact AK.met rfl
             ·obtain⟨x39,hx39,h⟩:=Qb h
              refine Qa hC [.say 105 (.b false),.n 3,.o (.c false [.d] (.tup [.i .i64 x39.1,.i .i64 x39.2])),.n 5,.keep [6,7] []] rfl ⟨⟨tt_,(congrArg V.b hc37)⟩,(QcU _ hx39)⟩ ?_
              cases h
              exact AK.met rfl
            ·rintro σ rfl
             obtain⟨x34,x35⟩:=v
             replace h:QhM x34 x35=some r:=h
             unfold QhM at h
             refine Qa hC [.n 4,.keep [6,7] []] rfl tt_ ?_
             cases h
             exact AK.done (ex_ [_,_] (an_ (an_ rfl (an_ rfl tt_)) (gives tt_)))
           ·refine Qa hC [.br false,.n 10,.keep [6,7] []] rfl ⟨tt_,hc33⟩ ?_
            cases h
            exact AK.done (ex_ [_,_] (an_ (an_ rfl (an_ rfl tt_)) (gives tt_)))
def Qjv (a1:Int):Option (Int×Int):=
 (Qgy 2 0 a1).bind fun x4=>
 some (x4.1,x4.2)
theorem Qrj (a1:Int){r:(Int×Int)}(h:Qjv a1=some r):Qc Tryz.prog 248 [.i .i64 a1] [] (Gives (.tup [.i .i64 r.1,.i .i64 r.2]) []):=by
 refine Qc.walk 8 Tryz.func248 rfl Tryz.ntmps248 rfl fun C hC=>?_
 unfold Qjv at h
 obtain⟨x4,hx4,h⟩:=Qb h
 refine Qa hC [.n 9,.o (.c false [.d,.d,.d] (.tup [.i .i64 x4.1,.i .i64 x4.2])),.n 7,.keep [2,3] []] rfl ⟨tt_,(Qju _ _ _ hx4)⟩ ?_
 cases h
 exact AK.done (ex_ [_,_] (an_ (an_ rfl (an_ rfl tt_)) (gives tt_)))
def QdY (rec_expr_env_eval:(List Int)→Qh→Option (Int×Int))(v1:(List Int))(e2:Qh):Option (Int×Int):=
 (idx e2.Kids 0).bind fun e7=>
 (rec_expr_env_eval v1 e7).bind fun x8=>
 bif (x8.2 != 0)then
 some (0,x8.2)
 else
 bif (e2.Kind==3)then
 (Qjv x8.1).bind fun x11=>
 some (x11.1,x11.2)
 else
 (Qgy 6 x8.1 0).bind fun x12=>
 some (x12.1,x12.2)
theorem Qm6 (rec_expr_env_eval:(List Int)→Qh→Option (Int×Int))(hrec_expr_env_eval:∀(v1:(List Int)) (e2:Qh) {r:(Int×Int)},rec_expr_env_eval v1 e2=some r→Qc Tryz.prog 162 [.sl 1 (v1.map Qe),.agg (Ql e2)] [] (Gives (.tup [.i .i64 r.1,.i .i64 r.2]) []))(v1:(List Int))(e2:Qh){r:(Int×Int)}(h:QdY rec_expr_env_eval v1 e2=some r):Qc Tryz.prog 232 [.sl 1 (v1.map Qe),.agg (Ql e2)] [] (Gives (.tup [.i .i64 r.1,.i .i64 r.2]) []):=by
 refine Qc.walk 33 Tryz.func232 rfl Tryz.ntmps232 rfl fun C hC=>?_
 unfold QdY at h
 obtain⟨e7,he7,h⟩:=Qb h
 obtain⟨x8,hx8,h⟩:=Qb h
 refine Qa hC [.n 12,.o (.row (Ql e7)),.v .no [] (.agg (Ql e7)),.o (.c false [.d,.d] (.tup [.i .i64 x8.1,.i .i64 x8.2])),.n 16] rfl ⟨⟨⟨tt_,(Qdh he7)⟩,rfl⟩,(hrec_expr_env_eval _ _ hx8)⟩ ?_
 rcases bifE h with⟨hc9,h⟩|⟨hc9,h⟩
 ·refine Qa hC [.br true,.n 10,.keep [4,5] []] rfl ⟨tt_,hc9⟩ ?_
  cases h
  exact AK.done (ex_ [_,_] (an_ (an_ rfl (an_ rfl tt_)) (gives tt_)))
 ·refine Qa hC [.br false,.n 8] rfl ⟨tt_,hc9⟩ ?_
  rcases bifE h with⟨hc10,h⟩|⟨hc10,h⟩
  ·obtain⟨x11,hx11,h⟩:=Qb h
   refine Qa hC [.br true,.n 3,.o (.c false [.d] (.tup [.i .i64 x11.1,.i .i64 x11.2])),.n 9,.keep [4,5] []] rfl ⟨⟨tt_,hc10⟩,(Qrj _ hx11)⟩ ?_
   cases h
   exact AK.done (ex_ [_,_] (an_ (an_ rfl (an_ rfl tt_)) (gives tt_)))
  ·obtain⟨x12,hx12,h⟩:=Qb h
   refine Qa hC [.br false,.n 6,.o (.c false [.d,.d,.d] (.tup [.i .i64 x12.1,.i .i64 x12.2])),.n 7,.keep [4,5] []] rfl ⟨⟨tt_,hc10⟩,(Qju _ _ _ hx12)⟩ ?_
   cases h
   exact AK.done (ex_ [_,_] (an_ (an_ rfl (an_ rfl tt_)) (gives tt_)))
def QbU (x8:(Int×Int))(e2:Qh)(rec_expr_env_eval:(List Int)→Qh→Option (Int×Int))(v1:(List Int))(x10:Bool):Option (Int×Int):=
 bif x10 then
 (Qgy 7 x8.1 0).bind fun x12=>
 some (x12.1,x12.2)
 else
 (idx e2.Kids 1).bind fun e13=>
 (rec_expr_env_eval v1 e13).bind fun x14=>
 bif (x14.2 != 0)then
 some (0,x14.2)
 else
 (Qgy e2.Num x8.1 x14.1).bind fun x16=>
 some (x16.1,x16.2)
def Qh7 (rec_expr_env_eval:(List Int)→Qh→Option (Int×Int))(v1:(List Int))(e2:Qh):Option (Int×Int):=
 (idx e2.Kids 0).bind fun e7=>
 (rec_expr_env_eval v1 e7).bind fun x8=>
 bif (x8.2 != 0)then
 some (0,x8.2)
 else
 bif ((e2.Num==10)&&(x8.1==0))then
 QbU x8 e2 rec_expr_env_eval v1 ((e2.Num==10)&&(x8.1==0))
 else
 bif (e2.Num==11)then
 QbU x8 e2 rec_expr_env_eval v1 (x8.1 != 0)
 else
 QbU x8 e2 rec_expr_env_eval v1 false
theorem QoO (rec_expr_env_eval:(List Int)→Qh→Option (Int×Int))(hrec_expr_env_eval:∀(v1:(List Int)) (e2:Qh) {r:(Int×Int)},rec_expr_env_eval v1 e2=some r→Qc Tryz.prog 162 [.sl 1 (v1.map Qe),.agg (Ql e2)] [] (Gives (.tup [.i .i64 r.1,.i .i64 r.2]) []))(v1:(List Int))(e2:Qh){r:(Int×Int)}(h:Qh7 rec_expr_env_eval v1 e2=some r):Qc Tryz.prog 233 [.sl 1 (v1.map Qe),.agg (Ql e2)] [] (Gives (.tup [.i .i64 r.1,.i .i64 r.2]) []):=by
 refine Qc.walk 60 Tryz.func233 rfl Tryz.ntmps233 rfl fun C hC=>?_
 unfold Qh7 at h
 obtain⟨e7,he7,h⟩:=Qb h
 obtain⟨x8,hx8,h⟩:=Qb h
 refine Qa hC [.n 12,.o (.row (Ql e7)),.v .no [] (.agg (Ql e7)),.o (.c false [.d,.d] (.tup [.i .i64 x8.1,.i .i64 x8.2])),.n 16] rfl ⟨⟨⟨tt_,(Qdh he7)⟩,rfl⟩,(hrec_expr_env_eval _ _ hx8)⟩ ?_
 rcases bifE h with⟨hc9,h⟩|⟨hc9,h⟩
 ·refine Qa hC [.br true,.n 10,.keep [4,5] []] rfl ⟨tt_,hc9⟩ ?_
  cases h
  exact AK.done (ex_ [_,_] (an_ (an_ rfl (an_ rfl tt_)) (gives tt_)))
 ·refine Qa hC [.br false] rfl ⟨tt_,hc9⟩ ?_
  refine AK.meet (fun σ=>∃x10:Bool,σ=⟨[(0,.sl 1 (v1.map Qe)),(3,.loc 3 0 0),(6,.i .i64 x8.1),(22,.b x10)],[(3,.var (Ql e2))]⟩∧QbU x8 e2 rec_expr_env_eval v1 x10=some r) ?_ ?_
  ·refine Qa hC [.n 1] rfl tt_ ?_
   refine AK.meetX (fun σ=>σ=⟨[(0,.sl 1 (v1.map Qe)),(3,.loc 3 0 0),(6,.i .i64 x8.1),(22,.b ((e2.Num==10)&&(x8.1==0)))],[(3,.var (Ql e2))]⟩) ?_ ?_
   ·refine Qa hC [.n 5] rfl tt_ ?_
    rcases QJ (e2.Num==10)with hc18 | hc18
    ·refine Qa hC [.say 26 (.b true),.n 5,.say 22 (.b ((e2.Num==10)&&(x8.1==0))),.keep [0,3,6,22] [3]] rfl ⟨⟨tt_,(congrArg V.b hc18)⟩,(congrArg V.b (andT hc18 rfl))⟩ ?_
     exact AK.met rfl
    ·refine Qa hC [.say 26 (.b false),.n 5,.say 22 (.b ((e2.Num==10)&&(x8.1==0))),.keep [0,3,6,22] [3]] rfl ⟨⟨tt_,(congrArg V.b hc18)⟩,(congrArg V.b (andF hc18 rfl))⟩ ?_
     exact AK.met rfl
   ·rintro σ rfl
    refine Qa hC [.n 1] rfl tt_ ?_
    rcases bifE h with⟨hc19,h⟩|⟨hc19,h⟩
    ·refine Qa hC [.br true,.n 1,.keep [0,3,6,22] [3]] rfl ⟨tt_,hc19⟩ ?_
     exact AK.met (ex_ _ (an_ rfl h))
    ·refine Qa hC [.br false,.n 5] rfl ⟨tt_,hc19⟩ ?_
     rcases bifE h with⟨hc20,h⟩|⟨hc20,h⟩
     ·refine Qa hC [.say 33 (.b true),.n 5,.keep [0,3,6,22] [3]] rfl ⟨tt_,(congrArg V.b hc20)⟩ ?_
      exact AK.met (ex_ _ (an_ rfl h))
     ·refine Qa hC [.say 33 (.b false),.n 5,.keep [0,3,6,22] [3]] rfl ⟨tt_,(congrArg V.b hc20)⟩ ?_
      exact AK.met (ex_ _ (an_ rfl h))
  ·rintro σ ⟨x10,rfl,h⟩
   unfold QbU at h
   rcases bifE h with⟨hc11,h⟩|⟨hc11,h⟩
   ·obtain⟨x12,hx12,h⟩:=Qb h
    refine Qa hC [.br true,.n 3,.o (.c false [.d,.d,.d] (.tup [.i .i64 x12.1,.i .i64 x12.2])),.n 9,.keep [4,5] []] rfl ⟨⟨tt_,hc11⟩,(Qju _ _ _ hx12)⟩ ?_
    cases h
    exact AK.done (ex_ [_,_] (an_ (an_ rfl (an_ rfl tt_)) (gives tt_)))
   ·obtain⟨e13,he13,h⟩:=Qb h
    obtain⟨x14,hx14,h⟩:=Qb h
    refine Qa hC [.br false,.n 8,.o (.row (Ql e13)),.v .no [] (.agg (Ql e13)),.o (.c false [.d,.d] (.tup [.i .i64 x14.1,.i .i64 x14.2])),.n 14] rfl ⟨⟨⟨⟨tt_,hc11⟩,(Qdh he13)⟩,rfl⟩,(hrec_expr_env_eval _ _ hx14)⟩ ?_
    rcases bifE h with⟨hc15,h⟩|⟨hc15,h⟩
    ·refine Qa hC [.br true,.n 9,.keep [4,5] []] rfl ⟨tt_,hc15⟩ ?_
     cases h
     exact AK.done (ex_ [_,_] (an_ (an_ rfl (an_ rfl tt_)) (gives tt_)))
    ·obtain⟨x16,hx16,h⟩:=Qb h
     refine Qa hC [.br false,.n 8,.o (.c false [.d,.d,.d] (.tup [.i .i64 x16.1,.i .i64 x16.2])),.n 7,.keep [4,5] []] rfl ⟨⟨tt_,hc15⟩,(Qju _ _ _ hx16)⟩ ?_
     cases h
     exact AK.done (ex_ [_,_] (an_ (an_ rfl (an_ rfl tt_)) (gives tt_)))
def QfV (rec_expr_env_eval:(List Int)→Qh→Option (Int×Int))(v1:(List Int))(e2:Qh):Option (Int×Int):=
 (idx e2.Kids 0).bind fun e7=>
 (rec_expr_env_eval v1 e7).bind fun x8=>
 bif (x8.2 != 0)then
 some (0,x8.2)
 else
 bif (x8.1 != 0)then
 (idx e2.Kids 1).bind fun e11=>
 (rec_expr_env_eval v1 e11).bind fun x12=>
 some (x12.1,x12.2)
 else
 (idx e2.Kids 2).bind fun e13=>
 (rec_expr_env_eval v1 e13).bind fun x14=>
 some (x14.1,x14.2)
theorem Qm7 (rec_expr_env_eval:(List Int)→Qh→Option (Int×Int))(hrec_expr_env_eval:∀(v1:(List Int)) (e2:Qh) {r:(Int×Int)},rec_expr_env_eval v1 e2=some r→Qc Tryz.prog 162 [.sl 1 (v1.map Qe),.agg (Ql e2)] [] (Gives (.tup [.i .i64 r.1,.i .i64 r.2]) []))(v1:(List Int))(e2:Qh){r:(Int×Int)}(h:QfV rec_expr_env_eval v1 e2=some r):Qc Tryz.prog 234 [.sl 1 (v1.map Qe),.agg (Ql e2)] [] (Gives (.tup [.i .i64 r.1,.i .i64 r.2]) []):=by
 refine Qc.walk 40 Tryz.func234 rfl Tryz.ntmps234 rfl fun C hC=>?_
 unfold QfV at h
 obtain⟨e7,he7,h⟩:=Qb h
 obtain⟨x8,hx8,h⟩:=Qb h
 refine Qa hC [.n 12,.o (.row (Ql e7)),.v .no [] (.agg (Ql e7)),.o (.c false [.d,.d] (.tup [.i .i64 x8.1,.i .i64 x8.2])),.n 16] rfl ⟨⟨⟨tt_,(Qdh he7)⟩,rfl⟩,(hrec_expr_env_eval _ _ hx8)⟩ ?_
 rcases bifE h with⟨hc9,h⟩|⟨hc9,h⟩
 ·refine Qa hC [.br true,.n 10,.keep [4,5] []] rfl ⟨tt_,hc9⟩ ?_
  cases h
  exact AK.done (ex_ [_,_] (an_ (an_ rfl (an_ rfl tt_)) (gives tt_)))
 ·refine Qa hC [.br false,.n 7] rfl ⟨tt_,hc9⟩ ?_
  rcases bifE h with⟨hc10,h⟩|⟨hc10,h⟩
  ·obtain⟨e11,he11,h⟩:=Qb h
   obtain⟨x12,hx12,h⟩:=Qb h
   refine Qa hC [.br true,.n 5,.o (.row (Ql e11)),.v .no [] (.agg (Ql e11)),.o (.c false [.d,.d] (.tup [.i .i64 x12.1,.i .i64 x12.2])),.n 9,.keep [4,5] []] rfl ⟨⟨⟨⟨tt_,hc10⟩,(Qdh he11)⟩,rfl⟩,(hrec_expr_env_eval _ _ hx12)⟩ ?_
   cases h
   exact AK.done (ex_ [_,_] (an_ (an_ rfl (an_ rfl tt_)) (gives tt_)))
  ·obtain⟨e13,he13,h⟩:=Qb h
   obtain⟨x14,hx14,h⟩:=Qb h
   refine Qa hC [.br false,.n 8,.o (.row (Ql e13)),.v .no [] (.agg (Ql e13)),.o (.c false [.d,.d] (.tup [.i .i64 x14.1,.i .i64 x14.2])),.n 7,.keep [4,5] []] rfl ⟨⟨⟨⟨tt_,hc10⟩,(Qdh he13)⟩,rfl⟩,(hrec_expr_env_eval _ _ hx14)⟩ ?_
   cases h
   exact AK.done (ex_ [_,_] (an_ (an_ rfl (an_ rfl tt_)) (gives tt_)))
def QhN (e2:Qh)(a8:(List Int)):Option (Int×Int):=
 (Qih a8 e2).bind fun x13=>
 some (x13.1,x13.2)
def Qdq (e2:Qh)(a9:(List Int)):Option (Int×Int):=
 (Qe3 a9 e2).bind fun x14=>
 some (x14.1,x14.2)
def QbE (rec_expr_env_eval:(List Int)→Qh→Option (Int×Int))(e2:Qh)(a10:(List Int)):Option (Int×Int):=
 (QdY rec_expr_env_eval a10 e2).bind fun x15=>
 some (x15.1,x15.2)
def Qdr (rec_expr_env_eval:(List Int)→Qh→Option (Int×Int))(e2:Qh)(a11:(List Int)):Option (Int×Int):=
 (Qh7 rec_expr_env_eval a11 e2).bind fun x16=>
 some (x16.1,x16.2)
def Qds (rec_expr_env_eval:(List Int)→Qh→Option (Int×Int))(e2:Qh)(a12:(List Int)):Option (Int×Int):=
 (QfV rec_expr_env_eval a12 e2).bind fun x17=>
 some (x17.1,x17.2)
def QfW (rec_expr_env_eval:(List Int)→Qh→Option (Int×Int))(v1:(List Int))(e2:Qh):Option (Int×Int):=
 (Qbs v1 e2.Kind).bind fun x7=>
 (Sum.elim (fun q=>QhN e2 q) (Sum.elim (fun q=>Qdq e2 q) (Sum.elim (fun q=>QbE rec_expr_env_eval e2 q) (Sum.elim (fun q=>Qdr rec_expr_env_eval e2 q) (fun q=>Qds rec_expr_env_eval e2 q))))) x7
def Qah : Nat→(List Int)→Qh→Option (Int×Int)
 | 0,_,_=>none
 | n+1,v1,e2=>QfW (Qah n) v1 e2
def Qjw (v1:(List Int))(e2:Qh):Option (Int×Int):=Qah (SizeOf.sizeOf e2) v1 e2
theorem Qm8 (rec_expr_env_eval:(List Int)→Qh→Option (Int×Int))(hrec_expr_env_eval:∀(v1:(List Int)) (e2:Qh) {r:(Int×Int)},rec_expr_env_eval v1 e2=some r→Qc Tryz.prog 162 [.sl 1 (v1.map Qe),.agg (Ql e2)] [] (Gives (.tup [.i .i64 r.1,.i .i64 r.2]) []))(v1:(List Int))(e2:Qh){r:(Int×Int)}(h:QfW rec_expr_env_eval v1 e2=some r):Qc Tryz.prog 162 [.sl 1 (v1.map Qe),.agg (Ql e2)] [] (Gives (.tup [.i .i64 r.1,.i .i64 r.2]) []):=by
 refine Qc.walk 14 Tryz.func162 rfl Tryz.ntmps162 rfl fun C hC=>?_
 unfold QfW at h
 refine Qa hC [.n 8] rfl tt_ ?_
 obtain⟨x7,hx7,h⟩:=Qb h
 rcases x7 with(a8 | (a9 | (a10 | (a11 | a12))))
 ·replace h:QhN e2 a8=some r:=h
  unfold QhN at h
  obtain⟨x13,hx13,h⟩:=Qb h
  refine Qa hC [.keep [0,3,4,5] [3]] rfl tt_ ?_
  refine AK.draw2 Qp hC mixed [.a .no none false,.a .no none false,.a .no none false,.a (.any (.clo (.func 230) [.sl 1 (a8.map Qe)] []) none) none false,.a .no (some ([],.agg (Ql e2))) false,.a (.c false [.d,.d] (.tup [.i .i64 x13.1,.i .i64 x13.2])) none false,.a .no none false,.a .no none false,.m .s,.m .s] [] [] [4,5] [] rfl rfl rfl ⟨⟨⟨tt_,(fun σ h1 h2 _=>Stp.callSame (md:=.cm (.fn) [] [] [] [.d,.d] [] (.clo (.func 230) [.sl 1 (a8.map Qe)] []) []) Qp hC h1 h2 rfl ⟨tt_,(Qdp _ _ hx7)⟩)⟩,rfl⟩,(Qm3 _ _ hx13)⟩ rfl (by kernel_rfl) rfl rfl rfl ?_
  refine Qa hC [.n 2,.keep [4,5] []] rfl tt_ ?_
  cases h
  exact AK.done (ex_ [_,_] (an_ (an_ rfl (an_ rfl tt_)) (gives tt_)))
 ·replace h:Qdq e2 a9=some r:=h
  unfold Qdq at h
  obtain⟨x14,hx14,h⟩:=Qb h
  refine Qa hC [.keep [0,3,4,5] [3]] rfl tt_ ?_
  refine AK.draw2 Qp hC mixed [.a .no none false,.a .no none false,.a .no none false,.a (.any (.clo (.func 231) [.sl 1 (a9.map Qe)] []) none) none false,.a .no (some ([],.agg (Ql e2))) false,.a (.c false [.d,.d] (.tup [.i .i64 x14.1,.i .i64 x14.2])) none false,.a .no none false,.a .no none false,.m .s,.m .s] [] [] [4,5] [] rfl rfl rfl ⟨⟨⟨tt_,(fun σ h1 h2 _=>Stp.callSame (md:=.cm (.fn) [] [] [] [.d,.d] [] (.clo (.func 231) [.sl 1 (a9.map Qe)] []) []) Qp hC h1 h2 rfl ⟨tt_,(Qdp _ _ hx7)⟩)⟩,rfl⟩,(Qmd _ _ hx14)⟩ rfl (by kernel_rfl) rfl rfl rfl ?_
  refine Qa hC [.n 2,.keep [4,5] []] rfl tt_ ?_
  cases h
  exact AK.done (ex_ [_,_] (an_ (an_ rfl (an_ rfl tt_)) (gives tt_)))
 ·replace h:QbE rec_expr_env_eval e2 a10=some r:=h
  unfold QbE at h
  obtain⟨x15,hx15,h⟩:=Qb h
  refine Qa hC [.keep [0,3,4,5] [3]] rfl tt_ ?_
  refine AK.draw2 Qp hC mixed [.a .no none false,.a .no none false,.a .no none false,.a (.any (.clo (.func 232) [.sl 1 (a10.map Qe)] []) none) none false,.a .no (some ([],.agg (Ql e2))) false,.a (.c false [.d,.d] (.tup [.i .i64 x15.1,.i .i64 x15.2])) none false,.a .no none false,.a .no none false,.m .s,.m .s] [] [] [4,5] [] rfl rfl rfl ⟨⟨⟨tt_,(fun σ h1 h2 _=>Stp.callSame (md:=.cm (.fn) [] [] [] [.d,.d] [] (.clo (.func 232) [.sl 1 (a10.map Qe)] []) []) Qp hC h1 h2 rfl ⟨tt_,(Qdp _ _ hx7)⟩)⟩,rfl⟩,(Qm6 rec_expr_env_eval hrec_expr_env_eval _ _ hx15)⟩ rfl (by kernel_rfl) rfl rfl rfl ?_
  refine Qa hC [.n 2,.keep [4,5] []] rfl tt_ ?_
  cases h
  exact AK.done (ex_ [_,_] (an_ (an_ rfl (an_ rfl tt_)) (gives tt_)))
 ·replace h:Qdr rec_expr_env_eval e2 a11=some r:=h
  unfold Qdr at h
  obtain⟨x16,hx16,h⟩:=Qb h
  refine Qa hC [.keep [0,3,4,5] [3]] rfl tt_ ?_
  refine AK.draw2 Qp hC mixed [.a .no none false,.a .no none false,.a .no none false,.a (.any (.clo (.func 233) [.sl 1 (a11.map Qe)] []) none) none false,.a .no (some ([],.agg (Ql e2))) false,.a (.c false [.d,.d] (.tup [.i .i64 x16.1,.i .i64 x16.2])) none false,.a .no none false,.a .no none false,.m .s,.m .s] [] [] [4,5] [] rfl rfl rfl ⟨⟨⟨tt_,(fun σ h1 h2 _=>Stp.callSame (md:=.cm (.fn) [] [] [] [.d,.d] [] (.clo (.func 233) [.sl 1 (a11.map Qe)] []) []) Qp hC h1 h2 rfl ⟨tt_,(Qdp _ _ hx7)⟩)⟩,rfl⟩,(QoO rec_expr_env_eval hrec_expr_env_eval _ _ hx16)⟩ rfl (by kernel_rfl) rfl rfl rfl ?_
  refine Qa hC [.n 2,.keep [4,5] []] rfl tt_ ?_
  cases h
  exact AK.done (ex_ [_,_] (an_ (an_ rfl (an_ rfl tt_)) (gives tt_)))
 ·replace h:Qds rec_expr_env_eval e2 a12=some r:=h
  unfold Qds at h
  obtain⟨x17,hx17,h⟩:=Qb h
  refine Qa hC [.keep [0,3,4,5] [3]] rfl tt_ ?_
  refine AK.draw2 Qp hC mixed [.a .no none false,.a .no none false,.a .no none false,.a (.any (.clo (.func 234) [.sl 1 (a12.map Qe)] []) none) none false,.a .no (some ([],.agg (Ql e2))) false,.a (.c false [.d,.d] (.tup [.i .i64 x17.1,.i .i64 x17.2])) none false,.a .no none false,.a .no none false,.m .s,.m .s] [] [] [4,5] [] rfl rfl rfl ⟨⟨⟨tt_,(fun σ h1 h2 _=>Stp.callSame (md:=.cm (.fn) [] [] [] [.d,.d] [] (.clo (.func 234) [.sl 1 (a12.map Qe)] []) []) Qp hC h1 h2 rfl ⟨tt_,(Qdp _ _ hx7)⟩)⟩,rfl⟩,(Qm7 rec_expr_env_eval hrec_expr_env_eval _ _ hx17)⟩ rfl (by kernel_rfl) rfl rfl rfl ?_
  refine Qa hC [.n 2,.keep [4,5] []] rfl tt_ ?_
  cases h
  exact AK.done (ex_ [_,_] (an_ (an_ rfl (an_ rfl tt_)) (gives tt_)))
theorem Qjx : ∀(fuel:Nat) (v1:(List Int)) (e2:Qh) {r:(Int×Int)},Qah fuel v1 e2=some r→Qc Tryz.prog 162 [.sl 1 (v1.map Qe),.agg (Ql e2)] [] (Gives (.tup [.i .i64 r.1,.i .i64 r.2]) [])
 | 0,_,_,_,h=>by cases h
 | n+1,v1,e2,_,h=>Qm8 (Qah n) (fun _ _ _ h=>Qjx n _ _ h) v1 e2 h
theorem Qn2 (v1:(List Int))(e2:Qh){r:(Int×Int)}(h:Qjw v1 e2=some r):Qc Tryz.prog 162 [.sl 1 (v1.map Qe),.agg (Ql e2)] [] (Gives (.tup [.i .i64 r.1,.i .i64 r.2]) []):=Qjx _ v1 e2 h
def Qg7 (e1:Qh)(vars2:(List Int)):Option (Int×Int):=
 (QeB e1 (vars2.length:Int)).bind fun x7=>
 bif (!x7)then
 some (0,1)
 else
 (Qjw vars2 e1).bind fun x9=>
 some (x9.1,x9.2)
theorem Qmv (e1:Qh)(vars2:(List Int)){r:(Int×Int)}(h:Qg7 e1 vars2=some r):Qc Tryz.prog 95 [.agg (Ql e1),.sl 1 (vars2.map Qe)] [] (Gives (.tup [.i .i64 r.1,.i .i64 r.2]) []):=by
 refine Qc.walk 16 Tryz.func95 rfl Tryz.ntmps95 rfl fun C hC=>?_
 unfold Qg7 at h
 obtain⟨x7,hx7,h⟩:=Qb h
 refine Qa hC [.n 10,.v .no [] (.agg (Ql e1)),.n 1,.o (.ln vars2.length),.o (.c false [.d,.d] (.b x7)),.n 3] rfl ⟨⟨⟨tt_,rfl⟩,Qg⟩,(Qjs _ _ hx7)⟩ ?_
 rcases bifE h with⟨hc8,h⟩|⟨hc8,h⟩
 ·refine Qa hC [.br true,.n 8,.keep [4,5] []] rfl ⟨tt_,hc8⟩ ?_
  cases h
  exact AK.done (ex_ [_,_] (an_ (an_ rfl (an_ rfl tt_)) (gives tt_)))
 ·obtain⟨x9,hx9,h⟩:=Qb h
  refine Qa hC [.br false,.n 5,.v .no [] (.agg (Ql e1)),.o (.c false [.d,.d] (.tup [.i .i64 x9.1,.i .i64 x9.2])),.n 7,.keep [4,5] []] rfl ⟨⟨⟨tt_,hc8⟩,rfl⟩,(Qn2 _ _ hx9)⟩ ?_
  cases h
  exact AK.done (ex_ [_,_] (an_ (an_ rfl (an_ rfl tt_)) (gives tt_)))
def Qa0 (b1:QA):Option Int:=
 (Qg7 b1.task.Guard b1.env).bind fun x4=>
 bif (x4.2 != 0)then
 some x4.2
 else
 bif (x4.1==0)then
 some 9
 else
 some 0
theorem QhO (b1:QA){r:Int}(h:Qa0 b1=some r):Qc Tryz.prog 71 [.agg (Qo b1)] [] (Gives (.i .i64 r) []):=by
 refine Qc.walk 21 Tryz.func71 rfl Tryz.ntmps71 rfl fun C hC=>?_
 unfold Qa0 at h
 obtain⟨x4,hx4,h⟩:=Qb h
 refine Qa hC [.n 10,.v .no [] (.agg (Ql b1.task.Guard)),.n 2,.o (.c false [.d,.d] (.tup [.i .i64 x4.1,.i .i64 x4.2])),.n 16] rfl ⟨⟨tt_,rfl⟩,(Qmv _ _ hx4)⟩ ?_
 rcases bifE h with⟨hc5,h⟩|⟨hc5,h⟩
 ·refine Qa hC [.br true,.n 9,.keep [2] []] rfl ⟨tt_,hc5⟩ ?_
  cases h
  exact AK.done (ex_ [_] (an_ (an_ rfl tt_) (gives tt_)))
 ·refine Qa hC [.br false,.n 7] rfl ⟨tt_,hc5⟩ ?_
  rcases bifE h with⟨hc6,h⟩|⟨hc6,h⟩
  ·refine Qa hC [.br true,.n 8,.keep [2] []] rfl ⟨tt_,hc6⟩ ?_
   cases h
   exact AK.done (ex_ [_] (an_ (an_ rfl tt_) (gives tt_)))
  ·refine Qa hC [.br false,.n 9,.keep [2] []] rfl ⟨tt_,hc6⟩ ?_
   cases h
   exact AK.done (ex_ [_] (an_ (an_ rfl tt_) (gives tt_)))
def QcT (l10:(List (List Int))):Option (List (List Int)):=
 some l10
def QfX (arcs2:Int)(x13:Int)(l14:(List Int)):Option ((Int×(List Int))⊕(List Int)):=
 bif (decide (x13<arcs2))then
 (chk (decide (l14.length+([x13]:List Int).length≤4294967296))).bind fun _=>
 some (.inl ((w64 (x13+1)),(l14++([x13]:List Int))))
 else
 some (.inr l14)
def Qii (l17:(List Int)):Option (List (List Int)):=
 some ([l17]:List (List Int))
def QfY (arcs2:Int)(x23:Int)(l24:(List (List Int))):Option ((Int×(List (List Int)))⊕(List (List Int))):=
 bif (decide (x23<arcs2))then
 (chk (decide (l24.length+([([x23]:List Int)]:List (List Int)).length≤4294967296))).bind fun _=>
 some (.inl ((w64 (x23+1)),(l24++([([x23]:List Int)]:List (List Int)))))
 else
 some (.inr l24)
def Qij (l27:(List (List Int))):Option (List (List Int)):=
 QcT l27
def QfZ (x41:Int)(l47:(List Int)):Option ((Int×(List Int))⊕(List Int)):=
 some (.inl ((w64 (x41+1)),l47))
def Qf0 (arcs2:Int)(set_33:Int)(x41:Int)(l42:(List Int)):Option ((Int×(List Int))⊕(List Int)):=
 bif (decide (x41<arcs2))then
 (chk (decide (0≤x41))).bind fun _=>
 bif ((andI .i64 (shrI .i64 set_33 x41) 1)==1)then
 (chk (decide (l42.length+([x41]:List Int).length≤4294967296))).bind fun _=>
 QfZ x41 (l42++([x41]:List Int))
 else
 QfZ x41 l42
 else
 some (.inr l42)
def Qik (l34:(List (List Int)))(set_33:Int)(l45:(List Int)):Option ((Int×(List (List Int)))⊕(List (List Int))):=
 (chk (decide (l34.length+([l45]:List (List Int)).length≤4294967296))).bind fun _=>
 some (.inl ((w64 (set_33+1)),(l34++([l45]:List (List Int)))))
def Qf1 (arcs2:Int)(set_33:Int)(l34:(List (List Int))):Option ((Int×(List (List Int)))⊕(List (List Int))):=
 (chk (decide (0≤arcs2))).bind fun _=>
 bif (decide (set_33<(shlI .i64 1 arcs2)))then
 (QF (fun st=>Qf0 arcs2 set_33 st.1 st.2) (0,([]:List Int))).bind (fun q=>Qik l34 set_33 q)
 else
 some (.inr l34)
def QhP (l37:(List (List Int))):Option (List (List Int)):=
 QcT l37
def Qcq (kind1:Int)(arcs2:Int):Option (List (List Int)):=
 bif ((decide (arcs2<0))||((decide (16<arcs2))||((kind1==3)&&(decide (4<arcs2)))))then
 some ([]:List (List Int))
 else
 bif (kind1==1)then
 (QF (fun st=>QfX arcs2 st.1 st.2) (0,([]:List Int))).bind (fun q=>Qii q)
 else
 bif (kind1==2)then
 (QF (fun st=>QfY arcs2 st.1 st.2) (0,([]:List (List Int)))).bind (fun q=>Qij q)
 else
 bif (kind1==3)then
 (QF (fun st=>Qf1 arcs2 st.1 st.2) (1,([]:List (List Int)))).bind (fun q=>QhP q)
 else
 QcT ([]:List (List Int))
theorem Qil (kind1:Int)(arcs2:Int){r:(List (List Int))}(h:Qcq kind1 arcs2=some r):Qc Tryz.prog 137 [.i .i64 kind1,.i .i64 arcs2] [] (Gives (.own 30000 r.length) [(30000,.arr 1 (r.map Qw))]):=by
 refine Qc.walk 79 Tryz.func137 rfl Tryz.ntmps137 rfl fun C hC=>?_
 unfold Qcq at h
 refine Qa hC [.n 7] rfl tt_ ?_
 refine AK.meetX (fun σ=>σ=⟨[(0,.i .i64 kind1),(1,.i .i64 arcs2),(25,.b ((decide (arcs2<0))||((decide (16<arcs2))||((kind1==3)&&(decide (4<arcs2))))))],[]⟩) ?_ ?_
 ·refine Qa hC [.n 4] rfl tt_ ?_
  rcases QJ (decide (arcs2<0))with hc6 | hc6
  ·refine Qa hC [.say 14 (.b true),.n 12,.say 25 (.b ((decide (arcs2<0))||((decide (16<arcs2))||((kind1==3)&&(decide (4<arcs2)))))),.keep [0,1,25] []] rfl ⟨⟨tt_,(congrArg V.b hc6)⟩,(congrArg V.b (orT hc6 rfl))⟩ ?_
   exact AK.met rfl
  ·refine Qa hC [.say 14 (.b false),.n 4] rfl ⟨tt_,(congrArg V.b hc6)⟩ ?_
   rcases QJ (decide (16<arcs2))with hc7 | hc7
   ·refine Qa hC [.say 18 (.b true),.n 8,.say 25 (.b ((decide (arcs2<0))||((decide (16<arcs2))||((kind1==3)&&(decide (4<arcs2)))))),.keep [0,1,25] []] rfl ⟨⟨tt_,(congrArg V.b hc7)⟩,(congrArg V.b (orF hc6 (orT hc7 rfl)))⟩ ?_
    exact AK.met rfl
   ·refine Qa hC [.say 18 (.b false),.n 3] rfl ⟨tt_,(congrArg V.b hc7)⟩ ?_
    rcases QJ (kind1==3)with hc8 | hc8
    ·refine Qa hC [.say 21 (.b true),.n 5,.say 25 (.b ((decide (arcs2<0))||((decide (16<arcs2))||((kind1==3)&&(decide (4<arcs2)))))),.keep [0,1,25] []] rfl ⟨⟨tt_,(congrArg V.b hc8)⟩,(congrArg V.b (orF hc6 (orF hc7 (andT hc8 rfl))))⟩ ?_
     exact AK.met rfl
    ·refine Qa hC [.say 21 (.b false),.n 5,.say 25 (.b ((decide (arcs2<0))||((decide (16<arcs2))||((kind1==3)&&(decide (4<arcs2)))))),.keep [0,1,25] []] rfl ⟨⟨tt_,(congrArg V.b hc8)⟩,(congrArg V.b (orF hc6 (orF hc7 (andF hc8 rfl))))⟩ ?_
     exact AK.met rfl
 ·rintro σ rfl
  refine Qa hC [.n 1] rfl tt_ ?_
  rcases bifE h with⟨hc9,h⟩|⟨hc9,h⟩
  ·refine Qa hC [.br true,.n 7,.adopt 4 30000 1,.sayO 30000 (.arr 1 (([]:List (List Int)).map Qw)),.say 4 (.own 30000 ([]:List (List Int)).length),.keep [4] [30000]] rfl ⟨⟨⟨tt_,hc9⟩,rfl⟩,rfl⟩ ?_
   cases h
   exact AK.done (ex_ [_] (an_ (an_ rfl tt_) (gives ⟨rfl,tt_⟩)))
  ·refine Qa hC [.br false,.n 7] rfl ⟨tt_,hc9⟩ ?_
   refine AK.meet (fun σ=>∃l10:(List (List Int)),σ=⟨[(5,.own 40005 l10.length)],[(40005,.arr 1 (l10.map Qw))]⟩∧QcT l10=some r) ?_ ?_
   ·refine Qa hC [.n 12] rfl tt_ ?_
    rcases bifE h with⟨hc11,h⟩|⟨hc11,h⟩
    ·refine Qa hC [.br true,.n 13,.adopt 6 33 1,.sayO 33 (.arr 1 (([]:List Int).map Qe)),.say 6 (.own 33 ([]:List Int).length),.keep [6,29,30] [33]] rfl ⟨⟨⟨tt_,hc11⟩,rfl⟩,(congrArg (fun n=>V.own 33 n) (by simp))⟩ ?_
     obtain⟨l17,hl20,h⟩:=Qb h
     refine AK.loop (body:=(fun st=>QfX arcs2 st.1 st.2)) (fun st σ=>σ=⟨[(6,.own 33 st.2.length),(29,.i .i64 arcs2),(30,.i .i64 st.1)],[(33,.arr 1 (st.2.map Qe))]⟩) (fun q e σ=>e=.exit 1∧σ=⟨[(6,.own 33 q.length)],[(33,.arr 1 (q.map Qe))]⟩) hl20 rfl ?_ ?_
     ·rintro ⟨x13,l14⟩ o σ rfl h
      replace h:QfX arcs2 x13 l14=some o:=h
      unfold QfX at h
      refine Qa hC [.n 6] rfl tt_ ?_
      rcases bifE h with⟨hc18,h⟩|⟨hc18,h⟩
      ·obtain⟨_,hk19,h⟩:=Qb h
       replace hk19:=chkE hk19
       refine Qa hC [.br true,.n 13,.v (.bd []) [] (.sl 1 (([x13]:List Int).map Qe)),.app ((l14++([x13]:List Int)).map Qe) (l14++([x13]:List Int)).length,.n 8,.keep [6,29,30] [33]] rfl ⟨⟨⟨tt_,hc18⟩,rfl⟩,⟨Qg,Qdn hk19 Qg,Qco,Qfl Qg⟩⟩ ?_
       cases h
       exact rndN rfl rfl
      ·refine Qa hC [.br false,.n 2,.keep [6] [33]] rfl ⟨tt_,hc18⟩ ?_
       cases h
       exact rndX rfl (an_ rfl rfl)
     ·replace h:Qii l17=some r:=h
      unfold Qii at h
      rintro e σ ⟨rfl,rfl⟩
      refine Qa hC [.n 5,.frz 33 (l17.map Qe) [6,38] [],.n 1,.sayO 39 (.arr 1 (([l17]:List (List Int)).map Qw)),.say 39 (.own 39 ([l17]:List (List Int)).length),.n 6,.keep [4] [39],.ren 39 30000,.keep [4] [30000]] rfl ⟨⟨⟨tt_,⟨⟨tt_,(frzL Qg)⟩,(frzL Qg)⟩⟩,rfl⟩,rfl⟩ ?_
      cases h
      exact AK.done (ex_ [_] (an_ (an_ rfl tt_) (gives ⟨rfl,tt_⟩)))
    ·refine Qa hC [.br false,.n 6] rfl ⟨tt_,hc11⟩ ?_
     rcases bifE h with⟨hc21,h⟩|⟨hc21,h⟩
     ·refine Qa hC [.br true,.n 7,.adopt 5 46 1,.sayO 46 (.arr 1 (([]:List (List Int)).map Qw)),.say 5 (.own 46 ([]:List (List Int)).length),.keep [5,42,43] [46]] rfl ⟨⟨⟨tt_,hc21⟩,rfl⟩,(congrArg (fun n=>V.own 46 n) (by simp))⟩ ?_
      obtain⟨l27,hl30,h⟩:=Qb h
      refine AK.loop (body:=(fun st=>QfY arcs2 st.1 st.2)) (fun st σ=>σ=⟨[(5,.own 46 st.2.length),(42,.i .i64 arcs2),(43,.i .i64 st.1)],[(46,.arr 1 (st.2.map Qw))]⟩) (fun q e σ=>e=.exit 3∧σ=⟨[(5,.own 46 q.length)],[(46,.arr 1 (q.map Qw))]⟩) hl30 rfl ?_ ?_
      ·rintro ⟨x23,l24⟩ o σ rfl h
       replace h:QfY arcs2 x23 l24=some o:=h
       unfold QfY at h
       refine Qa hC [.n 6] rfl tt_ ?_
       rcases bifE h with⟨hc28,h⟩|⟨hc28,h⟩
       ·obtain⟨_,hk29,h⟩:=Qb h
        replace hk29:=chkE hk29
        refine Qa hC [.br true,.n 13,.v (.bd []) [] (.sl 1 (([x23]:List Int).map Qe)),.v (.bd []) [] (.sl 1 (([([x23]:List Int)]:List (List Int)).map Qw)),.app ((l24++([([x23]:List Int)]:List (List Int))).map Qw) (l24++([([x23]:List Int)]:List (List Int))).length,.n 8,.keep [5,42,43] [46]] rfl ⟨⟨⟨⟨tt_,hc28⟩,rfl⟩,rfl⟩,⟨Qg,Qdn hk29 Qg,Qco,Qfl Qg⟩⟩ ?_
        cases h
        exact rndN rfl rfl
       ·refine Qa hC [.br false,.n 2,.keep [5] [46]] rfl ⟨tt_,hc28⟩ ?_
        cases h
        exact rndX rfl (an_ rfl rfl)
      ·replace h:Qij l27=some r:=h
       unfold Qij at h
       rintro e σ ⟨rfl,rfl⟩
       refine Qa hC [.n 2,.ren 46 40005,.keep [5] [40005]] rfl tt_ ?_
       exact AK.met (ex_ _ (an_ rfl h))
     ·refine Qa hC [.br false,.n 6] rfl ⟨tt_,hc21⟩ ?_
      rcases bifE h with⟨hc31,h⟩|⟨hc31,h⟩
      ·refine Qa hC [.br true,.n 6,.adopt 5 74 1,.sayO 74 (.arr 1 (([]:List (List Int)).map Qw)),.say 5 (.own 74 ([]:List (List Int)).length),.keep [1,5,9] [74]] rfl ⟨⟨⟨tt_,hc31⟩,rfl⟩,(congrArg (fun n=>V.own 74 n) (by simp))⟩ ?_
       obtain⟨l37,hl53,h⟩:=Qb h
       refine AK.loop (body:=(fun st=>Qf1 arcs2 st.1 st.2)) (fun st σ=>σ=⟨[(1,.i .i64 arcs2),(5,.own 74 st.2.length),(9,.i .i64 st.1)],[(74,.arr 1 (st.2.map Qw))]⟩) (fun q e σ=>e=.exit 5∧σ=⟨[(5,.own 74 q.length)],[(74,.arr 1 (q.map Qw))]⟩) hl53 rfl ?_ ?_
       ·rintro ⟨set_33,l34⟩ o σ rfl h
        replace h:Qf1 arcs2 set_33 l34=some o:=h
        unfold Qf1 at h
        obtain⟨_,hk38,h⟩:=Qb h
        replace hk38:=chkE hk38
        refine Qa hC [.n 5,.o (.any (.i .i64 (shlI .i64 1 arcs2)) none),.n 3] rfl ⟨tt_,(fun σ h1 h2 _=>Stp.shl rfl rfl (bleN hC.n rfl) (h1 _ _ rfl) (h1 _ _ rfl) (of_decide_eq_true hk38))⟩ ?_
        rcases bifE h with⟨hc39,h⟩|⟨hc39,h⟩
        ·refine Qa hC [.br true,.n 17,.adopt 10 69 1,.sayO 69 (.arr 1 (([]:List Int).map Qe)),.say 10 (.own 69 ([]:List Int).length),.keep [1,5,9,10,60,61] [69,74]] rfl ⟨⟨⟨tt_,hc39⟩,rfl⟩,(congrArg (fun n=>V.own 69 n) (by simp))⟩ ?_
         obtain⟨l45,hl51,h⟩:=Qb h
         refine AK.loop (body:=(fun st=>Qf0 arcs2 set_33 st.1 st.2)) (fun st σ=>σ=⟨[(1,.i .i64 arcs2),(5,.own 74 l34.length),(9,.i .i64 set_33),(10,.own 69 st.2.length),(60,.i .i64 arcs2),(61,.i .i64 st.1)],[(69,.arr 1 (st.2.map Qe)),(74,.arr 1 (l34.map Qw))]⟩) (fun q e σ=>e=.exit 7∧σ=⟨[(1,.i .i64 arcs2),(5,.own 74 l34.length),(9,.i .i64 set_33),(10,.own 69 q.length)],[(69,.arr 1 (q.map Qe)),(74,.arr 1 (l34.map Qw))]⟩) hl51 rfl ?_ ?_
         ·rintro ⟨x41,l42⟩ o σ rfl h
          replace h:Qf0 arcs2 set_33 x41 l42=some o:=h
          unfold Qf0 at h
          refine Qa hC [.n 6] rfl tt_ ?_
          rcases bifE h with⟨hc46,h⟩|⟨hc46,h⟩
          ·refine Qa hC [.br true,.n 2] rfl ⟨tt_,hc46⟩ ?_
           refine AK.meet (fun σ=>∃l47:(List Int),σ=⟨[(1,.i .i64 arcs2),(5,.own 74 l34.length),(9,.i .i64 set_33),(10,.own 69 l47.length),(60,.i .i64 arcs2),(61,.i .i64 x41)],[(69,.arr 1 (l47.map Qe)),(74,.arr 1 (l34.map Qw))]⟩∧QfZ x41 l47=some o) ?_ ?_
           ·obtain⟨_,hk48,h⟩:=Qb h
            replace hk48:=chkE hk48
            refine Qa hC [.n 11,.o (.any (.i .i64 (shrI .i64 set_33 x41)) none),.o (.any (.i .i64 (andI .i64 (shrI .i64 set_33 x41) 1)) none),.n 3] rfl ⟨⟨tt_,(fun σ h1 h2 _=>Stp.shr rfl rfl (bleN hC.n rfl) (h1 _ _ rfl) (h1 _ _ rfl) (of_decide_eq_true hk48))⟩,(fun σ h1 h2 _=>Stp.andB rfl rfl (bleN hC.n rfl) (h1 _ _ rfl) (h1 _ _ rfl))⟩ ?_
            rcases bifE h with⟨hc49,h⟩|⟨hc49,h⟩
            ·obtain⟨_,hk50,h⟩:=Qb h
             replace hk50:=chkE hk50
             refine Qa hC [.br true,.n 3,.v (.bd []) [] (.sl 1 (([x41]:List Int).map Qe)),.app ((l42++([x41]:List Int)).map Qe) (l42++([x41]:List Int)).length,.n 3,.keep [1,5,9,10,60,61] [69,74]] rfl ⟨⟨⟨tt_,hc49⟩,rfl⟩,⟨Qg,Qdn hk50 Qg,Qco,Qfl Qg⟩⟩ ?_
             exact AK.met (ex_ _ (an_ rfl h))
            ·refine Qa hC [.br false,.n 2,.keep [1,5,9,10,60,61] [69,74]] rfl ⟨tt_,hc49⟩ ?_
             exact AK.met (ex_ _ (an_ rfl h))
           ·rintro σ ⟨l47,rfl,h⟩
            unfold QfZ at h
            refine Qa hC [.n 4,.keep [1,5,9,10,60,61] [69,74]] rfl tt_ ?_
            cases h
            exact rndN rfl rfl
          ·refine Qa hC [.br false,.n 2,.keep [1,5,9,10] [69,74]] rfl ⟨tt_,hc46⟩ ?_
           cases h
           exact rndX rfl (an_ rfl rfl)
         ·replace h:Qik l34 set_33 l45=some o:=h
          unfold Qik at h
          rintro e σ ⟨rfl,rfl⟩
          obtain⟨_,hk52,h⟩:=Qb h
          replace hk52:=chkE hk52
          refine Qa hC [.n 5,.frz 69 (l45.map Qe) [10,75] [],.v (.bd []) [] (.sl 1 (([l45]:List (List Int)).map Qw)),.app ((l34++([l45]:List (List Int))).map Qw) (l34++([l45]:List (List Int))).length,.n 9,.keep [1,5,9] [74]] rfl ⟨⟨⟨tt_,⟨⟨tt_,(frzL Qg)⟩,(frzL Qg)⟩⟩,rfl⟩,⟨Qg,Qdn hk52 Qg,Qco,Qfl Qg⟩⟩ ?_
          cases h
          exact rndN rfl rfl
        ·refine Qa hC [.br false,.n 2,.keep [5] [74]] rfl ⟨tt_,hc39⟩ ?_
         cases h
         exact rndX rfl (an_ rfl rfl)
       ·replace h:QhP l37=some r:=h
        unfold QhP at h
        rintro e σ ⟨rfl,rfl⟩
        refine Qa hC [.n 2,.ren 74 40005,.keep [5] [40005]] rfl tt_ ?_
        exact AK.met (ex_ _ (an_ rfl h))
      ·refine Qa hC [.br false,.n 2,.adopt 5 40005 1,.sayO 40005 (.arr 1 (([]:List (List Int)).map Qw)),.say 5 (.own 40005 ([]:List (List Int)).length),.keep [5] [40005]] rfl ⟨⟨⟨tt_,hc31⟩,rfl⟩,(congrArg (fun n=>V.own 40005 n) (by simp))⟩ ?_
       exact AK.met (ex_ _ (an_ rfl h))
   ·rintro σ ⟨l10,rfl,h⟩
    unfold QcT at h
    refine Qa hC [.n 7,.keep [4] [40005],.ren 40005 30000,.keep [4] [30000]] rfl tt_ ?_
    cases h
    exact AK.done (ex_ [_] (an_ (an_ rfl tt_) (gives ⟨rfl,tt_⟩)))
def QaO (s1:(List Int))(s2:(List Int))(x6:Int):Option (Int⊕(Unit⊕Unit)):=
 bif (decide (x6<(s1.length:Int)))then
 (idx s1 x6).bind fun e9=>
 (idx s2 x6).bind fun e10=>
 bif (e9 != e10)then
 some (.inr (.inl ()))
 else
 some (.inl (w64 (x6+1)))
 else
 some (.inr (.inr ()))
def Qd7 : Option Bool:=
 some false
def Qd8 : Option Bool:=
 some true
def Qb4 (s1:(List Int))(s2:(List Int)):Option Bool:=
 bif ((s1.length:Int) != (s2.length:Int))then
 some false
 else
 (QF (fun st=>QaO s1 s2 st) 0).bind (Sum.elim (fun q=>Qd7) (fun q=>Qd8))
theorem Qk2 (s1:(List Int))(s2:(List Int)){r:Bool}(h:Qb4 s1 s2=some r):Qc Tryz.prog 139 [.sl 1 (s1.map Qe),.sl 1 (s2.map Qe)] [] (Gives (.b r) []):=by
 refine Qc.walk 26 Tryz.func139 rfl Tryz.ntmps139 rfl fun C hC=>?_
 unfold Qb4 at h
 refine Qa hC [.n 9,.o (.ln s1.length),.n 1,.o (.ln s2.length),.n 3] rfl ⟨⟨tt_,Qg⟩,Qg⟩ ?_
 rcases bifE h with⟨hc5,h⟩|⟨hc5,h⟩
 ·refine Qa hC [.br true,.n 7,.keep [4] []] rfl ⟨tt_,hc5⟩ ?_
  cases h
  exact AK.done (ex_ [_] (an_ (an_ rfl tt_) (gives tt_)))
 ·refine Qa hC [.br false,.n 6,.o (.ln s1.length),.n 4,.keep [0,1,12,13] []] rfl ⟨⟨tt_,hc5⟩,Qg⟩ ?_
  obtain⟨o12,hl12,h⟩:=Qb h
  refine AK.loop (body:=(fun st=>QaO s1 s2 st)) (fun st σ=>σ=⟨[(0,.sl 1 (s1.map Qe)),(1,.sl 1 (s2.map Qe)),(12,.i .i64 (s1.length:Int)),(13,.i .i64 st)],[]⟩) (Sum.elim (fun q e σ=>e=.ret∧σ=⟨[(4,.b false)],[]⟩) (fun q e σ=>e=.exit 0∧σ=⟨[],[]⟩)) hl12 rfl ?_ ?_
  ·rintro x6 o σ rfl h
   replace h:QaO s1 s2 x6=some o:=h
   unfold QaO at h
   refine Qa hC [.n 6] rfl tt_ ?_
   rcases bifE h with⟨hc8,h⟩|⟨hc8,h⟩
   ·obtain⟨e9,he9,h⟩:=Qb h
    obtain⟨e10,he10,h⟩:=Qb h
    refine Qa hC [.br true,.n 11,.keep [0,1,5,12,13] []] rfl ⟨tt_,hc8⟩ ?_
    refine AK.draw2 Qp hC mixed [.a .no none false,.a .no none false,.a (.row (Qe e9)) none false,.a .no none false,.a .no none false,.a .no none false,.a (.row (Qe e10)) none false,.a .no none false,.a .no none false] [] [] [0,1,12,13,24] [] rfl rfl rfl ⟨⟨tt_,(idxM he9)⟩,(idxM he10)⟩ rfl (by kernel_rfl) rfl rfl rfl ?_
    refine Qa hC [.n 1] rfl tt_ ?_
    rcases bifE h with⟨hc11,h⟩|⟨hc11,h⟩
    ·refine Qa hC [.br true,.n 8,.keep [4] []] rfl ⟨tt_,hc11⟩ ?_
     cases h
     exact rndR rfl (an_ rfl rfl)
    ·refine Qa hC [.br false,.n 7,.keep [0,1,12,13] []] rfl ⟨tt_,hc11⟩ ?_
     cases h
     exact rndN rfl rfl
   ·refine Qa hC [.br false,.n 2,.keep [] []] rfl ⟨tt_,hc8⟩ ?_
    cases h
    exact rndX rfl (an_ rfl rfl)
  ·rcases o12 with(_ | _)
   ·replace h:Qd7=some r:=h
    unfold Qd7 at h
    rintro e σ ⟨rfl,rfl⟩
    refine Qa hC [.n 2,.keep [4] []] rfl tt_ ?_
    cases h
    exact AK.done (ex_ [_] (an_ (an_ rfl tt_) (gives tt_)))
   ·replace h:Qd8=some r:=h
    unfold Qd8 at h
    rintro e σ ⟨rfl,rfl⟩
    refine Qa hC [.n 8,.keep [4] []] rfl tt_ ?_
    cases h
    exact AK.done (ex_ [_] (an_ (an_ rfl tt_) (gives tt_)))
def Qhv (p1:(List Int))(v2:(List Int)):Option Bool:=
 (Qb4 p1 v2).bind fun x4=>
 some x4
theorem Qn3 (p1:(List Int))(v2:(List Int)){r:Bool}(h:Qhv p1 v2=some r):Qc Tryz.prog 138 [.sl 1 (p1.map Qe),.loc 200000 0 0] [(200000,.var (Qw v2))] (Gives (.b r) [(200000,.var (Qw v2))]):=by
 refine Qc.walk 7 Tryz.func138 rfl Tryz.ntmps138 rfl fun C hC=>?_
 unfold Qhv at h
 obtain⟨x4,hx4,h⟩:=Qb h
 refine Qa hC [.n 9,.o (.c false [.d,.d] (.b x4)),.n 4,.keep [3] [200000]] rfl ⟨tt_,(Qk2 _ _ hx4)⟩ ?_
 cases h
 exact AK.done (ex_ [_] (an_ (an_ rfl tt_) (gives ⟨rfl,tt_⟩)))
def Qay (s1:(List (List Int)))(v2:(List Int))(x5:Int):Option (Int⊕(Int⊕Unit)):=
 bif (decide (x5<(s1.length:Int)))then
 (idx s1 x5).bind fun e9=>
 (Qhv e9 v2).bind fun x10=>
 bif x10 then
 some (.inr (.inl x5))
 else
 some (.inl (w64 (x5+1)))
 else
 some (.inr (.inr ()))
def QcV (x7:Int):Option Int:=
 some x7
def QcW : Option Int:=
 some (-1)
def Qcf (s1:(List (List Int)))(v2:(List Int)):Option Int:=
 (QF (fun st=>Qay s1 v2 st) 0).bind (Sum.elim (fun q=>QcV q) (fun q=>QcW))
theorem Qj2 (s1:(List (List Int)))(v2:(List Int)){r:Int}(h:Qcf s1 v2=some r):Qc Tryz.prog 190 [.sl 1 (s1.map Qw),.clo (.func 138) [] [.loc 200000 0 0]] [(200000,.var (Qw v2))] (Gives (.i .i64 r) [(200000,.var (Qw v2))]):=by
 refine Qc.walk 19 Tryz.func190 rfl Tryz.ntmps190 rfl fun C hC=>?_
 unfold Qcf at h
 refine Qa hC [.n 9,.o (.ln s1.length),.n 4,.keep [0,1,7,8] [200000]] rfl ⟨tt_,Qg⟩ ?_
 obtain⟨o12,hl12,h⟩:=Qb h
 refine AK.loop (body:=(fun st=>Qay s1 v2 st)) (fun st σ=>σ=⟨[(0,.sl 1 (s1.map Qw)),(1,.clo (.func 138) [] [.loc 200000 0 0]),(7,.i .i64 (s1.length:Int)),(8,.i .i64 st)],[(200000,.var (Qw v2))]⟩) (Sum.elim (fun q e σ=>e=.ret∧σ=⟨[(4,.i .i64 q)],[(200000,.var (Qw v2))]⟩) (fun q e σ=>e=.exit 0∧σ=⟨[],[(200000,.var (Qw v2))]⟩)) hl12 rfl ?_ ?_
 ·rintro x5 o σ rfl h
  replace h:Qay s1 v2 x5=some o:=h
  unfold Qay at h
  refine Qa hC [.n 6] rfl tt_ ?_
  rcases bifE h with⟨hc8,h⟩|⟨hc8,h⟩
  ·obtain⟨e9,he9,h⟩:=Qb h
   obtain⟨x10,hx10,h⟩:=Qb h
   refine Qa hC [.br true,.n 15,.o (.row (Qw e9)),.n 1,.cm (.clo) [(200000,200000)] [(200000,200000)] [] [.d,.d] [(200000,.var (Qw v2))] (.b x10),.n 2] rfl ⟨⟨⟨tt_,hc8⟩,(idxM he9)⟩,(Qn3 _ _ hx10)⟩ ?_
   rcases bifE h with⟨hc11,h⟩|⟨hc11,h⟩
   ·refine Qa hC [.br true,.n 9,.keep [4] [200000]] rfl ⟨tt_,hc11⟩ ?_
    cases h
    exact rndR rfl (an_ rfl rfl)
   ·refine Qa hC [.br false,.n 7,.keep [0,1,7,8] [200000]] rfl ⟨tt_,hc11⟩ ?_
    cases h
    exact rndN rfl rfl
  ·refine Qa hC [.br false,.n 2,.keep [] [200000]] rfl ⟨tt_,hc8⟩ ?_
   cases h
   exact rndX rfl (an_ rfl rfl)
 ·rcases o12 with(x7 | _)
  ·replace h:QcV x7=some r:=h
   unfold QcV at h
   rintro e σ ⟨rfl,rfl⟩
   refine Qa hC [.n 2,.keep [4] [200000]] rfl tt_ ?_
   cases h
   exact AK.done (ex_ [_] (an_ (an_ rfl tt_) (gives ⟨rfl,tt_⟩)))
  ·replace h:QcW=some r:=h
   unfold QcW at h
   rintro e σ ⟨rfl,rfl⟩
   refine Qa hC [.n 8,.keep [4] [200000]] rfl tt_ ?_
   cases h
   exact AK.done (ex_ [_] (an_ (an_ rfl tt_) (gives ⟨rfl,tt_⟩)))
def QbC (s1:(List (List Int)))(v2:(List Int)):Option Bool:=
 (Qcf s1 v2).bind fun x4=>
 some (decide (0≤x4))
theorem QiZ (s1:(List (List Int)))(v2:(List Int)){r:Bool}(h:QbC s1 v2=some r):Qc Tryz.prog 136 [.sl 1 (s1.map Qw),.clo (.func 138) [] [.loc 200000 0 0]] [(200000,.var (Qw v2))] (Gives (.b r) [(200000,.var (Qw v2))]):=by
 refine Qc.walk 9 Tryz.func136 rfl Tryz.ntmps136 rfl fun C hC=>?_
 unfold QbC at h
 obtain⟨x4,hx4,h⟩:=Qb h
 refine Qa hC [.n 9,.cm (.fn) [(200000,200000)] [(200000,200000)] [] [.d,.d] [(200000,.var (Qw v2))] (.i .i64 x4),.n 5,.keep [4] [200000]] rfl ⟨tt_,(Qj2 _ _ hx4)⟩ ?_
 cases h
 exact AK.done (ex_ [_] (an_ (an_ rfl tt_) (gives ⟨rfl,tt_⟩)))
def Qfg (kind1:Int)(arcs2:Int)(row3:(List Int)):Option Bool:=
 (Qcq kind1 arcs2).bind fun x5=>
 (QbC x5 row3).bind fun x6=>
 some x6
theorem Qlm (kind1:Int)(arcs2:Int)(row3:(List Int)){r:Bool}(h:Qfg kind1 arcs2 row3=some r):Qc Tryz.prog 72 [.i .i64 kind1,.i .i64 arcs2,.sl 1 (row3.map Qe)] [] (Gives (.b r) []):=by
 refine Qc.walk 12 Tryz.func72 rfl Tryz.ntmps72 rfl fun C hC=>?_
 unfold Qfg at h
 obtain⟨x5,hx5,h⟩:=Qb h
 obtain⟨x6,hx6,h⟩:=Qb h
 refine Qa hC [.n 10,.o (.co false [.d,.d] 1 (x5.map Qw) x5.length),.n 1,.frz 9 (x5.map Qw) [9] [],.cm (.fn) [(200000,5)] [(5,200000)] [] [.d,.d] [(200000,.var (Qw row3))] (.b x6),.n 4,.keep [6] []] rfl ⟨⟨⟨tt_,⟨(Qil _ _ hx5),Qg,.inl rfl⟩⟩,⟨tt_,(frzL Qg)⟩⟩,(QiZ _ _ hx6)⟩ ?_
 cases h
 exact AK.done (ex_ [_] (an_ (an_ rfl tt_) (gives tt_)))
def Qba (x8:(Bool×Qab))(n10:Int):Option (Int×Bool):=
 (Qcj x8.2 n10).bind fun x11=>
 bif (!x11)then
 some (0,false)
 else
 some (n10,true)
def QcG (l1:(List Qz))(k2:Int)(n3:Int):Option (Int×Bool):=
 (Qef l1 k2).bind fun x8=>
 bif (!x8.1)then
 some (0,false)
 else
 (Qbq x8.2).bind fun x13=>
 bif (x13.Kind==1)then
 bif ((decide (n3<x13.Lo))||(decide (x13.Hi<n3)))then
 some (0,false)
 else
 Qba x8 (w64 (n3-x13.Lo))
 else
 Qba x8 n3
theorem Qn4 (l1:(List Qz))(k2:Int)(n3:Int){r:(Int×Bool)}(h:QcG l1 k2 n3=some r):Qc Tryz.prog 96 [.sl 7 (l1.map Qv),.i .i64 k2,.i .i64 n3] [] (Gives (.tup [.i .i64 r.1,.b r.2]) []):=by
 refine Qc.walk 43 Tryz.func96 rfl Tryz.ntmps96 rfl fun C hC=>?_
 unfold QcG at h
 obtain⟨x8,hx8,h⟩:=Qb h
 refine Qa hC [.n 10,.o (.c false [.d,.d] (.tup [.agg (QK x8.2),.b x8.1])),.n 5,.sayO 8 (.var (QK x8.2)),.n 10] rfl ⟨⟨tt_,(Qj7 _ _ hx8)⟩,rfl⟩ ?_
 rcases bifE h with⟨hc9,h⟩|⟨hc9,h⟩
 ·refine Qa hC [.br true,.n 8,.keep [6,7] []] rfl ⟨tt_,hc9⟩ ?_
  cases h
  exact AK.done (ex_ [_,_] (an_ (an_ rfl (an_ rfl tt_)) (gives tt_)))
 ·refine Qa hC [.br false,.n 2] rfl ⟨tt_,hc9⟩ ?_
  refine AK.meet (fun σ=>∃n10:Int,σ=⟨[(2,.i .i64 n10),(8,.loc 8 0 0)],[(8,.var (QK x8.2))]⟩∧Qba x8 n10=some r) ?_ ?_
  ·obtain⟨x13,hx13,h⟩:=Qb h
   refine Qa hC [.n 2,.v .no [] (.agg (QK x8.2)),.o (.c false [.d] (.agg (Qv x13))),.n 2,.sayO 10 (.var (Qv x13)),.n 9] rfl ⟨⟨⟨tt_,rfl⟩,(QfI _ hx13)⟩,rfl⟩ ?_
   rcases bifE h with⟨hc14,h⟩|⟨hc14,h⟩
   ·refine Qa hC [.br true,.n 2] rfl ⟨tt_,hc14⟩ ?_
    refine AK.meetX (fun σ=>σ=⟨[(2,.i .i64 n3),(8,.loc 8 0 0),(10,.loc 10 0 0),(33,.b ((decide (n3<x13.Lo))||(decide (x13.Hi<n3))))],[(8,.var (QK x8.2)),(10,.var (Qv x13))]⟩) ?_ ?_
    ·refine Qa hC [.n 6] rfl tt_ ?_
     rcases QJ (decide (n3<x13.Lo))with hc16 | hc16
     ·refine Qa hC [.say 28 (.b true),.n 6,.say 33 (.b ((decide (n3<x13.Lo))||(decide (x13.Hi<n3)))),.keep [2,8,10,33] [8,10]] rfl ⟨⟨tt_,(congrArg V.b hc16)⟩,(congrArg V.b (orT hc16 rfl))⟩ ?_
      exact AK.met rfl
     ·refine Qa hC [.say 28 (.b false),.n 6,.say 33 (.b ((decide (n3<x13.Lo))||(decide (x13.Hi<n3)))),.keep [2,8,10,33] [8,10]] rfl ⟨⟨tt_,(congrArg V.b hc16)⟩,(congrArg V.b (orF hc16 rfl))⟩ ?_
      exact AK.met rfl
    ·rintro σ rfl
     refine Qa hC [.n 1] rfl tt_ ?_
     rcases bifE h with⟨hc17,h⟩|⟨hc17,h⟩
     ·refine Qa hC [.br true,.n 9,.keep [6,7] []] rfl ⟨tt_,hc17⟩ ?_
      cases h
      exact AK.done (ex_ [_,_] (an_ (an_ rfl (an_ rfl tt_)) (gives tt_)))
     ·refine Qa hC [.br false,.n 9,.keep [2,8] [8]] rfl ⟨tt_,hc17⟩ ?_
      exact AK.met (ex_ _ (an_ rfl h))
   ·refine Qa hC [.br false,.n 1,.keep [2,8] [8]] rfl ⟨tt_,hc14⟩ ?_
    exact AK.met (ex_ _ (an_ rfl h))
  ·rintro σ ⟨n10,rfl,h⟩
   unfold Qba at h
   obtain⟨x11,hx11,h⟩:=Qb h
   refine Qa hC [.n 3,.v .no [] (.agg (QK x8.2)),.n 1,.o (.c false [.d,.d] (.b x11)),.n 3] rfl ⟨⟨tt_,rfl⟩,(Qj4 _ _ hx11)⟩ ?_
   rcases bifE h with⟨hc12,h⟩|⟨hc12,h⟩
   ·refine Qa hC [.br true,.n 8,.keep [6,7] []] rfl ⟨tt_,hc12⟩ ?_
    cases h
    exact AK.done (ex_ [_,_] (an_ (an_ rfl (an_ rfl tt_)) (gives tt_)))
   ·refine Qa hC [.br false,.n 10,.keep [6,7] []] rfl ⟨tt_,hc12⟩ ?_
    cases h
    exact AK.done (ex_ [_,_] (an_ (an_ rfl (an_ rfl tt_)) (gives tt_)))
def Qbt (m1:(List (Int×Int))):Option Unit:=
 some ()
theorem Qiw (m1:(List (Int×Int))){r:Unit}(h:Qbt m1=some r):Qc Tryz.prog 92 [.map 200000] [(200000,.map (mapV (V.i .i64) (V.i .i64) m1))] (Gives (.clo (.func 159) [] [.loc 1 0 0]) [(1,.var [.map 200000]),(200000,.map (mapV (V.i .i64) (V.i .i64) m1))]):=by
 refine Qc.walk 4 Tryz.func92 rfl Tryz.ntmps92 rfl fun C hC=>?_
 unfold Qbt at h
 refine Qa hC [.n 13,.keep [2] [1,200000]] rfl tt_ ?_
 cases h
 exact AK.done (ex_ [_] (an_ (an_ rfl tt_) (gives ⟨rfl,rfl,tt_⟩)))
def QaP (l1:(List Int))(p2:Int):Option (List Int):=
 (chk (decide (l1.length+([p2]:List Int).length≤4294967296))).bind fun _=>
 some (l1++([p2]:List Int))
theorem Qhd (lpl lpf:Nat)(l1:(List Int))(p2:Int){r:(List Int)}(h:QaP l1 p2=some r):Qks Tryz.prog lpl (Qev lpf) [.J,.J,.loc 200001 0 0,.J,.J,.J,.J,.i .i64 p2,.J,.J,.J,.J,.J] [(200000,.lp lpl (Qev lpf) [.J,.J,.loc 200001 0 0,.J,.J,.J,.J,.J,.J,.J,.J,.J,.J] 0),(200001,.var [.own 100000 l1.length]),(100000,.arr 1 (l1.map Qe))] (Gives (.b true) [(100000,.arr 1 (r.map Qe)),(200000,.lp lpl (Qev lpf) [.J,.J,.loc 200001 0 0,.J,.J,.J,.J,.J,.J,.J,.J,.J,.J] 0),(200001,.var [.own 100000 r.length])]):=by
 refine Qks.walk (b:=200000) 13 rfl rfl fun C hC=>?_
 unfold QaP at h
 refine Qa hC [.n 3] rfl tt_ ?_
 refine AK.done (an_ rfl (ex_ _ (an_ rfl ?_)))
 obtain⟨_,hk4,h⟩:=Qb h
 replace hk4:=chkE hk4
 refine Qa hC [.n 4,.v (.bd []) [] (.sl 1 (([p2]:List Int).map Qe)),.app ((l1++([p2]:List Int)).map Qe) (l1++([p2]:List Int)).length,.n 1,.sayO 200001 (.var [.own 100000 (l1++([p2]:List Int)).length]),.n 2,.keep [] [100000,200000,200001]] rfl ⟨⟨⟨tt_,rfl⟩,⟨Qg,Qdn hk4 Qg,Qco,Qfl Qg⟩⟩,rfl⟩ ?_
 cases h
 refine AK.done ?_
 exact ex_ _ (an_ rfl (gives ⟨rfl,rfl,rfl,tt_⟩))
theorem Qh8 (lpl lpf:Nat)(l1:(List Int))(m2:(List (Int×Int)))(hlen:l1.length+m2.length≤4294967296):Qc Tryz.prog 159 [.clo (.yield lpl) [] [],.loc 200002 0 0] [(200000,.lp lpl (Qev lpf) [.J,.J,.loc 200001 0 0,.J,.J,.J,.J,.J,.J,.J,.J,.J,.J] 0),(200001,.var [.own 100000 l1.length]),(100000,.arr 1 (l1.map Qe)),(200002,.var [.map 200003]),(200003,.map (mapV (V.i .i64) (V.i .i64) m2))] (fun v hs=>∃r:List Int,r.Perm (l1++m2.map Prod.fst)∧Gives (.tup []) [(100000,.arr 1 (r.map Qe)),(200000,.lp lpl (Qev lpf) [.J,.J,.loc 200001 0 0,.J,.J,.J,.J,.J,.J,.J,.J,.J,.J] 0),(200001,.var [.own 100000 r.length]),(200002,.var [.map 200003]),(200003,.map (mapV (V.i .i64) (V.i .i64) m2))] v hs):=by
 refine Qc.walk 14 Tryz.func159 rfl Tryz.ntmps159 rfl fun C hC=>?_
 refine Qa hC [.n 3] rfl tt_ ?_
 refine AK.openMap (b:=200003) ky_3 rfl fun bm4 cl4 L4 hbn4 hpm4=>?_
 refine Qa hC [.x (fun σ=>(σ.set 5 (.itr bm4 cl4 #[] none)).put 5 (.loc 5 0 0)),.n 3,.keep [0,5] [5,100000,200000,200001,200002,200003]] rfl ⟨tt_,(Stp.range (b:=200003) rfl rfl (bleN hC.n rfl) rfl rfl QgD rfl)⟩ ?_
 have hL0:QaK L4 #[]=L4:=by simp [QaK]
 have hp0:(l1++(QaK L4 #[]).map (fun q=>q.2.1)).Perm (l1++m2.map Prod.fst):=by
  rw [hL0]
  refine List.Perm.append_left l1 ?_
  have:=hpm4.map Prod.fst
  rwa [List.map_map]at this
 refine AK.range (body:=cntM) (fun (_:Nat) seen σ=>∃(cur:Option MapEntry) (st:List Int),(st++(QaK L4 seen).map (fun q=>q.2.1)).Perm (l1++m2.map Prod.fst)∧σ=⟨[(0,.clo (.yield lpl) [] []),(5,.loc 5 0 0)],[(5,.itr bm4 cl4 seen cur),(100000,.arr 1 (st.map Qe)),(200000,.lp lpl (Qev lpf) [.J,.J,.loc 200001 0 0,.J,.J,.J,.J,.J,.J,.J,.J,.J,.J] 0),(200001,.var [.own 100000 st.length]),(200002,.var [.map 200003]),(200003,.mapX bm4 cl4 (typV (V.i .i64) (V.i .i64) L4) (mapV (V.i .i64) (V.i .i64) m2))]⟩) (fun (q:Empty) _ _=>False) (fun _ e σ=>∃st:List Int,st.Perm (l1++m2.map Prod.fst)∧e=.exit 0∧σ=⟨[],[(100000,.arr 1 (st.map Qe)),(200000,.lp lpl (Qev lpf) [.J,.J,.loc 200001 0 0,.J,.J,.J,.J,.J,.J,.J,.J,.J,.J] 0),(200001,.var [.own 100000 st.length]),(200002,.var [.map 200003]),(200003,.mapX bm4 cl4 (typV (V.i .i64) (V.i .i64) L4) (mapV (V.i .i64) (V.i .i64) m2))]⟩) hbn4 hpm4 (Qtu m2 0) (ex_ _ (ex_ l1 (an_ hp0 rfl))) ?_ ?_
 ·rintro n0 seen σ ⟨cur,l6,hpp,rfl⟩ hex
  refine Qa hC [.n 2] rfl tt_ ?_
  refine AK.nextT (b:=5) (m:=200003) rfl rfl rfl (bleN hC.n rfl) rfl rfl rfl rfl ?_ ?_
  ·intro hleft
   refine Qa hC [.n 7,.keep [] [100000,200000,200001,200002,200003]] rfl tt_ ?_
   exact AK.done (Or.inl (an_ hleft (an_ (fun h=>(by cases h)) (ex_ l6 (an_ (by simpa [hleft] using hpp) (an_ rfl rfl))))))
  ·intro xk8 k8 v9 hq5
   have hpk:=(QmW hbn4 hq5).map (fun q=>q.2.1)
   have hp2:((l6++[k8])++(QaK L4 (seen.push xk8.born)).map (fun q=>q.2.1)).Perm (l1++m2.map Prod.fst):=List.Perm.trans (by simpa using (List.Perm.append_left l6 hpk).symm) hpp
   have hl2:l6.length+([k8]:List Int).length≤4294967296:=by
    have:=hp2.length_eq
    simp at this ⊢
    omega
   have hx10:QaP l6 k8=some (l6++[k8]):=by
    unfold QaP
    rw [decide_eq_true hl2];rfl
   obtain⟨x10,hxe⟩:∃x,x=l6++[k8]:=⟨_,rfl⟩
   rw [←hxe]at hx10 hp2
   refine Qa hC [.n 10,.x (fun σ=>σ.put 8 (.tup [.i .i64 k8,.i .i64 v9])),.n 8,.x (fun σ=>(σ.after [100000] [(100000,.arr 1 (x10.map Qe)),(200000,.lp lpl (Qev lpf) [.J,.J,.loc 200001 0 0,.J,.J,.J,.J,.J,.J,.J,.J,.J,.J] 0),(200001,.var [.own 100000 x10.length])]).put 12 (.b true)),.n 6,.keep [0,5] [5,100000,200000,200001,200002,200003]] rfl ⟨⟨tt_,(Stp.entryT (b:=5) (m:=200003) rfl rfl (bleN hC.n rfl) rfl hq5 rfl rfl)⟩,(Stp.yieldV (b:=200000) (M:=[(200000,200000),(200001,200001),(100000,100000)]) (N:=[(100000,100000),(200000,200000),(200001,200001)]) (dead:=[100000]) (ms:=[.d,.d,.d,.d,.d,.d,.d,.d,.d,.d,.d,.d,.d]) (outs:=[(100000,.arr 1 (x10.map Qe)),(200000,.lp lpl (Qev lpf) [.J,.J,.loc 200001 0 0,.J,.J,.J,.J,.J,.J,.J,.J,.J,.J] 0),(200001,.var [.own 100000 x10.length])]) (r:=.b true) rfl rfl rfl rfl rfl rfl rfl (bleN hC.n rfl) hC.g rfl rfl (Qhd _ _ _ _ hx10))⟩ ?_
   exact AK.done (Or.inr (ex_ _ (an_ hq5 (Or.inl (ex_ (n0+1) (an_ rfl (an_ rfl (ex_ _ (ex_ x10 (an_ hp2 rfl))))))))))
 ·rintro e σ ⟨l6,hpp,rfl,rfl⟩
  refine Qa hC [.n 1] rfl tt_ ?_
  refine AK.closeMap (b:=200003) rfl ?_
  refine Qa hC [.keep [] [100000,200000,200001,200002,200003]] rfl tt_ ?_
  refine AK.done ?_
  exact ex_ [] (an_ tt_ (ex_ l6 (an_ hpp (gives ⟨rfl,rfl,rfl,rfl,rfl,tt_⟩))))
theorem Qj3 (m1:(List (Int×Int)))(hlen:m1.length≤4294967296):Qc Tryz.prog 201 [.lit (.slice none 0 0),.clo (.func 159) [] [.loc 200000 0 0]] [(200000,.var [.map 200001]),(200001,.map (mapV (V.i .i64) (V.i .i64) m1))] (fun v hs=>∃r:List Int,r.Perm (m1.map Prod.fst)∧Gives (.own 30000 r.length) [(30000,.arr 1 (r.map Qe)),(200000,.var [.map 200001]),(200001,.map (mapV (V.i .i64) (V.i .i64) m1))] v hs):=by
 refine Qc.walkR 13 Tryz.func201 rfl Tryz.ntmps201 rfl fun C hC hR=>?_
 refine Qa hC [.n 13,.keep [2,4,6] [2,200000,200001]] rfl tt_ ?_
 refine Qa hC [.adoptO 2 0 45040 1,.sayO 45040 (.arr 1 (([]:List Int).map Qe)),.sayO 2 (.var [.own 45040 ([]:List Int).length])] rfl ⟨⟨tt_,rfl⟩,rfl⟩ ?_
 refine AK.rangeFE (ι:=List Int) (Φ:=fun x=>x.Perm (m1.map Prod.fst)) 60000 [2] [(200000,60000),(200001,2),(100000,45040),(200002,200000),(200003,200001)] [(45040,100000),(60000,200000),(2,200001),(200000,200002),(200001,200003)] [45040] [.d,.d] Qev hC hR (fun _=>rfl) rfl rfl rfl rfl fun lpl lpf=>?_
 refine ex_ (fun x3:List Int=>[(100000,.arr 1 (x3.map Qe)),(200000,.lp lpl (Qev lpf) [.J,.J,.loc 200001 0 0,.J,.J,.J,.J,.J,.J,.J,.J,.J,.J] 0),(200001,.var [.own 100000 x3.length]),(200002,.var [.map 200003]),(200003,.map (mapV (V.i .i64) (V.i .i64) m1))]) (ex_ (fun _=>.tup []) (ex_ (fun x3=>_) (ex_ _ (ex_ _ (an_ rfl (an_ rfl (an_ (Qh8 _ _ ([]:List Int) m1 (by simpa using hlen)) fun x3=>ex_ _ (ex_ [.J,.J,.loc 2 0 0,.J,.J,.J,.J,.J,.J,.J,.J,.J,.J] (ex_ 0 (an_ rfl (an_ rfl (an_ (bne_iff_ne.1 (show(0 != 1)=true from rfl)) fun hpp=>?_))))))))))))
 refine atJ0 rfl ?_
 refine Qa hC [.n 9,.keep [4] [45040,200000,200001],.ren 45040 30000,.keep [4] [30000,200000,200001]] rfl tt_ ?_
 exact AK.done (ex_ [_] (an_ (an_ rfl tt_) (ex_ x3 (an_ hpp (gives ⟨rfl,rfl,rfl,tt_⟩)))))
theorem QlN (m1:(List (Int×Int)))(hlen:m1.length≤4294967296):Qc Tryz.prog 158 [.clo (.func 159) [] [.loc 200000 0 0]] [(200000,.var [.map 200001]),(200001,.map (mapV (V.i .i64) (V.i .i64) m1))] (fun v hs=>∃r:List Int,r.Perm (m1.map Prod.fst)∧Gives (.own 30000 r.length) [(30000,.arr 1 (r.map Qe)),(200000,.var [.map 200001]),(200001,.map (mapV (V.i .i64) (V.i .i64) m1))] v hs):=by
 refine Qc.walk 5 Tryz.func158 rfl Tryz.ntmps158 rfl fun C hC=>?_
 refine Qa hC [.n 8] rfl tt_ ?_
 refine AK.callE (ι:=List Int) (Φ:=fun x=>x.Perm (m1.map Prod.fst)) [(200000,200000),(200001,200001)] [(4,30000),(200000,200000),(200001,200001)] [] [.d,.d] (fun x3=>[(30000,.arr 1 (x3.map Qe)),(200000,.var [.map 200001]),(200001,.map (mapV (V.i .i64) (V.i .i64) m1))]) (fun x3=>(.own 30000 x3.length)) (fun x3=>_) rfl hC (QaY.fn rfl rfl rfl) rfl (bleN hC.n rfl) rfl rfl (Qj3 m1 hlen) (fun x3=>ex_ _ rfl) fun x3 hpp=>?_
 refine Qa hC [.n 4,.keep [2] [4,200000,200001],.ren 4 30000,.keep [2] [30000,200000,200001]] rfl tt_ ?_
 exact AK.done (ex_ [_] (an_ (an_ rfl tt_) (ex_ x3 (an_ hpp (gives ⟨rfl,rfl,rfl,tt_⟩)))))
def Qa1 (l:List Int):Option (List Int):=(chk (decide (l.length<4611686018427387904))).bind fun _=>some (QbW l)
theorem QhQ (l:List Int){r:List Int}(h:Qa1 l=some r):Qc Tryz.prog 143 [.own 200000 l.length] [(200000,.arr 1 (l.map Qe))] (Gives (.tup []) [(200000,.arr 1 (r.map Qe))]):=by
 unfold Qa1 at h
 obtain⟨_,h1,h⟩:=Qb h
 cases h
 exact Qsm Qty l (of_decide_eq_true (chkE h1))
def Qe4 (m1:(List (Int×Int))):Option (List Int):=
 (chk (decide (m1.length≤4294967296))).bind fun _=>
 some (QbW (m1.map Prod.fst))
theorem Qme (m1:(List (Int×Int))){r:(List Int)}(h:Qe4 m1=some r):Qc Tryz.prog 91 [.clo (.func 159) [] [.loc 200000 0 0]] [(200000,.var [.map 200001]),(200001,.map (mapV (V.i .i64) (V.i .i64) m1))] (Gives (.own 30000 r.length) [(30000,.arr 1 (r.map Qe)),(200000,.var [.map 200001]),(200001,.map (mapV (V.i .i64) (V.i .i64) m1))]):=by
 refine Qc.walk 9 Tryz.func91 rfl Tryz.ntmps91 rfl fun C hC=>?_
 unfold Qe4 at h
 obtain⟨_,hlen,h⟩:=Qb h
 replace hlen:=of_decide_eq_true (chkE hlen)
 cases h
 refine Qa hC [.n 8] rfl tt_ ?_
 refine AK.callE (ι:=List Int) (Φ:=fun x=>x.Perm (m1.map Prod.fst)) [(200000,200000),(200001,200001)] [(5,30000),(200000,200000),(200001,200001)] [] [.d] (fun x3=>[(30000,.arr 1 (x3.map Qe)),(200000,.var [.map 200001]),(200001,.map (mapV (V.i .i64) (V.i .i64) m1))]) (fun x3=>(.own 30000 x3.length)) (fun x3=>_) rfl hC (QaY.fn rfl rfl rfl) rfl (bleN hC.n rfl) rfl rfl (QlN m1 hlen) (fun x3=>ex_ _ rfl) fun x3 hpp=>?_
 have hx4:Qa1 x3=some (QbW (m1.map Prod.fst)):=by
  unfold Qa1
  rw [decide_eq_true (by have:=hpp.length_eq;simp at this;omega),QsY hpp];rfl
 have hk5:(QbW (m1.map Prod.fst)).length=x3.length:=by rw [Qjd,hpp.length_eq]
 refine Qa hC [.n 6,.cm (.fn) [(200000,5)] [(5,200000)] [] [.d] [(200000,.arr 1 (((QbW (m1.map Prod.fst))).map Qe))] (.tup []),.say 3 (.own 5 (QbW (m1.map Prod.fst)).length),.say 5 (.own 5 (QbW (m1.map Prod.fst)).length),.say 6 (.own 5 (QbW (m1.map Prod.fst)).length),.n 9,.keep [2] [5,200000,200001],.ren 5 30000,.keep [2] [30000,200000,200001]] rfl ⟨⟨⟨⟨tt_,(QhQ _ hx4)⟩,(by simp [hk5])⟩,(by simp [hk5])⟩,(by simp [hk5])⟩ ?_
 exact AK.done (ex_ [_] (an_ (an_ rfl tt_) (gives ⟨rfl,rfl,rfl,tt_⟩)))
def QbY (x6:Int)(l12:(List (Int×Int))):Option ((Int×(List (Int×Int)))⊕(List (Int×Int))):=
 some (.inl ((w64 (x6+1)),l12))
def QaE (x4:(List Int))(m1:(List (Int×Int)))(x6:Int)(l7:(List (Int×Int))):Option ((Int×(List (Int×Int)))⊕(List (Int×Int))):=
 bif (decide (x6<(x4.length:Int)))then
 (idx x4 x6).bind fun e13=>
 bif (decide (0<((mget m1 e13).getD 0)))then
 (chk (decide (l7.length+([(e13,((mget m1 e13).getD 0))]:List (Int×Int)).length≤4294967296))).bind fun _=>
 QbY x6 (l7++([(e13,((mget m1 e13).getD 0))]:List (Int×Int)))
 else
 QbY x6 l7
 else
 some (.inr l7)
def Qhe (l10:(List (Int×Int))):Option (List (Int×Int)):=
 some l10
def Qck (m1:(List (Int×Int))):Option (List (Int×Int)):=
 (Qbt m1).bind fun x3=>
 (Qe4 m1).bind fun x4=>
 (QF (fun st=>QaE x4 m1 st.1 st.2) (0,([]:List (Int×Int)))).bind (fun q=>Qhe q)
theorem Qhf (m1:(List (Int×Int))){r:(List (Int×Int))}(h:Qck m1=some r):Qc Tryz.prog 48 [.map 200000] [(200000,.map (mapV (V.i .i64) (V.i .i64) m1))] (Gives (.own 30000 r.length) [(30000,.arr 2 (r.map Qs)),(200000,.map (mapV (V.i .i64) (V.i .i64) m1))]):=by
 refine Qc.walk 28 Tryz.func48 rfl Tryz.ntmps48 rfl fun C hC=>?_
 unfold Qck at h
 obtain⟨x3,hx3,h⟩:=Qb h
 obtain⟨x4,hx4,h⟩:=Qb h
 refine Qa hC [.n 14,.cm (.fn) [(200000,200000)] [(7,1),(200000,200000)] [] [.d] [(1,.var [.map 200000]),(200000,.map (mapV (V.i .i64) (V.i .i64) m1))] (.clo (.func 159) [] [.loc 1 0 0]),.cm (.fn) [(200000,7),(200001,200000)] [(8,30000),(7,200000),(200000,200001)] [] [.d] [(30000,.arr 1 (x4.map Qe)),(200000,.var [.map 200001]),(200001,.map (mapV (V.i .i64) (V.i .i64) m1))] (.own 30000 x4.length),.n 5,.adopt 3 18 2,.sayO 18 (.arr 2 (([]:List (Int×Int)).map Qs)),.say 3 (.own 18 ([]:List (Int×Int)).length),.keep [0,3,8,9,10] [8,18,200000]] rfl ⟨⟨⟨⟨tt_,(Qiw _ hx3)⟩,(Qme _ hx4)⟩,rfl⟩,(congrArg (fun n=>V.own 18 n) (by simp))⟩ ?_
 obtain⟨l10,hl16,h⟩:=Qb h
 refine AK.loop (body:=(fun st=>QaE x4 m1 st.1 st.2)) (fun st σ=>σ=⟨[(0,.map 200000),(3,.own 18 st.2.length),(8,.own 8 x4.length),(9,.i .i64 (x4.length:Int)),(10,.i .i64 st.1)],[(8,.arr 1 (x4.map Qe)),(18,.arr 2 (st.2.map Qs)),(200000,.map (mapV (V.i .i64) (V.i .i64) m1))]⟩) (fun q e σ=>e=.exit 0∧σ=⟨[(3,.own 18 q.length)],[(18,.arr 2 (q.map Qs)),(200000,.map (mapV (V.i .i64) (V.i .i64) m1))]⟩) hl16 rfl ?_ ?_
 ·rintro ⟨x6,l7⟩ o σ rfl h
  replace h:QaE x4 m1 x6 l7=some o:=h
  unfold QaE at h
  refine Qa hC [.n 6] rfl tt_ ?_
  rcases bifE h with⟨hc11,h⟩|⟨hc11,h⟩
  ·refine Qa hC [.br true,.n 2] rfl ⟨tt_,hc11⟩ ?_
   refine AK.meet (fun σ=>∃l12:(List (Int×Int)),σ=⟨[(0,.map 200000),(3,.own 18 l12.length),(8,.own 8 x4.length),(9,.i .i64 (x4.length:Int)),(10,.i .i64 x6)],[(8,.arr 1 (x4.map Qe)),(18,.arr 2 (l12.map Qs)),(200000,.map (mapV (V.i .i64) (V.i .i64) m1))]⟩∧QbY x6 l12=some o) ?_ ?_
   ·obtain⟨e13,he13,h⟩:=Qb h
    refine Qa hC [.n 4,.o (.row (Qe e13)),.n 7,.o (.any (.i .i64 ((mget m1 e13).getD 0)) none),.n 3] rfl ⟨⟨⟨tt_,(Qe0 he13 rfl)⟩,(QcE (idxE he13).2)⟩,(fun σ h1 h2 _=>Stp.lookup (e:=(V.i .i64)) (f:=(V.i .i64)) (l:=m1) (k:=e13) (z:=0) rfl rfl (bleN hC.n rfl) (h1 _ _ rfl) (h2 _ _ rfl) (h1 _ _ rfl) QgD ky_3 zi_3 rfl)⟩ ?_
    rcases bifE h with⟨hc14,h⟩|⟨hc14,h⟩
    ·obtain⟨_,hk15,h⟩:=Qb h
     replace hk15:=chkE hk15
     refine Qa hC [.br true,.n 5,.o (.any (.i .i64 ((mget m1 e13).getD 0)) none),.v .no [] (.agg (Qs (e13,((mget m1 e13).getD 0)))),.v (.bd []) [] (.sl 2 (([(e13,((mget m1 e13).getD 0))]:List (Int×Int)).map Qs)),.app ((l7++([(e13,((mget m1 e13).getD 0))]:List (Int×Int))).map Qs) (l7++([(e13,((mget m1 e13).getD 0))]:List (Int×Int))).length,.n 3,.keep [0,3,8,9,10] [8,18,200000]] rfl ⟨⟨⟨⟨⟨tt_,hc14⟩,(fun σ h1 h2 _=>Stp.lookup (e:=(V.i .i64)) (f:=(V.i .i64)) (l:=m1) (k:=e13) (z:=0) rfl rfl (bleN hC.n rfl) (h1 _ _ rfl) (h2 _ _ rfl) (h1 _ _ rfl) QgD ky_3 zi_3 rfl)⟩,rfl⟩,rfl⟩,⟨Qg,Qdn hk15 Qg,Qco,Qfl Qg⟩⟩ ?_
     exact AK.met (ex_ _ (an_ rfl h))
    ·refine Qa hC [.br false,.n 2,.keep [0,3,8,9,10] [8,18,200000]] rfl ⟨tt_,hc14⟩ ?_
     exact AK.met (ex_ _ (an_ rfl h))
   ·rintro σ ⟨l12,rfl,h⟩
    unfold QbY at h
    refine Qa hC [.n 4,.keep [0,3,8,9,10] [8,18,200000]] rfl tt_ ?_
    cases h
    exact rndN rfl rfl
  ·refine Qa hC [.br false,.n 2,.keep [3] [18,200000]] rfl ⟨tt_,hc11⟩ ?_
   cases h
   exact rndX rfl (an_ rfl rfl)
 ·replace h:Qhe l10=some r:=h
  unfold Qhe at h
  rintro e σ ⟨rfl,rfl⟩
  refine Qa hC [.n 9,.keep [2] [18,200000],.ren 18 30000,.keep [2] [30000,200000]] rfl tt_ ?_
  cases h
  exact AK.done (ex_ [_] (an_ (an_ rfl tt_) (gives ⟨rfl,rfl,tt_⟩)))
def Qix (x4:Int)(m10:(List (Int×Int))):Option ((Int×(List (Int×Int)))⊕(List (Int×Int))):=
 some (.inl ((w64 (x4+1)),m10))
def QcC (l1:(List Int))(x4:Int)(m5:(List (Int×Int))):Option ((Int×(List (Int×Int)))⊕(List (Int×Int))):=
 bif (decide (x4<(l1.length:Int)))then
 (idx l1 x4).bind fun e11=>
 bif (decide (0≤e11))then
 Qix x4 (mset ltI m5 e11 (min2 (w64 (((mget m5 e11).getD 0)+1)) 1048576))
 else
 Qix x4 m5
 else
 some (.inr m5)
def Qiy (m8:(List (Int×Int))):Option (List (Int×Int)):=
 (Qck m8).bind fun x14=>
 some x14
def Qln (l1:(List Int)):Option (List (Int×Int)):=
 (QF (fun st=>QcC l1 st.1 st.2) (0,([]:(List (Int×Int))))).bind (fun q=>Qiy q)
theorem Qsp (l1:(List Int)){r:(List (Int×Int))}(h:Qln l1=some r):Qc Tryz.prog 97 [.sl 1 (l1.map Qe)] [] (Gives (.own 30000 r.length) [(30000,.arr 2 (r.map Qs))]):=by
 refine Qc.walk 25 Tryz.func97 rfl Tryz.ntmps97 rfl fun C hC=>?_
 unfold Qln at h
 refine Qa hC [.n 8,.sayO 6 (.map (mapV (V.i .i64) (V.i .i64) ([]:(List (Int×Int))))),.n 7,.o (.ln l1.length),.n 4,.keep [3,7,8,9] [6]] rfl ⟨⟨tt_,rfl⟩,Qg⟩ ?_
 obtain⟨m8,hl13,h⟩:=Qb h
 refine AK.loop (body:=(fun st=>QcC l1 st.1 st.2)) (fun st σ=>σ=⟨[(3,.map 6),(7,.sl 1 (l1.map Qe)),(8,.i .i64 (l1.length:Int)),(9,.i .i64 st.1)],[(6,.map (mapV (V.i .i64) (V.i .i64) st.2))]⟩) (fun q e σ=>e=.exit 0∧σ=⟨[(3,.map 6)],[(6,.map (mapV (V.i .i64) (V.i .i64) q))]⟩) hl13 rfl ?_ ?_
 ·rintro ⟨x4,m5⟩ o σ rfl h
  replace h:QcC l1 x4 m5=some o:=h
  unfold QcC at h
  refine Qa hC [.n 6] rfl tt_ ?_
  rcases bifE h with⟨hc9,h⟩|⟨hc9,h⟩
  ·refine Qa hC [.br true,.n 2] rfl ⟨tt_,hc9⟩ ?_
   refine AK.meet (fun σ=>∃m10:(List (Int×Int)),σ=⟨[(3,.map 6),(7,.sl 1 (l1.map Qe)),(8,.i .i64 (l1.length:Int)),(9,.i .i64 x4)],[(6,.map (mapV (V.i .i64) (V.i .i64) m10))]⟩∧Qix x4 m10=some o) ?_ ?_
   ·obtain⟨e11,he11,h⟩:=Qb h
    refine Qa hC [.n 3,.o (.row (Qe e11)),.n 10] rfl ⟨tt_,(idxM he11)⟩ ?_
    rcases bifE h with⟨hc12,h⟩|⟨hc12,h⟩
    ·refine Qa hC [.br true,.n 5,.o (.any (.i .i64 ((mget m5 e11).getD 0)) none),.n 2,.x (fun σ=>σ.set 6 (.map (mapV (V.i .i64) (V.i .i64) (mset ltI m5 e11 (min2 (w64 (((mget m5 e11).getD 0)+1)) 1048576))))),.n 2,.keep [3,7,8,9] [6]] rfl ⟨⟨⟨tt_,hc12⟩,(fun σ h1 h2 _=>Stp.lookup (e:=(V.i .i64)) (f:=(V.i .i64)) (l:=m5) (k:=e11) (z:=0) rfl rfl (bleN hC.n rfl) (h1 _ _ rfl) (h2 _ _ rfl) (h1 _ _ rfl) QgD ky_3 zi_3 rfl)⟩,(Stp.mapUpdate (e:=(V.i .i64)) (f:=(V.i .i64)) (l:=m5) (k:=e11) (v:=(min2 (w64 (((mget m5 e11).getD 0)+1)) 1048576)) ltI rfl rfl rfl rfl rfl rfl QgD ky_3 rfl)⟩ ?_
     exact AK.met (ex_ _ (an_ rfl h))
    ·refine Qa hC [.br false,.n 2,.keep [3,7,8,9] [6]] rfl ⟨tt_,hc12⟩ ?_
     exact AK.met (ex_ _ (an_ rfl h))
   ·rintro σ ⟨m10,rfl,h⟩
    unfold Qix at h
    refine Qa hC [.n 4,.keep [3,7,8,9] [6]] rfl tt_ ?_
    cases h
    exact rndN rfl rfl
  ·refine Qa hC [.br false,.n 2,.keep [3] [6]] rfl ⟨tt_,hc9⟩ ?_
   cases h
   exact rndX rfl (an_ rfl rfl)
 ·replace h:Qiy m8=some r:=h
  unfold Qiy at h
  rintro e σ ⟨rfl,rfl⟩
  obtain⟨x14,hx14,h⟩:=Qb h
  refine Qa hC [.n 5,.cm (.fn) [(200000,6)] [(24,30000),(6,200000)] [] [.d] [(30000,.arr 2 (x14.map Qs)),(200000,.map (mapV (V.i .i64) (V.i .i64) m8))] (.own 30000 x14.length),.n 4,.keep [2] [24],.ren 24 30000,.keep [2] [30000]] rfl ⟨tt_,(Qhf _ hx14)⟩ ?_
  cases h
  exact AK.done (ex_ [_] (an_ (an_ rfl tt_) (gives ⟨rfl,tt_⟩)))
def Qa2 (b1:(List (Int×Int)))(last4:Int)(x5:Int):Option ((Int×Int)⊕(Unit⊕Unit)):=
 bif (decide (x5<(b1.length:Int)))then
 (idx b1 x5).bind fun e9=>
 bif ((decide (e9.1≤last4))||((decide (e9.2<1))||(decide (1048576<e9.2))))then
 some (.inr (.inl ()))
 else
 some (.inl (e9.1,(w64 (x5+1))))
 else
 some (.inr (.inr ()))
def Qf8 : Option Bool:=
 some false
def Qf9 : Option Bool:=
 some true
def Qb5 (b1:(List (Int×Int))):Option Bool:=
 (QF (fun st=>Qa2 b1 st.1 st.2) ((-1),0)).bind (Sum.elim (fun q=>Qf8) (fun q=>Qf9))
theorem Qga (b1:(List (Int×Int))){r:Bool}(h:Qb5 b1=some r):Qc Tryz.prog 54 [.sl 2 (b1.map Qs)] [] (Gives (.b r) []):=by
 refine Qc.walk 29 Tryz.func54 rfl Tryz.ntmps54 rfl fun C hC=>?_
 unfold Qb5 at h
 refine Qa hC [.n 14,.o (.ln b1.length),.n 4,.keep [3,6,7,8] []] rfl ⟨tt_,Qg⟩ ?_
 obtain⟨o14,hl14,h⟩:=Qb h
 refine AK.loop (body:=(fun st=>Qa2 b1 st.1 st.2)) (fun st σ=>σ=⟨[(3,.i .i64 st.1),(6,.sl 2 (b1.map Qs)),(7,.i .i64 (b1.length:Int)),(8,.i .i64 st.2)],[]⟩) (Sum.elim (fun q e σ=>e=.ret∧σ=⟨[(2,.b false)],[]⟩) (fun q e σ=>e=.exit 0∧σ=⟨[],[]⟩)) hl14 rfl ?_ ?_
 ·rintro ⟨last4,x5⟩ o σ rfl h
  replace h:Qa2 b1 last4 x5=some o:=h
  unfold Qa2 at h
  refine Qa hC [.n 6] rfl tt_ ?_
  rcases bifE h with⟨hc8,h⟩|⟨hc8,h⟩
  ·obtain⟨e9,he9,h⟩:=Qb h
   refine Qa hC [.br true,.n 6,.o (.row (Qs e9)),.v .no [] (.agg (Qs e9)),.n 2,.sayO 5 (.var (Qs e9)),.n 4] rfl ⟨⟨⟨⟨tt_,hc8⟩,(idxM he9)⟩,rfl⟩,rfl⟩ ?_
   refine AK.meetX (fun σ=>σ=⟨[(5,.loc 5 0 0),(6,.sl 2 (b1.map Qs)),(7,.i .i64 (b1.length:Int)),(8,.i .i64 x5),(25,.b ((decide (e9.1≤last4))||((decide (e9.2<1))||(decide (1048576<e9.2)))))],[(5,.var (Qs e9))]⟩) ?_ ?_
   ·refine Qa hC [.n 6] rfl tt_ ?_
    rcases QJ (decide (e9.1≤last4))with hc11 | hc11
    ·refine Qa hC [.say 16 (.b true),.n 10,.say 25 (.b ((decide (e9.1≤last4))||((decide (e9.2<1))||(decide (1048576<e9.2))))),.keep [5,6,7,8,25] [5]] rfl ⟨⟨tt_,(congrArg V.b hc11)⟩,(congrArg V.b (orT hc11 rfl))⟩ ?_
     exact AK.met rfl
    ·refine Qa hC [.say 16 (.b false),.n 5] rfl ⟨tt_,(congrArg V.b hc11)⟩ ?_
     rcases QJ (decide (e9.2<1))with hc12 | hc12
     ·refine Qa hC [.say 21 (.b true),.n 5,.say 25 (.b ((decide (e9.1≤last4))||((decide (e9.2<1))||(decide (1048576<e9.2))))),.keep [5,6,7,8,25] [5]] rfl ⟨⟨tt_,(congrArg V.b hc12)⟩,(congrArg V.b (orF hc11 (orT hc12 rfl)))⟩ ?_
      exact AK.met rfl
     ·refine Qa hC [.say 21 (.b false),.n 5,.say 25 (.b ((decide (e9.1≤last4))||((decide (e9.2<1))||(decide (1048576<e9.2))))),.keep [5,6,7,8,25] [5]] rfl ⟨⟨tt_,(congrArg V.b hc12)⟩,(congrArg V.b (orF hc11 (orF hc12 rfl)))⟩ ?_
      exact AK.met rfl
   ·rintro σ rfl
    refine Qa hC [.n 1] rfl tt_ ?_
    rcases bifE h with⟨hc13,h⟩|⟨hc13,h⟩
    ·refine Qa hC [.br true,.n 9,.keep [2] []] rfl ⟨tt_,hc13⟩ ?_
     cases h
     exact rndR rfl (an_ rfl rfl)
    ·refine Qa hC [.br false,.n 13,.keep [3,6,7,8] []] rfl ⟨tt_,hc13⟩ ?_
     cases h
     exact rndN rfl rfl
  ·refine Qa hC [.br false,.n 2,.keep [] []] rfl ⟨tt_,hc8⟩ ?_
   cases h
   exact rndX rfl (an_ rfl rfl)
 ·rcases o14 with(_ | _)
  ·replace h:Qf8=some r:=h
   unfold Qf8 at h
   rintro e σ ⟨rfl,rfl⟩
   refine Qa hC [.n 2,.keep [2] []] rfl tt_ ?_
   cases h
   exact AK.done (ex_ [_] (an_ (an_ rfl tt_) (gives tt_)))
  ·replace h:Qf9=some r:=h
   unfold Qf9 at h
   rintro e σ ⟨rfl,rfl⟩
   refine Qa hC [.n 8,.keep [2] []] rfl tt_ ?_
   cases h
   exact AK.done (ex_ [_] (an_ (an_ rfl tt_) (gives tt_)))
def Qdi (b1:(List (Int×Int)))(x6:Int)(m7:(List (Int×Int))):Option ((Int×(List (Int×Int)))⊕(List (Int×Int))):=
 bif (decide (x6<(b1.length:Int)))then
 (idx b1 x6).bind fun e12=>
 some (.inl ((w64 (x6+1)),(mset ltI m7 e12.1 e12.2)))
 else
 some (.inr m7)
def Qmf (m10:(List (Int×Int))):Option (Unit⊕(List (Int×Int))):=
 some (.inr m10)
def Qi0 (b1:(List (Int×Int))):Option (Unit⊕(List (Int×Int))):=
 (Qb5 b1).bind fun x3=>
 bif (!x3)then
 some (.inl ())
 else
 (QF (fun st=>Qdi b1 st.1 st.2) (0,([]:(List (Int×Int))))).bind (fun q=>Qmf q)
theorem Qg8 (b1:(List (Int×Int))){r:(Unit⊕(List (Int×Int)))}(h:Qi0 b1=some r):Qc Tryz.prog 90 [.sl 2 (b1.map Qs)] [] ((Sum.elim (fun q=>(Gives (.tup [.lit (.map none),.b false]) [])) (fun q=>(Gives (.tup [.map 30002,.b true]) [(30002,.map (mapV (V.i .i64) (V.i .i64) q))]))) r):=by
 refine Qc.walk 24 Tryz.func90 rfl Tryz.ntmps90 rfl fun C hC=>?_
 unfold Qi0 at h
 obtain⟨x3,hx3,h⟩:=Qb h
 refine Qa hC [.n 10,.o (.c false [.d] (.b x3)),.n 3] rfl ⟨tt_,(Qga _ hx3)⟩ ?_
 rcases bifE h with⟨hc4,h⟩|⟨hc4,h⟩
 ·refine Qa hC [.br true,.n 8,.keep [2,3] []] rfl ⟨tt_,hc4⟩ ?_
  cases h
  exact AK.done (ex_ [_,_] (an_ (an_ rfl (an_ rfl tt_)) (gives tt_)))
 ·refine Qa hC [.br false,.n 5,.sayO 10 (.map (mapV (V.i .i64) (V.i .i64) ([]:(List (Int×Int))))),.n 7,.o (.ln b1.length),.n 4,.keep [4,11,12,13] [10]] rfl ⟨⟨⟨tt_,hc4⟩,rfl⟩,Qg⟩ ?_
  obtain⟨m10,hl13,h⟩:=Qb h
  refine AK.loop (body:=(fun st=>Qdi b1 st.1 st.2)) (fun st σ=>σ=⟨[(4,.map 10),(11,.sl 2 (b1.map Qs)),(12,.i .i64 (b1.length:Int)),(13,.i .i64 st.1)],[(10,.map (mapV (V.i .i64) (V.i .i64) st.2))]⟩) (fun q e σ=>e=.exit 0∧σ=⟨[(4,.map 10)],[(10,.map (mapV (V.i .i64) (V.i .i64) q))]⟩) hl13 rfl ?_ ?_
  ·rintro ⟨x6,m7⟩ o σ rfl h
   replace h:Qdi b1 x6 m7=some o:=h
   unfold Qdi at h
   refine Qa hC [.n 6] rfl tt_ ?_
   rcases bifE h with⟨hc11,h⟩|⟨hc11,h⟩
   ·obtain⟨e12,he12,h⟩:=Qb h
    refine Qa hC [.br true,.n 6,.o (.row (Qs e12)),.v .no [] (.agg (Qs e12)),.n 2,.sayO 6 (.var (Qs e12)),.n 8,.x (fun σ=>σ.set 10 (.map (mapV (V.i .i64) (V.i .i64) (mset ltI m7 e12.1 e12.2)))),.n 7,.keep [4,11,12,13] [10]] rfl ⟨⟨⟨⟨⟨tt_,hc11⟩,(idxM he12)⟩,rfl⟩,rfl⟩,(Stp.mapUpdate (e:=(V.i .i64)) (f:=(V.i .i64)) (l:=m7) (k:=e12.1) (v:=e12.2) ltI rfl rfl rfl rfl rfl rfl QgD ky_3 rfl)⟩ ?_
    cases h
    exact rndN rfl rfl
   ·refine Qa hC [.br false,.n 2,.keep [4] [10]] rfl ⟨tt_,hc11⟩ ?_
    cases h
    exact rndX rfl (an_ rfl rfl)
  ·replace h:Qmf m10=some r:=h
   unfold Qmf at h
   rintro e σ ⟨rfl,rfl⟩
   refine Qa hC [.n 10,.keep [2,3] [10],.ren 10 30002,.keep [2,3] [30002]] rfl tt_ ?_
   cases h
   exact AK.done (ex_ [_,_] (an_ (an_ rfl (an_ rfl tt_)) (gives ⟨rfl,tt_⟩)))
def QkF (a11:Unit):Option (Unit⊕((List (Int×Int))⊕((List (Int×Int))⊕((List (Int×Int))×(List (Int×Int)))))):=
 some (.inl ())
def QkG (a12:(List (Int×Int))):Option (Unit⊕((List (Int×Int))⊕((List (Int×Int))⊕((List (Int×Int))×(List (Int×Int)))))):=
 some (.inr (.inl a12))
def QiI (b2:(List (Int×Int)))(a8:Unit):Option (Unit⊕((List (Int×Int))⊕((List (Int×Int))⊕((List (Int×Int))×(List (Int×Int)))))):=
 (Qi0 b2).bind (Sum.elim (fun q=>QkF q) (fun q=>QkG q))
def QkH (a9:(List (Int×Int)))(a14:Unit):Option (Unit⊕((List (Int×Int))⊕((List (Int×Int))⊕((List (Int×Int))×(List (Int×Int)))))):=
 some (.inr (.inr (.inl a9)))
def QkI (a9:(List (Int×Int)))(a15:(List (Int×Int))):Option (Unit⊕((List (Int×Int))⊕((List (Int×Int))⊕((List (Int×Int))×(List (Int×Int)))))):=
 some (.inr (.inr (.inr (a9,a15))))
def QiJ (b2:(List (Int×Int)))(a9:(List (Int×Int))):Option (Unit⊕((List (Int×Int))⊕((List (Int×Int))⊕((List (Int×Int))×(List (Int×Int)))))):=
 (Qi0 b2).bind (Sum.elim (fun q=>QkH a9 q) (fun q=>QkI a9 q))
def QgF (a1:(List (Int×Int)))(b2:(List (Int×Int))):Option (Unit⊕((List (Int×Int))⊕((List (Int×Int))⊕((List (Int×Int))×(List (Int×Int)))))):=
 (Qi0 a1).bind (Sum.elim (fun q=>QiI b2 q) (fun q=>QiJ b2 q))
theorem QaW (a1:(List (Int×Int)))(b2:(List (Int×Int))){r:(Unit⊕((List (Int×Int))⊕((List (Int×Int))⊕((List (Int×Int))×(List (Int×Int))))))}(h:QgF a1 b2=some r):Qc Tryz.prog 47 [.sl 2 (a1.map Qs),.sl 2 (b2.map Qs)] [] ((Sum.elim (fun q=>(Gives (.tup [.lit (.map none),.lit (.map none),.b false]) [])) (Sum.elim (fun q=>(Gives (.tup [.lit (.map none),.map 30005,.b false]) [(30005,.map (mapV (V.i .i64) (V.i .i64) q))])) (Sum.elim (fun q=>(Gives (.tup [.map 30004,.lit (.map none),.b false]) [(30004,.map (mapV (V.i .i64) (V.i .i64) q))])) (fun q=>(Gives (.tup [.map 30004,.map 30005,.b true]) [(30004,.map (mapV (V.i .i64) (V.i .i64) q.1)),(30005,.map (mapV (V.i .i64) (V.i .i64) q.2))]))))) r):=by
 refine Qc.walk 25 Tryz.func47 rfl Tryz.ntmps47 rfl fun C hC=>?_
 unfold QgF at h
 obtain⟨x7,hx7,h⟩:=Qb h
 refine Qa hC [.n 10] rfl tt_ ?_
 rcases x7 with(a8 | a9)
 ·replace h:QiI b2 a8=some r:=h
  unfold QiI at h
  obtain⟨x10,hx10,h⟩:=Qb h
  refine Qa hC [.cm (.fn) [] [] [] [.d] [] (.tup [.lit (.map none),.b false]),.n 10] rfl ⟨tt_,(Qg8 _ hx7)⟩ ?_
  rcases x10 with(a11 | a12)
  ·replace h:QkF a11=some r:=h
   unfold QkF at h
   refine Qa hC [.cm (.fn) [] [] [] [.d] [] (.tup [.lit (.map none),.b false]),.n 21,.keep [4,5,6] []] rfl ⟨tt_,(Qg8 _ hx10)⟩ ?_
   cases h
   exact AK.done (ex_ [_,_,_] (an_ (an_ rfl (an_ rfl (an_ rfl tt_))) (gives tt_)))
  ·replace h:QkG a12=some r:=h
   unfold QkG at h
   refine Qa hC [.cm (.fn) [] [(16,30002)] [] [.d] [(30002,.map (mapV (V.i .i64) (V.i .i64) a12))] (.tup [.map 30002,.b true]),.n 21,.keep [4,5,6] [16],.ren 16 30005,.keep [4,5,6] [30005]] rfl ⟨tt_,(Qg8 _ hx10)⟩ ?_
   cases h
   exact AK.done (ex_ [_,_,_] (an_ (an_ rfl (an_ rfl (an_ rfl tt_))) (gives ⟨rfl,tt_⟩)))
 ·replace h:QiJ b2 a9=some r:=h
  unfold QiJ at h
  obtain⟨x13,hx13,h⟩:=Qb h
  refine Qa hC [.cm (.fn) [] [(11,30002)] [] [.d] [(30002,.map (mapV (V.i .i64) (V.i .i64) a9))] (.tup [.map 30002,.b true]),.n 10] rfl ⟨tt_,(Qg8 _ hx7)⟩ ?_
  rcases x13 with(a14 | a15)
  ·replace h:QkH a9 a14=some r:=h
   unfold QkH at h
   refine Qa hC [.cm (.fn) [] [] [] [.d] [] (.tup [.lit (.map none),.b false]),.n 21,.keep [4,5,6] [11],.ren 11 30004,.keep [4,5,6] [30004]] rfl ⟨tt_,(Qg8 _ hx13)⟩ ?_
   cases h
   exact AK.done (ex_ [_,_,_] (an_ (an_ rfl (an_ rfl (an_ rfl tt_))) (gives ⟨rfl,tt_⟩)))
  ·replace h:QkI a9 a15=some r:=h
   unfold QkI at h
   refine Qa hC [.cm (.fn) [] [(16,30002)] [] [.d] [(30002,.map (mapV (V.i .i64) (V.i .i64) a15))] (.tup [.map 30002,.b true]),.n 21,.keep [4,5,6] [11,16],.ren 11 30004,.keep [4,5,6] [16,30004],.ren 16 30005,.keep [4,5,6] [30004,30005]] rfl ⟨tt_,(Qg8 _ hx13)⟩ ?_
   cases h
   exact AK.done (ex_ [_,_,_] (an_ (an_ rfl (an_ rfl (an_ rfl tt_))) (gives ⟨rfl,rfl,tt_⟩)))
def Qlo (a8:Unit):Option ((List (Int×Int))×Int):=
 some (([]:List (Int×Int)),1)
def Qlp (a9:(List (Int×Int))):Option ((List (Int×Int))×Int):=
 some (([]:List (Int×Int)),1)
def Qlq (a10:(List (Int×Int))):Option ((List (Int×Int))×Int):=
 some (([]:List (Int×Int)),1)
def QeC (m14:(List (Int×Int)))(k16:Int)(v17:Int):Option ((List (Int×Int))⊕Unit):=
 bif (decide (1048576<((mget (mset ltI m14 k16 (w64 (((mget m14 k16).getD 0)+v17))) k16).getD 0)))then
 some (.inr ())
 else
 some (.inl (mset ltI m14 k16 (w64 (((mget m14 k16).getD 0)+v17))))
def Qjy (m14:(List (Int×Int))):Option ((List (Int×Int))×Int):=
 (Qck m14).bind fun x20=>
 some (x20,0)
def Qlr : Option ((List (Int×Int))×Int):=
 some (([]:List (Int×Int)),2)
def Qjz (a11:((List (Int×Int))×(List (Int×Int)))):Option ((List (Int×Int))×Int):=
 (Qis (fun st p=>QeC st p.1 p.2) a11.1 a11.2).bind (Sum.elim (fun q=>Qjy q) (fun q=>Qlr))
def QM (a1:(List (Int×Int)))(b2:(List (Int×Int))):Option ((List (Int×Int))×Int):=
 (QgF a1 b2).bind (Sum.elim (fun q=>Qlo q) (Sum.elim (fun q=>Qlp q) (Sum.elim (fun q=>Qlq q) (fun q=>Qjz q))))
theorem QjA (a1:(List (Int×Int)))(b2:(List (Int×Int))){r:((List (Int×Int))×Int)}(h:QM a1 b2=some r):Qc Tryz.prog 24 [.sl 2 (a1.map Qs),.sl 2 (b2.map Qs)] [] (Gives (.tup [.sl 2 (r.1.map Qs),.i .i64 r.2]) []):=by
 refine Qc.walk 38 Tryz.func24 rfl Tryz.ntmps24 rfl fun C hC=>?_
 unfold QM at h
 obtain⟨x7,hx7,h⟩:=Qb h
 refine Qa hC [.n 10] rfl tt_ ?_
 rcases x7 with(a8 | (a9 | (a10 | a11)))
 ·replace h:Qlo a8=some r:=h
  unfold Qlo at h
  refine Qa hC [.cm (.fn) [] [] [] [.d,.d] [] (.tup [.lit (.map none),.lit (.map none),.b false]),.n 25,.denil 4 [some 2],.keep [4,5] []] rfl ⟨tt_,(QaW _ _ hx7)⟩ ?_
  cases h
  exact AK.done (ex_ [_,_] (an_ (an_ rfl (an_ rfl tt_)) (gives tt_)))
 ·replace h:Qlp a9=some r:=h
  unfold Qlp at h
  refine Qa hC [.cm (.fn) [] [(14,30005)] [] [.d,.d] [(30005,.map (mapV (V.i .i64) (V.i .i64) a9))] (.tup [.lit (.map none),.map 30005,.b false]),.n 25,.denil 4 [some 2],.keep [4,5] []] rfl ⟨tt_,(QaW _ _ hx7)⟩ ?_
  cases h
  exact AK.done (ex_ [_,_] (an_ (an_ rfl (an_ rfl tt_)) (gives tt_)))
 ·replace h:Qlq a10=some r:=h
  unfold Qlq at h
  refine Qa hC [.cm (.fn) [] [(14,30004)] [] [.d,.d] [(30004,.map (mapV (V.i .i64) (V.i .i64) a10))] (.tup [.map 30004,.lit (.map none),.b false]),.n 25,.denil 4 [some 2],.keep [4,5] []] rfl ⟨tt_,(QaW _ _ hx7)⟩ ?_
  cases h
  exact AK.done (ex_ [_,_] (an_ (an_ rfl (an_ rfl tt_)) (gives tt_)))
 ·replace h:Qjz a11=some r:=h
  unfold Qjz at h
  refine Qa hC [.cm (.fn) [] [(14,30004),(50000,30005)] [] [.d,.d] [(30004,.map (mapV (V.i .i64) (V.i .i64) a11.1)),(30005,.map (mapV (V.i .i64) (V.i .i64) a11.2))] (.tup [.map 30004,.map 30005,.b true]),.n 23] rfl ⟨tt_,(QaW _ _ hx7)⟩ ?_
  refine AK.openMap (b:=50000) ky_3 rfl fun bm12 cl12 L12 hbn12 hpm12=>?_
  refine Qa hC [.x (fun σ=>(σ.set 21 (.itr bm12 cl12 #[] none)).put 21 (.loc 21 0 0)),.n 3,.keep [6,21] [14,21,50000]] rfl ⟨tt_,(Stp.range (b:=50000) rfl rfl (bleN hC.n rfl) rfl rfl QgD rfl)⟩ ?_
  obtain⟨o19,hl19,h⟩:=Qb h
  refine AK.range (body:=(fun st p=>QeC st p.1 p.2)) (fun st seen σ=>∃cur:Option MapEntry,σ=⟨[(6,.map 14),(21,.loc 21 0 0)],[(14,.map (mapV (V.i .i64) (V.i .i64) st)),(21,.itr bm12 cl12 seen cur),(50000,.mapX bm12 cl12 (typV (V.i .i64) (V.i .i64) L12) (mapV (V.i .i64) (V.i .i64) a11.2))]⟩) (fun q e σ=>e=.ret∧σ=⟨[(4,.lit (.slice none 0 0)),(5,.i .i64 2)],[]⟩) (fun st e σ=>e=.exit 0∧σ=⟨[(6,.map 14)],[(14,.map (mapV (V.i .i64) (V.i .i64) st))]⟩) hbn12 hpm12 hl19 (ex_ _ rfl) ?_ ?_
  ·rintro m14 seen σ ⟨cur,rfl⟩ hex
   refine Qa hC [.n 2] rfl tt_ ?_
   refine AK.nextT (b:=21) (m:=50000) rfl rfl rfl (bleN hC.n rfl) rfl rfl rfl rfl ?_ ?_
   ·intro hleft
    refine Qa hC [.n 7,.keep [6] [14]] rfl tt_ ?_
    exact AK.done (Or.inl (an_ hleft (an_ (fun h=>(by cases h)) (an_ rfl rfl))))
   ·intro xk16 k16 v17 hq13
    obtain⟨o,h⟩:=hex _ hq13
    have ho:=h
    replace h:QeC m14 k16 v17=some o:=h
    unfold QeC at h
    refine Qa hC [.n 10,.x (fun σ=>σ.put 24 (.tup [.i .i64 k16,.i .i64 v17])),.n 10,.o (.any (.i .i64 ((mget m14 k16).getD 0)) none),.n 2,.x (fun σ=>σ.set 14 (.map (mapV (V.i .i64) (V.i .i64) (mset ltI m14 k16 (w64 (((mget m14 k16).getD 0)+v17)))))),.n 6,.o (.any (.i .i64 ((mget (mset ltI m14 k16 (w64 (((mget m14 k16).getD 0)+v17))) k16).getD 0)) none),.n 3] rfl ⟨⟨⟨⟨tt_,(Stp.entryT (b:=21) (m:=50000) rfl rfl (bleN hC.n rfl) rfl hq13 rfl rfl)⟩,(fun σ h1 h2 _=>Stp.lookup (e:=(V.i .i64)) (f:=(V.i .i64)) (l:=m14) (k:=k16) (z:=0) rfl rfl (bleN hC.n rfl) (h1 _ _ rfl) (h2 _ _ rfl) (h1 _ _ rfl) QgD ky_3 zi_3 rfl)⟩,(Stp.mapUpdate (e:=(V.i .i64)) (f:=(V.i .i64)) (l:=m14) (k:=k16) (v:=(w64 (((mget m14 k16).getD 0)+v17))) ltI rfl rfl rfl rfl rfl rfl QgD ky_3 rfl)⟩,(fun σ h1 h2 _=>Stp.lookup (e:=(V.i .i64)) (f:=(V.i .i64)) (l:=(mset ltI m14 k16 (w64 (((mget m14 k16).getD 0)+v17)))) (k:=k16) (z:=0) rfl rfl (bleN hC.n rfl) (h1 _ _ rfl) (h2 _ _ rfl) (h1 _ _ rfl) QgD ky_3 zi_3 rfl)⟩ ?_
    rcases bifE h with⟨hc18,h⟩|⟨hc18,h⟩
    ·refine Qa hC [.br true,.n 8,.keep [4,5] []] rfl ⟨tt_,hc18⟩ ?_
     cases h
     exact AK.done (Or.inr (ex_ _ (an_ hq13 (Or.inr (ex_ _ (an_ ho (an_ (fun h=>(by cases h)) (an_ rfl rfl))))))))
    ·refine Qa hC [.br false,.n 2,.keep [6,21] [14,21,50000]] rfl ⟨tt_,hc18⟩ ?_
     cases h
     exact AK.done (Or.inr (ex_ _ (an_ hq13 (Or.inl (ex_ _ (an_ ho (an_ rfl (ex_ _ rfl))))))))
  ·rcases o19 with(m14 | _)
   ·replace h:Qjy m14=some r:=h
    unfold Qjy at h
    rintro e σ ⟨rfl,rfl⟩
    obtain⟨x20,hx20,h⟩:=Qb h
    refine Qa hC [.n 5,.cm (.fn) [(200000,14)] [(37,30000),(14,200000)] [] [.d] [(30000,.arr 2 (x20.map Qs)),(200000,.map (mapV (V.i .i64) (V.i .i64) m14))] (.own 30000 x20.length),.n 5,.frz 37 (x20.map Qs) [4] [],.keep [4,5] []] rfl ⟨⟨tt_,(Qhf _ hx20)⟩,⟨tt_,(frzL Qg)⟩⟩ ?_
    cases h
    exact AK.done (ex_ [_,_] (an_ (an_ rfl (an_ rfl tt_)) (gives tt_)))
   ·replace h:Qlr=some r:=h
    unfold Qlr at h
    rintro e σ ⟨rfl,rfl⟩
    refine Qa hC [.n 2,.denil 4 [some 2],.keep [4,5] []] rfl tt_ ?_
    cases h
    exact AK.done (ex_ [_,_] (an_ (an_ rfl (an_ rfl tt_)) (gives tt_)))
def Qdb (which3:(List Int))(l2:(List TArc))(env4:(List Int))(n1:TNet)(x11:Int)(l12:(List (List (Int×Int)))):Option ((Int×(List (List (Int×Int))))⊕(Int⊕(List (List (Int×Int))))):=
 bif (decide (x11<(which3.length:Int)))then
 (idx which3 x11).bind fun e18=>
 bif ((decide (e18<0))||(decide ((l2.length:Int)≤e18)))then
 some (.inr (.inl 11))
 else
 (idx l2 e18).bind fun e22=>
 (Qg7 e22.Expr env4).bind fun x23=>
 bif (x23.2 != 0)then
 some (.inr (.inl x23.2))
 else
 (idx l2 e18).bind fun e25=>
 bif ((decide (e25.Place<0))||(decide ((n1.Places.length:Int)≤e25.Place)))then
 some (.inr (.inl 3))
 else
 (idx n1.Places e25.Place).bind fun e29=>
 (QcG n1.Colours e29.Colour x23.1).bind fun x30=>
 bif (!x30.2)then
 some (.inr (.inl 8))
 else
 (idx l12 e25.Place).bind fun e32=>
 (Qln ([x30.1]:List Int)).bind fun x33=>
 (QM e32 x33).bind fun x34=>
 (idx l12 e25.Place).bind fun e35=>
 bif (x34.2 != 0)then
 some (.inr (.inl x34.2))
 else
 some (.inl ((w64 (x11+1)),(l12.set e25.Place.toNat x34.1)))
 else
 some (.inr (.inr l12))
def Qi1 (x15:Int):Option ((List (List (Int×Int)))×Int):=
 some (([]:List (List (Int×Int))),x15)
def Qi2 (l16:(List (List (Int×Int)))):Option ((List (List (Int×Int)))×Int):=
 some (l16,0)
def Qcg (n1:TNet)(l2:(List TArc))(which3:(List Int))(env4:(List Int)):Option ((List (List (Int×Int)))×Int):=
 (chk (decide (0≤(n1.Places.length:Int))&&decide ((n1.Places.length:Int)≤(n1.Places.length:Int))&&decide ((n1.Places.length:Int)≤4294967296))).bind fun _=>
 (QF (fun st=>Qdb which3 l2 env4 n1 st.1 st.2) (0,(List.replicate (n1.Places.length:Int).toNat (([]:(List (Int×Int))):(List (Int×Int)))))).bind (Sum.elim (fun q=>Qi1 q) (fun q=>Qi2 q))
theorem QeD (n1:TNet)(l2:(List TArc))(which3:(List Int))(env4:(List Int)){r:((List (List (Int×Int)))×Int)}(h:Qcg n1 l2 which3 env4=some r):Qc Tryz.prog 52 [.agg (Qd n1),.sl 4 (l2.map QP),.sl 1 (which3.map Qe),.sl 1 (env4.map Qe)] [] (Gives (.tup [.sl 1 (r.1.map Qf),.i .i64 r.2]) []):=by
 refine Qc.walk 97 Tryz.func52 rfl Tryz.ntmps52 rfl fun C hC=>?_
 unfold Qcg at h
 obtain⟨_,hk9,h⟩:=Qb h
 replace hk9:=chkE hk9
 refine Qa hC [.n 11,.o (.ln n1.Places.length),.o (.rows (List.replicate (n1.Places.length:Int).toNat [.lit (.slice none 0 0)]))] rfl ⟨⟨tt_,Qg⟩,⟨hk9,rfl⟩⟩ ?_
 refine AK.denilA (b:=21) [some 2] rfl (QrX (f:=Qf) (x:=([]:(List (Int×Int)))) rfl) ?_
 refine Qa hC [.say 21 (.own 21 (List.replicate (n1.Places.length:Int).toNat (([]:(List (Int×Int))):(List (Int×Int)))).length),.n 7,.o (.ln which3.length),.n 4,.keep [1,3,4,10,22,23,24] [4,21]] rfl ⟨⟨tt_,(by simp)⟩,Qg⟩ ?_
 obtain⟨o37,hl37,h⟩:=Qb h
 refine AK.loop (body:=(fun st=>Qdb which3 l2 env4 n1 st.1 st.2)) (fun st σ=>σ=⟨[(1,.sl 4 (l2.map QP)),(3,.sl 1 (env4.map Qe)),(4,.loc 4 0 0),(10,.own 21 st.2.length),(22,.sl 1 (which3.map Qe)),(23,.i .i64 (which3.length:Int)),(24,.i .i64 st.1)],[(4,.var (Qd n1)),(21,.arr 1 (st.2.map Qf))]⟩) (Sum.elim (fun q e σ=>e=.ret∧σ=⟨[(8,.lit (.slice none 0 0)),(9,.i .i64 q)],[]⟩) (fun q e σ=>e=.exit 0∧σ=⟨[(10,.own 21 q.length)],[(21,.arr 1 (q.map Qf))]⟩)) hl37 rfl ?_ ?_
 ·rintro ⟨x11,l12⟩ o σ rfl h
  replace h:Qdb which3 l2 env4 n1 x11 l12=some o:=h
  unfold Qdb at h
  refine Qa hC [.n 6] rfl tt_ ?_
  rcases bifE h with⟨hc17,h⟩|⟨hc17,h⟩
  ·obtain⟨e18,he18,h⟩:=Qb h
   refine Qa hC [.br true,.n 6,.o (.row (Qe e18)),.n 6] rfl ⟨⟨tt_,hc17⟩,(idxM he18)⟩ ?_
   refine AK.meetX (fun σ=>σ=⟨[(1,.sl 4 (l2.map QP)),(3,.sl 1 (env4.map Qe)),(4,.loc 4 0 0),(10,.own 21 l12.length),(12,.i .i64 e18),(22,.sl 1 (which3.map Qe)),(23,.i .i64 (which3.length:Int)),(24,.i .i64 x11),(35,.b ((decide (e18<0))||(decide ((l2.length:Int)≤e18))))],[(4,.var (Qd n1)),(21,.arr 1 (l12.map Qf))]⟩) ?_ ?_
   ·refine Qa hC [.n 4] rfl tt_ ?_
    rcases QJ (decide (e18<0))with hc20 | hc20
    ·refine Qa hC [.say 30 (.b true),.n 6,.say 35 (.b ((decide (e18<0))||(decide ((l2.length:Int)≤e18)))),.keep [1,3,4,10,12,22,23,24,35] [4,21]] rfl ⟨⟨tt_,(congrArg V.b hc20)⟩,(congrArg V.b (orT hc20 rfl))⟩ ?_
     exact AK.met rfl
    ·refine Qa hC [.say 30 (.b false),.n 2,.o (.ln l2.length),.n 3,.say 35 (.b ((decide (e18<0))||(decide ((l2.length:Int)≤e18)))),.keep [1,3,4,10,12,22,23,24,35] [4,21]] rfl ⟨⟨⟨tt_,(congrArg V.b hc20)⟩,Qg⟩,(congrArg V.b (orF hc20 rfl))⟩ ?_
     exact AK.met rfl
   ·rintro σ rfl
    refine Qa hC [.n 1] rfl tt_ ?_
    rcases bifE h with⟨hc21,h⟩|⟨hc21,h⟩
    ·refine Qa hC [.br true,.n 10,.keep [8,9] []] rfl ⟨tt_,hc21⟩ ?_
     cases h
     exact rndR rfl (an_ rfl rfl)
    ·obtain⟨e22,he22,h⟩:=Qb h
     obtain⟨x23,hx23,h⟩:=Qb h
     refine Qa hC [.br false,.n 6,.o (.row (QP e22)),.n 1,.v .no [] (.agg (Ql e22.Expr)),.n 1,.o (.c false [.d,.d] (.tup [.i .i64 x23.1,.i .i64 x23.2])),.n 14] rfl ⟨⟨⟨⟨tt_,hc21⟩,(idxM he22)⟩,rfl⟩,(Qmv _ _ hx23)⟩ ?_
     rcases bifE h with⟨hc24,h⟩|⟨hc24,h⟩
     ·refine Qa hC [.br true,.n 11,.keep [8,9] []] rfl ⟨tt_,hc24⟩ ?_
      cases h
      exact rndR rfl (an_ rfl rfl)
     ·obtain⟨e25,he25,h⟩:=Qb h
      refine Qa hC [.br false,.n 6,.o (.row (QP e25)),.n 7] rfl ⟨⟨tt_,hc24⟩,(idxM he25)⟩ ?_
      refine AK.meetX (fun σ=>σ=⟨[(1,.sl 4 (l2.map QP)),(3,.sl 1 (env4.map Qe)),(4,.loc 4 0 0),(10,.own 21 l12.length),(13,.i .i64 x23.1),(15,.i .i64 e25.Place),(22,.sl 1 (which3.map Qe)),(23,.i .i64 (which3.length:Int)),(24,.i .i64 x11),(62,.b ((decide (e25.Place<0))||(decide ((n1.Places.length:Int)≤e25.Place))))],[(4,.var (Qd n1)),(21,.arr 1 (l12.map Qf))]⟩) ?_ ?_
      ·refine Qa hC [.n 4] rfl tt_ ?_
       rcases QJ (decide (e25.Place<0))with hc27 | hc27
       ·refine Qa hC [.say 56 (.b true),.n 7,.say 62 (.b ((decide (e25.Place<0))||(decide ((n1.Places.length:Int)≤e25.Place)))),.keep [1,3,4,10,13,15,22,23,24,62] [4,21]] rfl ⟨⟨tt_,(congrArg V.b hc27)⟩,(congrArg V.b (orT hc27 rfl))⟩ ?_
        exact AK.met rfl
       ·refine Qa hC [.say 56 (.b false),.n 3,.o (.ln n1.Places.length),.n 3,.say 62 (.b ((decide (e25.Place<0))||(decide ((n1.Places.length:Int)≤e25.Place)))),.keep [1,3,4,10,13,15,22,23,24,62] [4,21]] rfl ⟨⟨⟨tt_,(congrArg V.b hc27)⟩,Qg⟩,(congrArg V.b (orF hc27 rfl))⟩ ?_
        exact AK.met rfl
      ·rintro σ rfl
       refine Qa hC [.n 1] rfl tt_ ?_
       rcases bifE h with⟨hc28,h⟩|⟨hc28,h⟩
       ·refine Qa hC [.br true,.n 10,.keep [8,9] []] rfl ⟨tt_,hc28⟩ ?_
        cases h
        exact rndR rfl (an_ rfl rfl)
       ·obtain⟨e29,he29,h⟩:=Qb h
        obtain⟨x30,hx30,h⟩:=Qb h
        refine Qa hC [.br false,.n 3,.keep [1,3,4,10,13,15,22,23,24] [4,21]] rfl ⟨tt_,hc28⟩ ?_
        refine AK.draw2 Qp hC mixed [.a .no none false,.a .no none false,.a .no none false,.a .no none false,.a .no none false,.a (.row (Qt e29)) none false,.a .no none false,.a .no none false,.a .no none false,.a (.c false [.d,.d,.d] (.tup [.i .i64 x30.1,.b x30.2])) none false,.a .no none false,.a .no none false,.a .no none false,.a .no none false,.a .no none false] [] [] [1,3,4,10,15,16,17,22,23,24] [4,21] rfl rfl rfl ⟨⟨tt_,(idxM he29)⟩,(Qn4 _ _ _ hx30)⟩ rfl (by kernel_rfl) rfl rfl rfl ?_
        refine Qa hC [.n 8] rfl tt_ ?_
        rcases bifE h with⟨hc31,h⟩|⟨hc31,h⟩
        ·refine Qa hC [.br true,.n 10,.keep [8,9] []] rfl ⟨tt_,hc31⟩ ?_
         cases h
         exact rndR rfl (an_ rfl rfl)
        ·obtain⟨e32,he32,h⟩:=Qb h
         obtain⟨x33,hx33,h⟩:=Qb h
         obtain⟨x34,hx34,h⟩:=Qb h
         obtain⟨e35,he35,h⟩:=Qb h
         refine Qa hC [.br false,.n 3,.keep [1,3,4,10,15,16,22,23,24] [4,21]] rfl ⟨tt_,hc31⟩ ?_
         refine AK.draw2 Qp hC mixed [.a .no none false,.a .no none false,.a .no none false,.a .no none false,.a .no none false,.a (.row (Qf e32)) none false,.a .no none false,.a (.bd []) (some ([],.sl 1 (([x30.1]:List Int).map Qe))) false,.a (.cd false [.d] 2 (x33.map Qs) x33.length) none false,.a (.c false [.d,.d] (.tup [.sl 2 (x34.1.map Qs),.i .i64 x34.2])) none false,.a .no none true true,.a .no none false,.a .no none true,.a .no none false,.m (.st (Qf e35) ((l12.set e25.Place.toNat x34.1).map Qf)),.a .no none false] [1,3,4,10,15,16,22,23,24] [4] [1,3,4,10,14,22,23,24] [4,21] rfl rfl rfl ⟨⟨⟨⟨⟨⟨⟨tt_,(Qe0 he32 rfl)⟩,(QcE (idxE he32).2)⟩,rfl⟩,⟨(Qsp _ hx33),Qg⟩⟩,(QjA _ _ hx34)⟩,(Qe0 he35 rfl)⟩,⟨(QcE (idxE he35).2),Qjk rfl⟩⟩ rfl (by kernel_rfl) rfl rfl rfl ?_
         refine Qa hC [.n 7] rfl tt_ ?_
         rcases bifE h with⟨hc36,h⟩|⟨hc36,h⟩
         ·refine Qa hC [.br true,.n 10,.keep [8,9] []] rfl ⟨tt_,hc36⟩ ?_
          cases h
          exact rndR rfl (an_ rfl rfl)
         ·refine Qa hC [.br false,.n 7,.say 10 (.own 21 (l12.set e25.Place.toNat x34.1).length),.keep [1,3,4,10,22,23,24] [4,21]] rfl ⟨⟨tt_,hc36⟩,(congrArg (fun n=>V.own 21 n) (by simp))⟩ ?_
          cases h
          exact rndN rfl rfl
  ·refine Qa hC [.br false,.n 2,.keep [10] [21]] rfl ⟨tt_,hc17⟩ ?_
   cases h
   exact rndX rfl (an_ rfl rfl)
 ·rcases o37 with(x15 | l16)
  ·replace h:Qi1 x15=some r:=h
   unfold Qi1 at h
   rintro e σ ⟨rfl,rfl⟩
   refine Qa hC [.n 2,.denil 8 [some 1],.keep [8,9] []] rfl tt_ ?_
   cases h
   exact AK.done (ex_ [_,_] (an_ (an_ rfl (an_ rfl tt_)) (gives tt_)))
  ·replace h:Qi2 l16=some r:=h
   unfold Qi2 at h
   rintro e σ ⟨rfl,rfl⟩
   refine Qa hC [.n 10,.frz 21 (l16.map Qf) [8] [],.keep [8,9] []] rfl ⟨tt_,⟨tt_,(frzL Qg)⟩⟩ ?_
   cases h
   exact AK.done (ex_ [_,_] (an_ (an_ rfl (an_ rfl tt_)) (gives tt_)))
def Qbm (m2:(List (Int×Int)))(k7:Int)(v8:Int):Option (Unit⊕Unit):=
 bif (decide (((mget m2 k7).getD 0)<v8))then
 some (.inr ())
 else
 some (.inl ())
def QfJ : Option Bool:=
 some true
def QfK : Option Bool:=
 some false
def QbZ (m1:(List (Int×Int)))(m2:(List (Int×Int))):Option Bool:=
 (Qis (fun st p=>Qbm m2 p.1 p.2) () m1).bind (Sum.elim (fun q=>QfJ) (fun q=>QfK))
theorem Qiz (m1:(List (Int×Int)))(m2:(List (Int×Int))){r:Bool}(h:QbZ m1 m2=some r):Qc Tryz.prog 75 [.map 200000,.map 200001] [(200000,.map (mapV (V.i .i64) (V.i .i64) m1)),(200001,.map (mapV (V.i .i64) (V.i .i64) m2))] (Gives (.b r) [(200000,.map (mapV (V.i .i64) (V.i .i64) m1)),(200001,.map (mapV (V.i .i64) (V.i .i64) m2))]):=by
 refine Qc.walk 19 Tryz.func75 rfl Tryz.ntmps75 rfl fun C hC=>?_
 unfold QbZ at h
 refine Qa hC [.n 9] rfl tt_ ?_
 refine AK.openMap (b:=200000) ky_3 rfl fun bm5 cl5 L5 hbn5 hpm5=>?_
 refine Qa hC [.x (fun σ=>(σ.set 8 (.itr bm5 cl5 #[] none)).put 8 (.loc 8 0 0)),.n 3,.keep [1,8] [8,200000,200001]] rfl ⟨tt_,(Stp.range (b:=200000) rfl rfl (bleN hC.n rfl) rfl rfl QgD rfl)⟩ ?_
 obtain⟨o10,hl10,h⟩:=Qb h
 refine AK.range (body:=(fun st p=>Qbm m2 p.1 p.2)) (fun st seen σ=>∃cur:Option MapEntry,σ=⟨[(1,.map 200001),(8,.loc 8 0 0)],[(8,.itr bm5 cl5 seen cur),(200000,.mapX bm5 cl5 (typV (V.i .i64) (V.i .i64) L5) (mapV (V.i .i64) (V.i .i64) m1)),(200001,.map (mapV (V.i .i64) (V.i .i64) m2))]⟩) (fun q e σ=>e=.ret∧σ=⟨[(4,.b false)],[(200000,.mapX bm5 cl5 (typV (V.i .i64) (V.i .i64) L5) (mapV (V.i .i64) (V.i .i64) m1)),(200001,.map (mapV (V.i .i64) (V.i .i64) m2))]⟩) (fun st e σ=>e=.exit 0∧σ=⟨[],[(200000,.mapX bm5 cl5 (typV (V.i .i64) (V.i .i64) L5) (mapV (V.i .i64) (V.i .i64) m1)),(200001,.map (mapV (V.i .i64) (V.i .i64) m2))]⟩) hbn5 hpm5 hl10 (ex_ _ rfl) ?_ ?_
 ·rintro _ seen σ ⟨cur,rfl⟩ hex
  refine Qa hC [.n 2] rfl tt_ ?_
  refine AK.nextT (b:=8) (m:=200000) rfl rfl rfl (bleN hC.n rfl) rfl rfl rfl rfl ?_ ?_
  ·intro hleft
   refine Qa hC [.n 7,.keep [] [200000,200001]] rfl tt_ ?_
   exact AK.done (Or.inl (an_ hleft (an_ (fun h=>(by cases h)) (an_ rfl rfl))))
  ·intro xk7 k7 v8 hq6
   obtain⟨o,h⟩:=hex _ hq6
   have ho:=h
   replace h:Qbm m2 k7 v8=some o:=h
   unfold Qbm at h
   refine Qa hC [.n 10,.x (fun σ=>σ.put 11 (.tup [.i .i64 k7,.i .i64 v8])),.n 11,.o (.any (.i .i64 ((mget m2 k7).getD 0)) none),.n 3] rfl ⟨⟨tt_,(Stp.entryT (b:=8) (m:=200000) rfl rfl (bleN hC.n rfl) rfl hq6 rfl rfl)⟩,(fun σ h1 h2 _=>Stp.lookup (e:=(V.i .i64)) (f:=(V.i .i64)) (l:=m2) (k:=k7) (z:=0) rfl rfl (bleN hC.n rfl) (h1 _ _ rfl) (h2 _ _ rfl) (h1 _ _ rfl) QgD ky_3 zi_3 rfl)⟩ ?_
   rcases bifE h with⟨hc9,h⟩|⟨hc9,h⟩
   ·refine Qa hC [.br true,.n 7,.keep [4] [200000,200001]] rfl ⟨tt_,hc9⟩ ?_
    cases h
    exact AK.done (Or.inr (ex_ _ (an_ hq6 (Or.inr (ex_ _ (an_ ho (an_ (fun h=>(by cases h)) (an_ rfl rfl))))))))
   ·refine Qa hC [.br false,.n 2,.keep [1,8] [8,200000,200001]] rfl ⟨tt_,hc9⟩ ?_
    cases h
    exact AK.done (Or.inr (ex_ _ (an_ hq6 (Or.inl (ex_ _ (an_ ho (an_ rfl (ex_ _ rfl))))))))
 ·rcases o10 with(_ | _)
  ·replace h:QfJ=some r:=h
   unfold QfJ at h
   rintro e σ ⟨rfl,rfl⟩
   refine Qa hC [.n 8] rfl tt_ ?_
   refine AK.closeMap (b:=200000) rfl ?_
   refine Qa hC [.keep [4] [200000,200001]] rfl tt_ ?_
   cases h
   exact AK.done (ex_ [_] (an_ (an_ rfl tt_) (gives ⟨rfl,rfl,tt_⟩)))
  ·replace h:QfK=some r:=h
   unfold QfK at h
   rintro e σ ⟨rfl,rfl⟩
   refine Qa hC [.n 2] rfl tt_ ?_
   refine AK.closeMap (b:=200000) rfl ?_
   refine Qa hC [.keep [4] [200000,200001]] rfl tt_ ?_
   cases h
   exact AK.done (ex_ [_] (an_ (an_ rfl tt_) (gives ⟨rfl,rfl,tt_⟩)))
def QjB (a6:Unit):Option Bool:=
 some false
def QjC (a7:(List (Int×Int))):Option Bool:=
 some false
def QjD (a8:(List (Int×Int))):Option Bool:=
 some false
def Qhw (a9:((List (Int×Int))×(List (Int×Int)))):Option Bool:=
 (QbZ a9.1 a9.2).bind fun x10=>
 some x10
def QhR (a1:(List (Int×Int)))(b2:(List (Int×Int))):Option Bool:=
 (QgF a1 b2).bind (Sum.elim (fun q=>QjB q) (Sum.elim (fun q=>QjC q) (Sum.elim (fun q=>QjD q) (fun q=>Qhw q))))
theorem Qp9 (a1:(List (Int×Int)))(b2:(List (Int×Int))){r:Bool}(h:QhR a1 b2=some r):Qc Tryz.prog 191 [.sl 2 (a1.map Qs),.sl 2 (b2.map Qs)] [] (Gives (.b r) []):=by
 refine Qc.walk 21 Tryz.func191 rfl Tryz.ntmps191 rfl fun C hC=>?_
 unfold QhR at h
 obtain⟨x5,hx5,h⟩:=Qb h
 refine Qa hC [.n 9] rfl tt_ ?_
 rcases x5 with(a6 | (a7 | (a8 | a9)))
 ·replace h:QjB a6=some r:=h
  unfold QjB at h
  refine Qa hC [.cm (.fn) [] [] [] [.d,.d] [] (.tup [.lit (.map none),.lit (.map none),.b false]),.n 21,.keep [4] []] rfl ⟨tt_,(QaW _ _ hx5)⟩ ?_
  cases h
  exact AK.done (ex_ [_] (an_ (an_ rfl tt_) (gives tt_)))
 ·replace h:QjC a7=some r:=h
  unfold QjC at h
  refine Qa hC [.cm (.fn) [] [(11,30005)] [] [.d,.d] [(30005,.map (mapV (V.i .i64) (V.i .i64) a7))] (.tup [.lit (.map none),.map 30005,.b false]),.n 21,.keep [4] []] rfl ⟨tt_,(QaW _ _ hx5)⟩ ?_
  cases h
  exact AK.done (ex_ [_] (an_ (an_ rfl tt_) (gives tt_)))
 ·replace h:QjD a8=some r:=h
  unfold QjD at h
  refine Qa hC [.cm (.fn) [] [(11,30004)] [] [.d,.d] [(30004,.map (mapV (V.i .i64) (V.i .i64) a8))] (.tup [.map 30004,.lit (.map none),.b false]),.n 21,.keep [4] []] rfl ⟨tt_,(QaW _ _ hx5)⟩ ?_
  cases h
  exact AK.done (ex_ [_] (an_ (an_ rfl tt_) (gives tt_)))
 ·replace h:Qhw a9=some r:=h
  unfold Qhw at h
  obtain⟨x10,hx10,h⟩:=Qb h
  refine Qa hC [.cm (.fn) [] [(11,30004),(50000,30005)] [] [.d,.d] [(30004,.map (mapV (V.i .i64) (V.i .i64) a9.1)),(30005,.map (mapV (V.i .i64) (V.i .i64) a9.2))] (.tup [.map 30004,.map 30005,.b true]),.n 15,.cm (.fn) [(200000,11),(200001,50000)] [(11,200000),(50000,200001)] [] [.d,.d] [(200000,.map (mapV (V.i .i64) (V.i .i64) a9.1)),(200001,.map (mapV (V.i .i64) (V.i .i64) a9.2))] (.b x10),.n 5,.keep [4] []] rfl ⟨⟨tt_,(QaW _ _ hx5)⟩,(Qiz _ _ hx10)⟩ ?_
  cases h
  exact AK.done (ex_ [_] (an_ (an_ rfl tt_) (gives tt_)))
def Qu (s1:(List (List (Int×Int))))(s2:(List (List (Int×Int))))(x6:Int):Option (Int⊕(Unit⊕Unit)):=
 bif (decide (x6<(s1.length:Int)))then
 (idx s1 x6).bind fun e9=>
 (idx s2 x6).bind fun e10=>
 (QhR e9 e10).bind fun x11=>
 bif (!x11)then
 some (.inr (.inl ()))
 else
 some (.inl (w64 (x6+1)))
 else
 some (.inr (.inr ()))
def Q4 : Option Bool:=
 some false
def Q5 : Option Bool:=
 some true
def QI (s1:(List (List (Int×Int))))(s2:(List (List (Int×Int)))):Option Bool:=
 bif ((s1.length:Int) != (s2.length:Int))then
 some false
 else
 (QF (fun st=>Qu s1 s2 st) 0).bind (Sum.elim (fun q=>Q4) (fun q=>Q5))
theorem QcB (s1:(List (List (Int×Int))))(s2:(List (List (Int×Int)))){r:Bool}(h:QI s1 s2=some r):Qc Tryz.prog 49 [.sl 1 (s1.map Qf),.sl 1 (s2.map Qf),.clo (.func 191) [] []] [] (Gives (.b r) []):=by
 refine Qc.walk 32 Tryz.func49 rfl Tryz.ntmps49 rfl fun C hC=>?_
 unfold QI at h
 refine Qa hC [.n 9,.o (.ln s1.length),.n 1,.o (.ln s2.length),.n 3] rfl ⟨⟨tt_,Qg⟩,Qg⟩ ?_
 rcases bifE h with⟨hc5,h⟩|⟨hc5,h⟩
 ·refine Qa hC [.br true,.n 7,.keep [6] []] rfl ⟨tt_,hc5⟩ ?_
  cases h
  exact AK.done (ex_ [_] (an_ (an_ rfl tt_) (gives tt_)))
 ·refine Qa hC [.br false,.n 6,.o (.ln s1.length),.n 4,.keep [1,2,15,16,17] []] rfl ⟨⟨tt_,hc5⟩,Qg⟩ ?_
  obtain⟨o13,hl13,h⟩:=Qb h
  refine AK.loop (body:=(fun st=>Qu s1 s2 st)) (fun st σ=>σ=⟨[(1,.sl 1 (s2.map Qf)),(2,.clo (.func 191) [] []),(15,.sl 1 (s1.map Qf)),(16,.i .i64 (s1.length:Int)),(17,.i .i64 st)],[]⟩) (Sum.elim (fun q e σ=>e=.ret∧σ=⟨[(6,.b false)],[]⟩) (fun q e σ=>e=.exit 0∧σ=⟨[],[]⟩)) hl13 rfl ?_ ?_
  ·rintro x6 o σ rfl h
   replace h:Qu s1 s2 x6=some o:=h
   unfold Qu at h
   refine Qa hC [.n 6] rfl tt_ ?_
   rcases bifE h with⟨hc8,h⟩|⟨hc8,h⟩
   ·obtain⟨e9,he9,h⟩:=Qb h
    obtain⟨e10,he10,h⟩:=Qb h
    obtain⟨x11,hx11,h⟩:=Qb h
    refine Qa hC [.br true,.n 7,.o (.row (Qf e9)),.n 9,.o (.row (Qf e10)),.n 9,.o (.c false [.d,.d] (.b x11)),.n 3] rfl ⟨⟨⟨⟨tt_,hc8⟩,(idxM he9)⟩,(idxM he10)⟩,(Qp9 _ _ hx11)⟩ ?_
    rcases bifE h with⟨hc12,h⟩|⟨hc12,h⟩
    ·refine Qa hC [.br true,.n 8,.keep [6] []] rfl ⟨tt_,hc12⟩ ?_
     cases h
     exact rndR rfl (an_ rfl rfl)
    ·refine Qa hC [.br false,.n 7,.keep [1,2,15,16,17] []] rfl ⟨tt_,hc12⟩ ?_
     cases h
     exact rndN rfl rfl
   ·refine Qa hC [.br false,.n 2,.keep [] []] rfl ⟨tt_,hc8⟩ ?_
    cases h
    exact rndX rfl (an_ rfl rfl)
  ·rcases o13 with(_ | _)
   ·replace h:Q4=some r:=h
    unfold Q4 at h
    rintro e σ ⟨rfl,rfl⟩
    refine Qa hC [.n 2,.keep [6] []] rfl tt_ ?_
    cases h
    exact AK.done (ex_ [_] (an_ (an_ rfl tt_) (gives tt_)))
   ·replace h:Q5=some r:=h
    unfold Q5 at h
    rintro e σ ⟨rfl,rfl⟩
    refine Qa hC [.n 8,.keep [6] []] rfl tt_ ?_
    cases h
    exact AK.done (ex_ [_] (an_ (an_ rfl tt_) (gives tt_)))
def Qch (need1:(List (List (Int×Int))))(m2:(List (List (Int×Int)))):Option Bool:=
 (QI need1 m2).bind fun x4=>
 some x4
theorem Qls (need1:(List (List (Int×Int))))(m2:(List (List (Int×Int)))){r:Bool}(h:Qch need1 m2=some r):Qc Tryz.prog 140 [.sl 1 (need1.map Qf),.sl 1 (m2.map Qf)] [] (Gives (.b r) []):=by
 refine Qc.walk 8 Tryz.func140 rfl Tryz.ntmps140 rfl fun C hC=>?_
 unfold Qch at h
 obtain⟨x4,hx4,h⟩:=Qb h
 refine Qa hC [.n 9,.cm (.fn) [] [] [] [.d,.d,.d] [] (.b x4),.n 4,.keep [4] []] rfl ⟨tt_,(QcB _ _ hx4)⟩ ?_
 cases h
 exact AK.done (ex_ [_] (an_ (an_ rfl tt_) (gives tt_)))
def QaQ (s1:(List Int))(v2:Int)(x5:Int):Option (Int⊕(Int⊕Unit)):=
 bif (decide (x5<(s1.length:Int)))then
 (idx s1 x5).bind fun e9=>
 bif (v2==e9)then
 some (.inr (.inl x5))
 else
 some (.inl (w64 (x5+1)))
 else
 some (.inr (.inr ()))
def Qbu (x7:Int):Option Int:=
 some x7
def Qbv : Option Int:=
 some (-1)
def Qb6 (s1:(List Int))(v2:Int):Option Int:=
 (QF (fun st=>QaQ s1 v2 st) 0).bind (Sum.elim (fun q=>Qbu q) (fun q=>Qbv))
theorem Qk3 (s1:(List Int))(v2:Int){r:Int}(h:Qb6 s1 v2=some r):Qc Tryz.prog 192 [.sl 1 (s1.map Qe),.i .i64 v2] [] (Gives (.i .i64 r) []):=by
 refine Qc.walk 19 Tryz.func192 rfl Tryz.ntmps192 rfl fun C hC=>?_
 unfold Qb6 at h
 refine Qa hC [.n 9,.o (.ln s1.length),.n 4,.keep [0,1,7,8] []] rfl ⟨tt_,Qg⟩ ?_
 obtain⟨o11,hl11,h⟩:=Qb h
 refine AK.loop (body:=(fun st=>QaQ s1 v2 st)) (fun st σ=>σ=⟨[(0,.sl 1 (s1.map Qe)),(1,.i .i64 v2),(7,.i .i64 (s1.length:Int)),(8,.i .i64 st)],[]⟩) (Sum.elim (fun q e σ=>e=.ret∧σ=⟨[(4,.i .i64 q)],[]⟩) (fun q e σ=>e=.exit 0∧σ=⟨[],[]⟩)) hl11 rfl ?_ ?_
 ·rintro x5 o σ rfl h
  replace h:QaQ s1 v2 x5=some o:=h
  unfold QaQ at h
  refine Qa hC [.n 6] rfl tt_ ?_
  rcases bifE h with⟨hc8,h⟩|⟨hc8,h⟩
  ·obtain⟨e9,he9,h⟩:=Qb h
   refine Qa hC [.br true,.n 15,.o (.row (Qe e9)),.n 4] rfl ⟨⟨tt_,hc8⟩,(idxM he9)⟩ ?_
   rcases bifE h with⟨hc10,h⟩|⟨hc10,h⟩
   ·refine Qa hC [.br true,.n 9,.keep [4] []] rfl ⟨tt_,hc10⟩ ?_
    cases h
    exact rndR rfl (an_ rfl rfl)
   ·refine Qa hC [.br false,.n 7,.keep [0,1,7,8] []] rfl ⟨tt_,hc10⟩ ?_
    cases h
    exact rndN rfl rfl
  ·refine Qa hC [.br false,.n 2,.keep [] []] rfl ⟨tt_,hc8⟩ ?_
   cases h
   exact rndX rfl (an_ rfl rfl)
 ·rcases o11 with(x7 | _)
  ·replace h:Qbu x7=some r:=h
   unfold Qbu at h
   rintro e σ ⟨rfl,rfl⟩
   refine Qa hC [.n 2,.keep [4] []] rfl tt_ ?_
   cases h
   exact AK.done (ex_ [_] (an_ (an_ rfl tt_) (gives tt_)))
  ·replace h:Qbv=some r:=h
   unfold Qbv at h
   rintro e σ ⟨rfl,rfl⟩
   refine Qa hC [.n 8,.keep [4] []] rfl tt_ ?_
   cases h
   exact AK.done (ex_ [_] (an_ (an_ rfl tt_) (gives tt_)))
def Qaz (s1:(List Int))(v2:Int):Option Bool:=
 (Qb6 s1 v2).bind fun x4=>
 some (decide (0≤x4))
theorem Qgb (s1:(List Int))(v2:Int){r:Bool}(h:Qaz s1 v2=some r):Qc Tryz.prog 141 [.sl 1 (s1.map Qe),.i .i64 v2] [] (Gives (.b r) []):=by
 refine Qc.walk 9 Tryz.func141 rfl Tryz.ntmps141 rfl fun C hC=>?_
 unfold Qaz at h
 obtain⟨x4,hx4,h⟩:=Qb h
 refine Qa hC [.n 9,.o (.c false [.d,.d] (.i .i64 x4)),.n 5,.keep [4] []] rfl ⟨tt_,(Qk3 _ _ hx4)⟩ ?_
 cases h
 exact AK.done (ex_ [_] (an_ (an_ rfl tt_) (gives tt_)))
def Qaj (s1:(List Int)):Option (List Int):=
 (chk (decide (([]:List Int).length+s1.length≤4294967296))).bind fun _=>
 some (([]:List Int)++s1)
theorem Qbw (s1:(List Int)){r:(List Int)}(h:Qaj s1=some r):Qc Tryz.prog 142 [.sl 1 (s1.map Qe)] [] (Gives (.own 30000 r.length) [(30000,.arr 1 (r.map Qe))]):=by
 refine Qc.walk 8 Tryz.func142 rfl Tryz.ntmps142 rfl fun C hC=>?_
 unfold Qaj at h
 refine Qa hC [.n 9] rfl tt_ ?_
 refine AK.eqNil rfl rfl rfl (bleN hC.n rfl) rfl rfl Qvc ?_ ?_
 ·intro hz4
  replace h:some ([]:List Int)=some r:=by simpa [chk,List.map_eq_nil_iff.1 hz4] using h
  refine Qa hC [.n 10,.adopt 2 30000 1,.sayO 30000 (.arr 1 (([]:List Int).map Qe)),.say 2 (.own 30000 ([]:List Int).length),.keep [2] [30000]] rfl ⟨⟨tt_,rfl⟩,rfl⟩ ?_
  cases h
  exact AK.done (ex_ [_] (an_ (an_ rfl tt_) (gives ⟨rfl,tt_⟩)))
 ·obtain⟨_,hk5,h⟩:=Qb h
  replace hk5:=chkE hk5
  refine Qa hC [.n 8,.sayO 5 (.arr 1 (([]:List Int).map Qe)),.say 5 (.own 5 ([]:List Int).length),.n 1,.app ((([]:List Int)++s1).map Qe) (([]:List Int)++s1).length,.n 4,.keep [2] [5],.ren 5 30000,.keep [2] [30000]] rfl ⟨⟨⟨tt_,rfl⟩,rfl⟩,⟨Qg,Qdn hk5 Qg,Qco,Qfl Qg⟩⟩ ?_
  cases h
  exact AK.done (ex_ [_] (an_ (an_ rfl tt_) (gives ⟨rfl,tt_⟩)))
def Qb7 (x10:Int):Option (Int⊕(Unit⊕Unit)):=
 some (.inl (w64 (x10+1)))
def QfL (x19:((List (List (Int×Int)))×Int))(b1:QA):Option Bool:=
 bif (x19.2==0)then
 (Qch x19.1 b1.m).bind fun x23=>
 some x23
 else
 some false
def Qb8 (x10:Int)(x20:Bool):Option (Int⊕(Unit⊕Unit)):=
 bif x20 then
 some (.inr (.inl ()))
 else
 Qb7 x10
def Qbn (b1:QA)(ins2:(List Int))(x10:Int):Option (Int⊕(Unit⊕Unit)):=
 bif (decide (x10<(b1.task.Ins.length:Int)))then
 (Qaz ins2 x10).bind fun x13=>
 bif x13 then
 Qb7 x10
 else
 (Qaj ins2).bind fun x15=>
 (chk (decide (x15.length+([x10]:List Int).length≤4294967296))).bind fun _=>
 (Qa1 (x15++([x10]:List Int))).bind fun x17=>
 (chk (decide (x17.length=(x15++([x10]:List Int)).length))).bind fun _=>
 (Qcg b1.net b1.task.Ins x17 b1.env).bind fun x19=>
 (QfL x19 b1).bind (fun x20=>Qb8 x10 x20)
 else
 some (.inr (.inr ()))
def QfM : Option Int:=
 some 11
def QfN : Option Int:=
 some 0
def QaS (b1:QA)(ins2:(List Int)):Option Int:=
 (Qcg b1.net b1.task.Ins ins2 b1.env).bind fun x5=>
 bif (x5.2 != 0)then
 some x5.2
 else
 (Qch x5.1 b1.m).bind fun x7=>
 bif (!x7)then
 some 10
 else
 bif (b1.task.Join != 3)then
 some 0
 else
 (QF (fun st=>Qbn b1 ins2 st) 0).bind (Sum.elim (fun q=>QfM) (fun q=>QfN))
theorem QiA (b1:QA)(ins2:(List Int)){r:Int}(h:QaS b1 ins2=some r):Qc Tryz.prog 73 [.agg (Qo b1),.sl 1 (ins2.map Qe)] [] (Gives (.i .i64 r) []):=by
 refine Qc.walk 76 Tryz.func73 rfl Tryz.ntmps73 rfl fun C hC=>?_
 unfold QaS at h
 obtain⟨x5,hx5,h⟩:=Qb h
 refine Qa hC [.n 9,.v .no [] (.agg (Qd b1.net)),.n 6,.o (.c false [.d,.d,.d,.d] (.tup [.sl 1 (x5.1.map Qf),.i .i64 x5.2])),.n 16] rfl ⟨⟨tt_,rfl⟩,(QeD _ _ _ _ hx5)⟩ ?_
 rcases bifE h with⟨hc6,h⟩|⟨hc6,h⟩
 ·refine Qa hC [.br true,.n 9,.keep [4] []] rfl ⟨tt_,hc6⟩ ?_
  cases h
  exact AK.done (ex_ [_] (an_ (an_ rfl tt_) (gives tt_)))
 ·obtain⟨x7,hx7,h⟩:=Qb h
  refine Qa hC [.br false,.n 5,.o (.c false [.d,.d] (.b x7)),.n 4] rfl ⟨⟨tt_,hc6⟩,(Qls _ _ hx7)⟩ ?_
  rcases bifE h with⟨hc8,h⟩|⟨hc8,h⟩
  ·refine Qa hC [.br true,.n 8,.keep [4] []] rfl ⟨tt_,hc8⟩ ?_
   cases h
   exact AK.done (ex_ [_] (an_ (an_ rfl tt_) (gives tt_)))
  ·refine Qa hC [.br false,.n 9] rfl ⟨tt_,hc8⟩ ?_
   rcases bifE h with⟨hc9,h⟩|⟨hc9,h⟩
   ·refine Qa hC [.br true,.n 8,.keep [4] []] rfl ⟨tt_,hc9⟩ ?_
    cases h
    exact AK.done (ex_ [_] (an_ (an_ rfl tt_) (gives tt_)))
   ·refine Qa hC [.br false,.n 9,.o (.ln b1.task.Ins.length),.n 4,.keep [1,2,41,42] [2]] rfl ⟨⟨tt_,hc9⟩,Qg⟩ ?_
    obtain⟨o25,hl25,h⟩:=Qb h
    refine AK.loop (body:=(fun st=>Qbn b1 ins2 st)) (fun st σ=>σ=⟨[(1,.sl 1 (ins2.map Qe)),(2,.loc 2 0 0),(41,.i .i64 (b1.task.Ins.length:Int)),(42,.i .i64 st)],[(2,.var (Qo b1))]⟩) (Sum.elim (fun q e σ=>e=.ret∧σ=⟨[(4,.i .i64 11)],[]⟩) (fun q e σ=>e=.exit 1∧σ=⟨[],[]⟩)) hl25 rfl ?_ ?_
    ·rintro x10 o σ rfl h
     replace h:Qbn b1 ins2 x10=some o:=h
     unfold Qbn at h
     refine Qa hC [.n 6] rfl tt_ ?_
     rcases bifE h with⟨hc12,h⟩|⟨hc12,h⟩
     ·refine Qa hC [.br true,.n 2] rfl ⟨tt_,hc12⟩ ?_
      refine AK.meet (fun σ=>σ=⟨[(1,.sl 1 (ins2.map Qe)),(2,.loc 2 0 0),(41,.i .i64 (b1.task.Ins.length:Int)),(42,.i .i64 x10)],[(2,.var (Qo b1))]⟩∧Qb7 x10=some o) ?_ ?_
      ·obtain⟨x13,hx13,h⟩:=Qb h
       refine Qa hC [.n 12,.o (.c false [.d,.d] (.b x13)),.n 2] rfl ⟨tt_,(Qgb _ _ hx13)⟩ ?_
       rcases bifE h with⟨hc14,h⟩|⟨hc14,h⟩
       ·refine Qa hC [.br true,.n 3,.keep [1,2,41,42] [2]] rfl ⟨tt_,hc14⟩ ?_
        exact AK.met (an_ rfl h)
       ·obtain⟨x15,hx15,h⟩:=Qb h
        obtain⟨_,hk16,h⟩:=Qb h
        replace hk16:=chkE hk16
        obtain⟨x17,hx17,h⟩:=Qb h
        obtain⟨_,hk18,h⟩:=Qb h
        replace hk18:=chkE hk18
        obtain⟨x19,hx19,h⟩:=Qb h
        refine Qa hC [.br false,.n 5,.o (.co false [.d] 1 (x15.map Qe) x15.length),.n 1,.v (.bd []) [] (.sl 1 (([x10]:List Int).map Qe)),.app ((x15++([x10]:List Int)).map Qe) (x15++([x10]:List Int)).length,.n 6,.cm (.fn) [(200000,49)] [(49,200000)] [] [.d] [(200000,.arr 1 (x17.map Qe))] (.tup []),.say 8 (.own 49 x17.length),.say 52 (.own 49 x17.length),.say 53 (.own 49 x17.length),.n 5,.v .no [] (.agg (Qd b1.net)),.n 6,.frz 49 (x17.map Qe) [8,52,53,61] [],.o (.c false [.d,.d,.d,.d] (.tup [.sl 1 (x19.1.map Qf),.i .i64 x19.2])),.n 8] rfl ⟨⟨⟨⟨⟨⟨⟨⟨⟨⟨⟨tt_,hc14⟩,⟨(Qbw _ hx15),Qg,.inl rfl⟩⟩,rfl⟩,⟨Qg,Qdn hk16 Qg,Qco,Qfl Qg⟩⟩,(QhQ _ hx17)⟩,(by simp [of_decide_eq_true hk18])⟩,(by simp [of_decide_eq_true hk18])⟩,(by simp [of_decide_eq_true hk18])⟩,rfl⟩,⟨⟨⟨⟨tt_,(frzL Qg)⟩,(frzL Qg)⟩,(frzL Qg)⟩,(frzL Qg)⟩⟩,(QeD _ _ _ _ hx19)⟩ ?_
        obtain⟨x20,hv21,h⟩:=Qb h
        replace h:Qb8 x10 x20=some o:=h
        refine AK.meetX (fun σ=>σ=⟨[(1,.sl 1 (ins2.map Qe)),(2,.loc 2 0 0),(41,.i .i64 (b1.task.Ins.length:Int)),(42,.i .i64 x10),(74,.b x20)],[(2,.var (Qo b1))]⟩) ?_ ?_
        ·replace h:=hv21
         unfold QfL at h
         refine Qa hC [.n 4] rfl tt_ ?_
         rcases bifE h with⟨hc22,h⟩|⟨hc22,h⟩
         ·obtain⟨x23,hx23,h⟩:=Qb h
          refine Qa hC [.say 69 (.b true),.n 3,.o (.c false [.d,.d] (.b x23)),.n 2,.keep [1,2,41,42,74] [2]] rfl ⟨⟨tt_,(congrArg V.b hc22)⟩,(Qls _ _ hx23)⟩ ?_
          cases h
          exact AK.met rfl
         ·refine Qa hC [.say 69 (.b false),.n 6,.keep [1,2,41,42,74] [2]] rfl ⟨tt_,(congrArg V.b hc22)⟩ ?_
          cases h
          exact AK.met rfl
        ·rintro σ rfl
         replace h:Qb8 x10 x20=some o:=h
         unfold Qb8 at h
         refine Qa hC [.n 1] rfl tt_ ?_
         rcases bifE h with⟨hc24,h⟩|⟨hc24,h⟩
         ·refine Qa hC [.br true,.n 8,.keep [4] []] rfl ⟨tt_,hc24⟩ ?_
          cases h
          exact rndR rfl (an_ rfl rfl)
         ·refine Qa hC [.br false,.n 2,.keep [1,2,41,42] [2]] rfl ⟨tt_,hc24⟩ ?_
          exact AK.met (an_ rfl h)
      ·rintro σ ⟨rfl,h⟩
       unfold Qb7 at h
       refine Qa hC [.n 4,.keep [1,2,41,42] [2]] rfl tt_ ?_
       cases h
       exact rndN rfl rfl
     ·refine Qa hC [.br false,.n 2,.keep [] []] rfl ⟨tt_,hc12⟩ ?_
      cases h
      exact rndX rfl (an_ rfl rfl)
    ·rcases o25 with(_ | _)
     ·replace h:QfM=some r:=h
      unfold QfM at h
      rintro e σ ⟨rfl,rfl⟩
      refine Qa hC [.n 2,.keep [4] []] rfl tt_ ?_
      cases h
      exact AK.done (ex_ [_] (an_ (an_ rfl tt_) (gives tt_)))
     ·replace h:QfN=some r:=h
      unfold QfN at h
      rintro e σ ⟨rfl,rfl⟩
      refine Qa hC [.n 8,.keep [4] []] rfl tt_ ?_
      cases h
      exact AK.done (ex_ [_] (an_ (an_ rfl tt_) (gives tt_)))
def Qb0 (b1:QA)(outs2:(List Int)):Option Int:=
 (Qcg b1.net b1.task.Outs outs2 b1.env).bind fun x4=>
 some x4.2
theorem QiB (b1:QA)(outs2:(List Int)){r:Int}(h:Qb0 b1 outs2=some r):Qc Tryz.prog 74 [.agg (Qo b1),.sl 1 (outs2.map Qe)] [] (Gives (.i .i64 r) []):=by
 refine Qc.walk 20 Tryz.func74 rfl Tryz.ntmps74 rfl fun C hC=>?_
 unfold Qb0 at h
 obtain⟨x4,hx4,h⟩:=Qb h
 refine Qa hC [.n 9,.v .no [] (.agg (Qd b1.net)),.n 6,.o (.c false [.d,.d,.d,.d] (.tup [.sl 1 (x4.1.map Qf),.i .i64 x4.2])),.n 14,.keep [4] []] rfl ⟨⟨tt_,rfl⟩,(QeD _ _ _ _ hx4)⟩ ?_
 cases h
 exact AK.done (ex_ [_] (an_ (an_ rfl tt_) (gives tt_)))
def Qhx (x6:(Int×QA))(o3:Qk):Option Bool:=
 (Qfg x6.2.task.Join (x6.2.task.Ins.length:Int) o3.Ins).bind fun x11=>
 bif (!x11)then
 some true
 else
 (Qfg x6.2.task.Split (x6.2.task.Outs.length:Int) o3.Outs).bind fun x13=>
 some (!x13)
def QdD (x6:(Int×QA))(o3:Qk)(x9:Bool):Option Int:=
 bif x9 then
 some 11
 else
 (QaS x6.2 o3.Ins).bind fun x15=>
 bif (x15 != 0)then
 some x15
 else
 (Qb0 x6.2 o3.Outs).bind fun x17=>
 some x17
def QcH (x6:(Int×QA))(o3:Qk)(err7:Int):Option Int:=
 bif (err7 != 0)then
 some err7
 else
 (Qhx x6 o3).bind (fun x9=>QdD x6 o3 x9)
def Qb9 (n1:TNet)(m2:(List (List (Int×Int))))(o3:Qk):Option Int:=
 (QeA n1 m2 o3.Task o3.Vars).bind fun x6=>
 bif (x6.1==0)then
 (Qa0 x6.2).bind fun x19=>
 QcH x6 o3 x19
 else
 QcH x6 o3 x6.1
theorem Qqa (n1:TNet)(m2:(List (List (Int×Int))))(o3:Qk){r:Int}(h:Qb9 n1 m2 o3=some r):Qc Tryz.prog 34 [.agg (Qd n1),.sl 1 (m2.map Qf),.agg (Qj o3)] [] (Gives (.i .i64 r) []):=by
 refine Qc.walk 62 Tryz.func34 rfl Tryz.ntmps34 rfl fun C hC=>?_
 unfold Qb9 at h
 obtain⟨x6,hx6,h⟩:=Qb h
 refine Qa hC [.n 9,.v .no [] (.agg (Qd n1)),.n 5,.o (.c false [.d,.d,.d,.d] (.tup [.agg (Qo x6.2),.i .i64 x6.1])),.n 5,.sayO 7 (.var (Qo x6.2)),.n 3] rfl ⟨⟨⟨tt_,rfl⟩,(Ql2 _ _ _ _ hx6)⟩,rfl⟩ ?_
 refine AK.meet (fun σ=>∃err7:Int,σ=⟨[(5,.loc 5 0 0),(7,.loc 7 0 0),(8,.i .i64 err7)],[(5,.var (Qj o3)),(7,.var (Qo x6.2))]⟩∧QcH x6 o3 err7=some r) ?_ ?_
 ·refine Qa hC [.n 6] rfl tt_ ?_
  rcases bifE h with⟨hc18,h⟩|⟨hc18,h⟩
  ·obtain⟨x19,hx19,h⟩:=Qb h
   refine Qa hC [.br true,.n 1,.v .no [] (.agg (Qo x6.2)),.o (.c false [.d] (.i .i64 x19)),.n 2,.keep [5,7,8] [5,7]] rfl ⟨⟨⟨tt_,hc18⟩,rfl⟩,(QhO _ hx19)⟩ ?_
   exact AK.met (ex_ _ (an_ rfl h))
  ·refine Qa hC [.br false,.n 1,.keep [5,7,8] [5,7]] rfl ⟨tt_,hc18⟩ ?_
   exact AK.met (ex_ _ (an_ rfl h))
 ·rintro σ ⟨err7,rfl,h⟩
  unfold QcH at h
  refine Qa hC [.n 7] rfl tt_ ?_
  rcases bifE h with⟨hc8,h⟩|⟨hc8,h⟩
  ·refine Qa hC [.br true,.n 8,.keep [6] []] rfl ⟨tt_,hc8⟩ ?_
   cases h
   exact AK.done (ex_ [_] (an_ (an_ rfl tt_) (gives tt_)))
  ·refine Qa hC [.br false,.n 4] rfl ⟨tt_,hc8⟩ ?_
   obtain⟨x9,hv10,h⟩:=Qb h
   replace h:QdD x6 o3 x9=some r:=h
   refine AK.meetX (fun σ=>σ=⟨[(5,.loc 5 0 0),(7,.loc 7 0 0),(50,.b x9)],[(5,.var (Qj o3)),(7,.var (Qo x6.2))]⟩) ?_ ?_
   ·replace h:=hv10
    unfold Qhx at h
    obtain⟨x11,hx11,h⟩:=Qb h
    refine Qa hC [.n 7,.o (.ln x6.2.task.Ins.length),.n 2,.o (.c false [.d,.d,.d] (.b x11)),.n 2] rfl ⟨⟨tt_,Qg⟩,(Qlm _ _ _ hx11)⟩ ?_
    rcases bifE h with⟨hc12,h⟩|⟨hc12,h⟩
    ·refine Qa hC [.say 38 (.b true),.n 13,.keep [5,7,50] [5,7]] rfl ⟨tt_,(congrArg V.b hc12)⟩ ?_
     cases h
     exact AK.met rfl
    ·obtain⟨x13,hx13,h⟩:=Qb h
     refine Qa hC [.say 38 (.b false),.n 6,.o (.ln x6.2.task.Outs.length),.n 2,.o (.c false [.d,.d,.d] (.b x13)),.n 3,.keep [5,7,50] [5,7]] rfl ⟨⟨⟨tt_,(congrArg V.b hc12)⟩,Qg⟩,(Qlm _ _ _ hx13)⟩ ?_
     cases h
     exact AK.met rfl
   ·rintro σ rfl
    replace h:QdD x6 o3 x9=some r:=h
    unfold QdD at h
    refine Qa hC [.n 1] rfl tt_ ?_
    rcases bifE h with⟨hc14,h⟩|⟨hc14,h⟩
    ·refine Qa hC [.br true,.n 7,.keep [6] []] rfl ⟨tt_,hc14⟩ ?_
     cases h
     exact AK.done (ex_ [_] (an_ (an_ rfl tt_) (gives tt_)))
    ·obtain⟨x15,hx15,h⟩:=Qb h
     refine Qa hC [.br false,.n 5,.v .no [] (.agg (Qo x6.2)),.n 2,.o (.c false [.d,.d] (.i .i64 x15)),.n 9] rfl ⟨⟨⟨tt_,hc14⟩,rfl⟩,(QiA _ _ hx15)⟩ ?_
     rcases bifE h with⟨hc16,h⟩|⟨hc16,h⟩
     ·refine Qa hC [.br true,.n 8,.keep [6] []] rfl ⟨tt_,hc16⟩ ?_
      cases h
      exact AK.done (ex_ [_] (an_ (an_ rfl tt_) (gives tt_)))
     ·obtain⟨x17,hx17,h⟩:=Qb h
      refine Qa hC [.br false,.n 4,.v .no [] (.agg (Qo x6.2)),.n 2,.o (.c false [.d,.d] (.i .i64 x17)),.n 4,.keep [6] []] rfl ⟨⟨⟨tt_,hc16⟩,rfl⟩,(QiB _ _ hx17)⟩ ?_
      cases h
      exact AK.done (ex_ [_] (an_ (an_ rfl tt_) (gives tt_)))
def QbF (n1:TNet)(o2:Qk):Option ((List (List (Int×Int)))×Int):=
 (QgE n1 o2.Task o2.Vars).bind fun x7=>
 bif (x7.2 != 0)then
 some (([]:List (List (Int×Int))),x7.2)
 else
 (idx n1.Tasks o2.Task).bind fun e9=>
 (Qcg n1 e9.Ins o2.Ins x7.1).bind fun x10=>
 some (x10.1,x10.2)
theorem Ql3 (n1:TNet)(o2:Qk){r:((List (List (Int×Int)))×Int)}(h:QbF n1 o2=some r):Qc Tryz.prog 26 [.agg (Qd n1),.agg (Qj o2)] [] (Gives (.tup [.sl 1 (r.1.map Qf),.i .i64 r.2]) []):=by
 refine Qc.walk 34 Tryz.func26 rfl Tryz.ntmps26 rfl fun C hC=>?_
 unfold QbF at h
 obtain⟨x7,hx7,h⟩:=Qb h
 refine Qa hC [.n 10,.v .no [] (.agg (Qd n1)),.n 4,.o (.c false [.d,.d,.d] (.tup [.sl 1 (x7.1.map Qe),.i .i64 x7.2])),.n 14] rfl ⟨⟨tt_,rfl⟩,(QkE _ _ _ hx7)⟩ ?_
 rcases bifE h with⟨hc8,h⟩|⟨hc8,h⟩
 ·refine Qa hC [.br true,.n 9,.denil 4 [some 1],.keep [4,5] []] rfl ⟨tt_,hc8⟩ ?_
  cases h
  exact AK.done (ex_ [_,_] (an_ (an_ rfl (an_ rfl tt_)) (gives tt_)))
 ·obtain⟨e9,he9,h⟩:=Qb h
  obtain⟨x10,hx10,h⟩:=Qb h
  refine Qa hC [.br false,.n 3,.keep [2,3,4,5,6] [2,3]] rfl ⟨tt_,hc8⟩ ?_
  refine AK.draw2 Qp hC mixed [.a .no (some ([],.agg (Qd n1))) false,.a .no none false,.a .no none false,.a .no none false,.a .no none false,.a (.row (Qi e9)) none false,.a .no none false,.a .no none false,.a .no none false,.a .no none false,.a .no none false,.a (.c false [.d,.d,.d,.d] (.tup [.sl 1 (x10.1.map Qf),.i .i64 x10.2])) none false,.a .no none false,.a .no none false,.m .s,.m .s] [] [] [4,5] [] rfl rfl rfl ⟨⟨⟨tt_,rfl⟩,(idxM he9)⟩,(QeD _ _ _ _ hx10)⟩ rfl (by kernel_rfl) rfl rfl rfl ?_
  refine Qa hC [.n 2,.keep [4,5] []] rfl tt_ ?_
  cases h
  exact AK.done (ex_ [_,_] (an_ (an_ rfl (an_ rfl tt_)) (gives tt_)))
def QkJ (a8:Unit):Option ((List (Int×Int))×Int):=
 some (([]:List (Int×Int)),1)
def QkK (a9:(List (Int×Int))):Option ((List (Int×Int))×Int):=
 some (([]:List (Int×Int)),1)
def QkL (a10:(List (Int×Int))):Option ((List (Int×Int))×Int):=
 some (([]:List (Int×Int)),1)
def QdP (m16:(List (Int×Int)))(k18:Int)(v19:Int):Option ((List (Int×Int))⊕Empty):=
 some (.inl (mset ltI m16 k18 (w64 (((mget m16 k18).getD 0)-v19))))
def QiK (m16:(List (Int×Int))):Option ((List (Int×Int))×Int):=
 (Qck m16).bind fun x21=>
 some (x21,0)
def QiL (a11:((List (Int×Int))×(List (Int×Int)))):Option ((List (Int×Int))×Int):=
 (QbZ a11.2 a11.1).bind fun x12=>
 bif (!x12)then
 some (([]:List (Int×Int)),10)
 else
 (Qis (fun st p=>QdP st p.1 p.2) a11.1 a11.2).bind (Sum.elim (fun q=>QiK q) (fun q=>Empty.elim q))
def QaM (a1:(List (Int×Int)))(b2:(List (Int×Int))):Option ((List (Int×Int))×Int):=
 (QgF a1 b2).bind (Sum.elim (fun q=>QkJ q) (Sum.elim (fun q=>QkK q) (Sum.elim (fun q=>QkL q) (fun q=>QiL q))))
theorem Qrk (a1:(List (Int×Int)))(b2:(List (Int×Int))){r:((List (Int×Int))×Int)}(h:QaM a1 b2=some r):Qc Tryz.prog 36 [.sl 2 (a1.map Qs),.sl 2 (b2.map Qs)] [] (Gives (.tup [.sl 2 (r.1.map Qs),.i .i64 r.2]) []):=by
 refine Qc.walk 40 Tryz.func36 rfl Tryz.ntmps36 rfl fun C hC=>?_
 unfold QaM at h
 obtain⟨x7,hx7,h⟩:=Qb h
 refine Qa hC [.n 10] rfl tt_ ?_
 rcases x7 with(a8 | (a9 | (a10 | a11)))
 ·replace h:QkJ a8=some r:=h
  unfold QkJ at h
  refine Qa hC [.cm (.fn) [] [] [] [.d,.d] [] (.tup [.lit (.map none),.lit (.map none),.b false]),.n 28,.denil 4 [some 2],.keep [4,5] []] rfl ⟨tt_,(QaW _ _ hx7)⟩ ?_
  cases h
  exact AK.done (ex_ [_,_] (an_ (an_ rfl (an_ rfl tt_)) (gives tt_)))
 ·replace h:QkK a9=some r:=h
  unfold QkK at h
  refine Qa hC [.cm (.fn) [] [(14,30005)] [] [.d,.d] [(30005,.map (mapV (V.i .i64) (V.i .i64) a9))] (.tup [.lit (.map none),.map 30005,.b false]),.n 28,.denil 4 [some 2],.keep [4,5] []] rfl ⟨tt_,(QaW _ _ hx7)⟩ ?_
  cases h
  exact AK.done (ex_ [_,_] (an_ (an_ rfl (an_ rfl tt_)) (gives tt_)))
 ·replace h:QkL a10=some r:=h
  unfold QkL at h
  refine Qa hC [.cm (.fn) [] [(14,30004)] [] [.d,.d] [(30004,.map (mapV (V.i .i64) (V.i .i64) a10))] (.tup [.map 30004,.lit (.map none),.b false]),.n 28,.denil 4 [some 2],.keep [4,5] []] rfl ⟨tt_,(QaW _ _ hx7)⟩ ?_
  cases h
  exact AK.done (ex_ [_,_] (an_ (an_ rfl (an_ rfl tt_)) (gives tt_)))
 ·replace h:QiL a11=some r:=h
  unfold QiL at h
  obtain⟨x12,hx12,h⟩:=Qb h
  refine Qa hC [.cm (.fn) [] [(14,30004),(50000,30005)] [] [.d,.d] [(30004,.map (mapV (V.i .i64) (V.i .i64) a11.1)),(30005,.map (mapV (V.i .i64) (V.i .i64) a11.2))] (.tup [.map 30004,.map 30005,.b true]),.n 23,.cm (.fn) [(200000,50000),(200001,14)] [(50000,200000),(14,200001)] [] [.d,.d] [(200000,.map (mapV (V.i .i64) (V.i .i64) a11.2)),(200001,.map (mapV (V.i .i64) (V.i .i64) a11.1))] (.b x12),.n 4] rfl ⟨⟨tt_,(QaW _ _ hx7)⟩,(Qiz _ _ hx12)⟩ ?_
  rcases bifE h with⟨hc13,h⟩|⟨hc13,h⟩
  ·refine Qa hC [.br true,.n 9,.denil 4 [some 2],.keep [4,5] []] rfl ⟨tt_,hc13⟩ ?_
   cases h
   exact AK.done (ex_ [_,_] (an_ (an_ rfl (an_ rfl tt_)) (gives tt_)))
  ·refine Qa hC [.br false,.n 7] rfl ⟨tt_,hc13⟩ ?_
   refine AK.openMap (b:=50000) ky_3 rfl fun bm14 cl14 L14 hbn14 hpm14=>?_
   refine Qa hC [.x (fun σ=>(σ.set 27 (.itr bm14 cl14 #[] none)).put 27 (.loc 27 0 0)),.n 3,.keep [6,27] [14,27,50000]] rfl ⟨tt_,(Stp.range (b:=50000) rfl rfl (bleN hC.n rfl) rfl rfl QgD rfl)⟩ ?_
   obtain⟨o20,hl20,h⟩:=Qb h
   refine AK.range (body:=(fun st p=>QdP st p.1 p.2)) (fun st seen σ=>∃cur:Option MapEntry,σ=⟨[(6,.map 14),(27,.loc 27 0 0)],[(14,.map (mapV (V.i .i64) (V.i .i64) st)),(27,.itr bm14 cl14 seen cur),(50000,.mapX bm14 cl14 (typV (V.i .i64) (V.i .i64) L14) (mapV (V.i .i64) (V.i .i64) a11.2))]⟩) (fun (q:Empty) _ _=>False) (fun st e σ=>e=.exit 1∧σ=⟨[(6,.map 14)],[(14,.map (mapV (V.i .i64) (V.i .i64) st))]⟩) hbn14 hpm14 hl20 (ex_ _ rfl) ?_ ?_
   ·rintro m16 seen σ ⟨cur,rfl⟩ hex
    refine Qa hC [.n 2] rfl tt_ ?_
    refine AK.nextT (b:=27) (m:=50000) rfl rfl rfl (bleN hC.n rfl) rfl rfl rfl rfl ?_ ?_
    ·intro hleft
     refine Qa hC [.n 7,.keep [6] [14]] rfl tt_ ?_
     exact AK.done (Or.inl (an_ hleft (an_ (fun h=>(by cases h)) (an_ rfl rfl))))
    ·intro xk18 k18 v19 hq15
     obtain⟨o,h⟩:=hex _ hq15
     have ho:=h
     replace h:QdP m16 k18 v19=some o:=h
     unfold QdP at h
     refine Qa hC [.n 10,.x (fun σ=>σ.put 30 (.tup [.i .i64 k18,.i .i64 v19])),.n 9,.o (.any (.i .i64 ((mget m16 k18).getD 0)) none),.n 2,.x (fun σ=>σ.set 14 (.map (mapV (V.i .i64) (V.i .i64) (mset ltI m16 k18 (w64 (((mget m16 k18).getD 0)-v19)))))),.n 2,.keep [6,27] [14,27,50000]] rfl ⟨⟨⟨tt_,(Stp.entryT (b:=27) (m:=50000) rfl rfl (bleN hC.n rfl) rfl hq15 rfl rfl)⟩,(fun σ h1 h2 _=>Stp.lookup (e:=(V.i .i64)) (f:=(V.i .i64)) (l:=m16) (k:=k18) (z:=0) rfl rfl (bleN hC.n rfl) (h1 _ _ rfl) (h2 _ _ rfl) (h1 _ _ rfl) QgD ky_3 zi_3 rfl)⟩,(Stp.mapUpdate (e:=(V.i .i64)) (f:=(V.i .i64)) (l:=m16) (k:=k18) (v:=(w64 (((mget m16 k18).getD 0)-v19))) ltI rfl rfl rfl rfl rfl rfl QgD ky_3 rfl)⟩ ?_
     cases h
     exact AK.done (Or.inr (ex_ _ (an_ hq15 (Or.inl (ex_ _ (an_ ho (an_ rfl (ex_ _ rfl))))))))
   ·rcases o20 with(m16 | q)
    ·replace h:QiK m16=some r:=h
     unfold QiK at h
     rintro e σ ⟨rfl,rfl⟩
     obtain⟨x21,hx21,h⟩:=Qb h
     refine Qa hC [.n 5,.cm (.fn) [(200000,14)] [(39,30000),(14,200000)] [] [.d] [(30000,.arr 2 (x21.map Qs)),(200000,.map (mapV (V.i .i64) (V.i .i64) m16))] (.own 30000 x21.length),.n 5,.frz 39 (x21.map Qs) [4] [],.keep [4,5] []] rfl ⟨⟨tt_,(Qhf _ hx21)⟩,⟨tt_,(frzL Qg)⟩⟩ ?_
     cases h
     exact AK.done (ex_ [_,_] (an_ (an_ rfl (an_ rfl tt_)) (gives tt_)))
    ·exact q.elim
def QbG (a1:(List (List (Int×Int))))(b2:(List (List (Int×Int))))(x9:Int)(l10:(List (List (Int×Int)))):Option ((Int×(List (List (Int×Int))))⊕(Int⊕(List (List (Int×Int))))):=
 bif (decide (x9<((List.replicate (min2 (a1.length:Int) (b2.length:Int)).toNat (([]:(List (Int×Int))):(List (Int×Int)))).length:Int)))then
 (idx a1 x9).bind fun e16=>
 (idx b2 x9).bind fun e17=>
 (QaM e16 e17).bind fun x18=>
 (idx l10 x9).bind fun e19=>
 bif (x18.2 != 0)then
 some (.inr (.inl x18.2))
 else
 some (.inl ((w64 (x9+1)),(l10.set x9.toNat x18.1)))
 else
 some (.inr (.inr l10))
def Qi3 (x13:Int):Option ((List (List (Int×Int)))×Int):=
 some (([]:List (List (Int×Int))),x13)
def Qi4 (l14:(List (List (Int×Int)))):Option ((List (List (Int×Int)))×Int):=
 some (l14,0)
def Qci (a1:(List (List (Int×Int))))(b2:(List (List (Int×Int)))):Option ((List (List (Int×Int)))×Int):=
 (chk (decide (0≤(min2 (a1.length:Int) (b2.length:Int)))&&decide ((min2 (a1.length:Int) (b2.length:Int))≤(min2 (a1.length:Int) (b2.length:Int)))&&decide ((min2 (a1.length:Int) (b2.length:Int))≤4294967296))).bind fun _=>
 (QF (fun st=>QbG a1 b2 st.1 st.2) (0,(List.replicate (min2 (a1.length:Int) (b2.length:Int)).toNat (([]:(List (Int×Int))):(List (Int×Int)))))).bind (Sum.elim (fun q=>Qi3 q) (fun q=>Qi4 q))
theorem Qpp (a1:(List (List (Int×Int))))(b2:(List (List (Int×Int)))){r:((List (List (Int×Int)))×Int)}(h:Qci a1 b2=some r):Qc Tryz.prog 35 [.sl 1 (a1.map Qf),.sl 1 (b2.map Qf),.clo (.func 36) [] []] [] (Gives (.tup [.sl 1 (r.1.map Qf),.i .i64 r.2]) []):=by
 refine Qc.walk 43 Tryz.func35 rfl Tryz.ntmps35 rfl fun C hC=>?_
 unfold Qci at h
 obtain⟨_,hk7,h⟩:=Qb h
 replace hk7:=chkE hk7
 refine Qa hC [.n 9,.o (.ln a1.length),.n 1,.o (.ln b2.length),.n 1,.o (.rows (List.replicate (min2 (a1.length:Int) (b2.length:Int)).toNat [.lit (.slice none 0 0)]))] rfl ⟨⟨⟨tt_,Qg⟩,Qg⟩,⟨hk7,rfl⟩⟩ ?_
 refine AK.denilA (b:=16) [some 2] rfl (QrX (f:=Qf) (x:=([]:(List (Int×Int)))) rfl) ?_
 refine Qa hC [.say 16 (.own 16 (List.replicate (min2 (a1.length:Int) (b2.length:Int)).toNat (([]:(List (Int×Int))):(List (Int×Int)))).length),.n 12,.keep [0,1,2,8,18,19] [16]] rfl ⟨tt_,(by simp)⟩ ?_
 obtain⟨o21,hl21,h⟩:=Qb h
 refine AK.loop (body:=(fun st=>QbG a1 b2 st.1 st.2)) (fun st σ=>σ=⟨[(0,.sl 1 (a1.map Qf)),(1,.sl 1 (b2.map Qf)),(2,.clo (.func 36) [] []),(8,.own 16 st.2.length),(18,.i .i64 ((List.replicate (min2 (a1.length:Int) (b2.length:Int)).toNat (([]:(List (Int×Int))):(List (Int×Int)))).length:Int)),(19,.i .i64 st.1)],[(16,.arr 1 (st.2.map Qf))]⟩) (Sum.elim (fun q e σ=>e=.ret∧σ=⟨[(6,.lit (.slice none 0 0)),(7,.i .i64 q)],[]⟩) (fun q e σ=>e=.exit 0∧σ=⟨[(8,.own 16 q.length)],[(16,.arr 1 (q.map Qf))]⟩)) hl21 rfl ?_ ?_
 ·rintro ⟨x9,l10⟩ o σ rfl h
  replace h:QbG a1 b2 x9 l10=some o:=h
  unfold QbG at h
  refine Qa hC [.n 6] rfl tt_ ?_
  rcases bifE h with⟨hc15,h⟩|⟨hc15,h⟩
  ·obtain⟨e16,he16,h⟩:=Qb h
   obtain⟨e17,he17,h⟩:=Qb h
   obtain⟨x18,hx18,h⟩:=Qb h
   obtain⟨e19,he19,h⟩:=Qb h
   refine Qa hC [.br true,.n 16,.keep [0,1,2,8,9,10,18,19] [16]] rfl ⟨tt_,hc15⟩ ?_
   refine AK.draw2 Qp hC mixed [.a .no none false,.a .no none false,.a .no none false,.a .no none false,.a .no none false,.a (.row (Qf e16)) none false,.a .no none false,.a .no none false,.a .no none false,.a (.row (Qf e17)) none false,.a .no none false,.a (.c false [.d,.d] (.tup [.sl 2 (x18.1.map Qs),.i .i64 x18.2])) none false,.a .no none true true,.a .no none false,.a .no none true,.a .no none false,.m (.st (Qf e19) ((l10.set x9.toNat x18.1).map Qf)),.m .s] [0,1,2,8,9,10,18,19] [] [0,1,2,8,10,18,19] [16] rfl rfl rfl ⟨⟨⟨⟨⟨tt_,(idxM he16)⟩,(idxM he17)⟩,(Qrk _ _ hx18)⟩,(Qe0 he19 rfl)⟩,⟨(QcE (idxE he19).2),Qjk rfl⟩⟩ rfl (by kernel_rfl) rfl rfl rfl ?_
   refine Qa hC [.n 7] rfl tt_ ?_
   rcases bifE h with⟨hc20,h⟩|⟨hc20,h⟩
   ·refine Qa hC [.br true,.n 10,.keep [6,7] []] rfl ⟨tt_,hc20⟩ ?_
    cases h
    exact rndR rfl (an_ rfl rfl)
   ·refine Qa hC [.br false,.n 7,.say 8 (.own 16 (l10.set x9.toNat x18.1).length),.keep [0,1,2,8,18,19] [16]] rfl ⟨⟨tt_,hc20⟩,(congrArg (fun n=>V.own 16 n) (by simp))⟩ ?_
    cases h
    exact rndN rfl rfl
  ·refine Qa hC [.br false,.n 2,.keep [8] [16]] rfl ⟨tt_,hc15⟩ ?_
   cases h
   exact rndX rfl (an_ rfl rfl)
 ·rcases o21 with(x13 | l14)
  ·replace h:Qi3 x13=some r:=h
   unfold Qi3 at h
   rintro e σ ⟨rfl,rfl⟩
   refine Qa hC [.n 2,.denil 6 [some 1],.keep [6,7] []] rfl tt_ ?_
   cases h
   exact AK.done (ex_ [_,_] (an_ (an_ rfl (an_ rfl tt_)) (gives tt_)))
  ·replace h:Qi4 l14=some r:=h
   unfold Qi4 at h
   rintro e σ ⟨rfl,rfl⟩
   refine Qa hC [.n 10,.frz 16 (l14.map Qf) [6] [],.keep [6,7] []] rfl ⟨tt_,⟨tt_,(frzL Qg)⟩⟩ ?_
   cases h
   exact AK.done (ex_ [_,_] (an_ (an_ rfl (an_ rfl tt_)) (gives tt_)))
def QbL (n1:TNet)(m2:(List (List (Int×Int))))(o3:Qk):Option ((List (List (Int×Int)))×Int):=
 (Qb9 n1 m2 o3).bind fun x8=>
 bif (x8 != 0)then
 some (([]:List (List (Int×Int))),x8)
 else
 (QbF n1 o3).bind fun x10=>
 bif (x10.2 != 0)then
 some (([]:List (List (Int×Int))),x10.2)
 else
 (Qci m2 x10.1).bind fun x12=>
 some (x12.1,x12.2)
theorem Qmw (n1:TNet)(m2:(List (List (Int×Int))))(o3:Qk){r:((List (List (Int×Int)))×Int)}(h:QbL n1 m2 o3=some r):Qc Tryz.prog 10 [.agg (Qd n1),.sl 1 (m2.map Qf),.agg (Qj o3)] [] (Gives (.tup [.sl 1 (r.1.map Qf),.i .i64 r.2]) []):=by
 refine Qc.walk 32 Tryz.func10 rfl Tryz.ntmps10 rfl fun C hC=>?_
 unfold QbL at h
 obtain⟨x8,hx8,h⟩:=Qb h
 refine Qa hC [.n 11,.v .no [] (.agg (Qd n1)),.n 1,.v .no [] (.agg (Qj o3)),.o (.c false [.d,.d,.d] (.i .i64 x8)),.n 9] rfl ⟨⟨⟨tt_,rfl⟩,rfl⟩,(Qqa _ _ _ hx8)⟩ ?_
 rcases bifE h with⟨hc9,h⟩|⟨hc9,h⟩
 ·refine Qa hC [.br true,.n 9,.denil 6 [some 1],.keep [6,7] []] rfl ⟨tt_,hc9⟩ ?_
  cases h
  exact AK.done (ex_ [_,_] (an_ (an_ rfl (an_ rfl tt_)) (gives tt_)))
 ·obtain⟨x10,hx10,h⟩:=Qb h
  refine Qa hC [.br false,.n 4,.v .no [] (.agg (Qd n1)),.v .no [] (.agg (Qj o3)),.o (.c false [.d,.d] (.tup [.sl 1 (x10.1.map Qf),.i .i64 x10.2])),.n 14] rfl ⟨⟨⟨⟨tt_,hc9⟩,rfl⟩,rfl⟩,(Ql3 _ _ hx10)⟩ ?_
  rcases bifE h with⟨hc11,h⟩|⟨hc11,h⟩
  ·refine Qa hC [.br true,.n 9,.denil 6 [some 1],.keep [6,7] []] rfl ⟨tt_,hc11⟩ ?_
   cases h
   exact AK.done (ex_ [_,_] (an_ (an_ rfl (an_ rfl tt_)) (gives tt_)))
  ·obtain⟨x12,hx12,h⟩:=Qb h
   refine Qa hC [.br false,.n 6,.cm (.fn) [] [] [] [.d,.d,.d] [] (.tup [.sl 1 (x12.1.map Qf),.i .i64 x12.2]),.n 7,.keep [6,7] []] rfl ⟨⟨tt_,hc11⟩,(Qpp _ _ hx12)⟩ ?_
   cases h
   exact AK.done (ex_ [_,_] (an_ (an_ rfl (an_ rfl tt_)) (gives tt_)))
def QeE (n1:TNet)(o2:Qk):Option ((List (List (Int×Int)))×Int):=
 (QgE n1 o2.Task o2.Vars).bind fun x7=>
 bif (x7.2 != 0)then
 some (([]:List (List (Int×Int))),x7.2)
 else
 (idx n1.Tasks o2.Task).bind fun e9=>
 (Qcg n1 e9.Outs o2.Outs x7.1).bind fun x10=>
 some (x10.1,x10.2)
theorem Qqb (n1:TNet)(o2:Qk){r:((List (List (Int×Int)))×Int)}(h:QeE n1 o2=some r):Qc Tryz.prog 40 [.agg (Qd n1),.agg (Qj o2)] [] (Gives (.tup [.sl 1 (r.1.map Qf),.i .i64 r.2]) []):=by
 refine Qc.walk 34 Tryz.func40 rfl Tryz.ntmps40 rfl fun C hC=>?_
 unfold QeE at h
 obtain⟨x7,hx7,h⟩:=Qb h
 refine Qa hC [.n 10,.v .no [] (.agg (Qd n1)),.n 4,.o (.c false [.d,.d,.d] (.tup [.sl 1 (x7.1.map Qe),.i .i64 x7.2])),.n 14] rfl ⟨⟨tt_,rfl⟩,(QkE _ _ _ hx7)⟩ ?_
 rcases bifE h with⟨hc8,h⟩|⟨hc8,h⟩
 ·refine Qa hC [.br true,.n 9,.denil 4 [some 1],.keep [4,5] []] rfl ⟨tt_,hc8⟩ ?_
  cases h
  exact AK.done (ex_ [_,_] (an_ (an_ rfl (an_ rfl tt_)) (gives tt_)))
 ·obtain⟨e9,he9,h⟩:=Qb h
  obtain⟨x10,hx10,h⟩:=Qb h
  refine Qa hC [.br false,.n 3,.keep [2,3,4,5,6] [2,3]] rfl ⟨tt_,hc8⟩ ?_
  refine AK.draw2 Qp hC mixed [.a .no (some ([],.agg (Qd n1))) false,.a .no none false,.a .no none false,.a .no none false,.a .no none false,.a (.row (Qi e9)) none false,.a .no none false,.a .no none false,.a .no none false,.a .no none false,.a .no none false,.a (.c false [.d,.d,.d,.d] (.tup [.sl 1 (x10.1.map Qf),.i .i64 x10.2])) none false,.a .no none false,.a .no none false,.m .s,.m .s] [] [] [4,5] [] rfl rfl rfl ⟨⟨⟨tt_,rfl⟩,(idxM he9)⟩,(QeD _ _ _ _ hx10)⟩ rfl (by kernel_rfl) rfl rfl rfl ?_
  refine Qa hC [.n 2,.keep [4,5] []] rfl tt_ ?_
  cases h
  exact AK.done (ex_ [_,_] (an_ (an_ rfl (an_ rfl tt_)) (gives tt_)))
def QaV (s1:(List (List (Int×Int)))):Option (List (List (Int×Int))):=
 (chk (decide (([]:List (List (Int×Int))).length+s1.length≤4294967296))).bind fun _=>
 some (([]:List (List (Int×Int)))++s1)
theorem QhB (s1:(List (List (Int×Int)))){r:(List (List (Int×Int)))}(h:QaV s1=some r):Qc Tryz.prog 85 [.sl 1 (s1.map Qf)] [] (Gives (.own 30000 r.length) [(30000,.arr 1 (r.map Qf))]):=by
 refine Qc.walk 8 Tryz.func85 rfl Tryz.ntmps85 rfl fun C hC=>?_
 unfold QaV at h
 refine Qa hC [.n 9] rfl tt_ ?_
 refine AK.eqNil rfl rfl rfl (bleN hC.n rfl) rfl rfl Qvb ?_ ?_
 ·intro hz4
  replace h:some ([]:List (List (Int×Int)))=some r:=by simpa [chk,List.map_eq_nil_iff.1 hz4] using h
  refine Qa hC [.n 10,.adopt 2 30000 1,.sayO 30000 (.arr 1 (([]:List (List (Int×Int))).map Qf)),.say 2 (.own 30000 ([]:List (List (Int×Int))).length),.keep [2] [30000]] rfl ⟨⟨tt_,rfl⟩,rfl⟩ ?_
  cases h
  exact AK.done (ex_ [_] (an_ (an_ rfl tt_) (gives ⟨rfl,tt_⟩)))
 ·obtain⟨_,hk5,h⟩:=Qb h
  replace hk5:=chkE hk5
  refine Qa hC [.n 8,.sayO 5 (.arr 1 (([]:List (List (Int×Int))).map Qf)),.say 5 (.own 5 ([]:List (List (Int×Int))).length),.n 1,.app ((([]:List (List (Int×Int)))++s1).map Qf) (([]:List (List (Int×Int)))++s1).length,.n 4,.keep [2] [5],.ren 5 30000,.keep [2] [30000]] rfl ⟨⟨⟨tt_,rfl⟩,rfl⟩,⟨Qg,Qdn hk5 Qg,Qco,Qfl Qg⟩⟩ ?_
  cases h
  exact AK.done (ex_ [_] (an_ (an_ rfl tt_) (gives ⟨rfl,tt_⟩)))
def QbO (s1:(List (Int×Int))):Option (List (Int×Int)):=
 (chk (decide (([]:List (Int×Int)).length+s1.length≤4294967296))).bind fun _=>
 some (([]:List (Int×Int))++s1)
theorem Qjg (s1:(List (Int×Int))){r:(List (Int×Int))}(h:QbO s1=some r):Qc Tryz.prog 86 [.sl 2 (s1.map Qs)] [] (Gives (.own 30000 r.length) [(30000,.arr 2 (r.map Qs))]):=by
 refine Qc.walk 8 Tryz.func86 rfl Tryz.ntmps86 rfl fun C hC=>?_
 unfold QbO at h
 refine Qa hC [.n 9] rfl tt_ ?_
 refine AK.eqNil rfl rfl rfl (bleN hC.n rfl) rfl rfl Qvd ?_ ?_
 ·intro hz4
  replace h:some ([]:List (Int×Int))=some r:=by simpa [chk,List.map_eq_nil_iff.1 hz4] using h
  refine Qa hC [.n 10,.adopt 2 30000 2,.sayO 30000 (.arr 2 (([]:List (Int×Int)).map Qs)),.say 2 (.own 30000 ([]:List (Int×Int)).length),.keep [2] [30000]] rfl ⟨⟨tt_,rfl⟩,rfl⟩ ?_
  cases h
  exact AK.done (ex_ [_] (an_ (an_ rfl tt_) (gives ⟨rfl,tt_⟩)))
 ·obtain⟨_,hk5,h⟩:=Qb h
  replace hk5:=chkE hk5
  refine Qa hC [.n 8,.sayO 5 (.arr 2 (([]:List (Int×Int)).map Qs)),.say 5 (.own 5 ([]:List (Int×Int)).length),.n 1,.app ((([]:List (Int×Int))++s1).map Qs) (([]:List (Int×Int))++s1).length,.n 4,.keep [2] [5],.ren 5 30000,.keep [2] [30000]] rfl ⟨⟨⟨tt_,rfl⟩,rfl⟩,⟨Qg,Qdn hk5 Qg,Qco,Qfl Qg⟩⟩ ?_
  cases h
  exact AK.done (ex_ [_] (an_ (an_ rfl tt_) (gives ⟨rfl,tt_⟩)))
def Qdc (x3:(List (List (Int×Int))))(x5:Int)(l6:(List (List (Int×Int)))):Option ((Int×(List (List (Int×Int))))⊕(List (List (Int×Int)))):=
 bif (decide (x5<(x3.length:Int)))then
 (idx l6 x5).bind fun e11=>
 (QbO e11).bind fun x12=>
 (idx l6 x5).bind fun e13=>
 some (.inl ((w64 (x5+1)),(l6.set x5.toNat x12)))
 else
 some (.inr l6)
def Qj8 (l9:(List (List (Int×Int)))):Option (List (List (Int×Int))):=
 some l9
def Qg9 (m1:(List (List (Int×Int)))):Option (List (List (Int×Int))):=
 (QaV m1).bind fun x3=>
 (QF (fun st=>Qdc x3 st.1 st.2) (0,x3)).bind (fun q=>Qj8 q)
theorem Qmx (m1:(List (List (Int×Int)))){r:(List (List (Int×Int)))}(h:Qg9 m1=some r):Qc Tryz.prog 41 [.sl 1 (m1.map Qf)] [] (Gives (.own 30000 r.length) [(30000,.arr 1 (r.map Qf))]):=by
 refine Qc.walk 22 Tryz.func41 rfl Tryz.ntmps41 rfl fun C hC=>?_
 unfold Qg9 at h
 obtain⟨x3,hx3,h⟩:=Qb h
 refine Qa hC [.n 8,.o (.co false [.d] 1 (x3.map Qf) x3.length),.n 12,.keep [3,8,9,10] [7]] rfl ⟨tt_,⟨(QhB _ hx3),Qg,.inl rfl⟩⟩ ?_
 obtain⟨l9,hl14,h⟩:=Qb h
 refine AK.loop (body:=(fun st=>Qdc x3 st.1 st.2)) (fun st σ=>σ=⟨[(3,.own 7 st.2.length),(8,.own 7 st.2.length),(9,.i .i64 (x3.length:Int)),(10,.i .i64 st.1)],[(7,.arr 1 (st.2.map Qf))]⟩) (fun q e σ=>e=.exit 0∧σ=⟨[(3,.own 7 q.length)],[(7,.arr 1 (q.map Qf))]⟩) hl14 rfl ?_ ?_
 ·rintro ⟨x5,l6⟩ o σ rfl h
  replace h:Qdc x3 x5 l6=some o:=h
  unfold Qdc at h
  refine Qa hC [.n 6] rfl tt_ ?_
  rcases bifE h with⟨hc10,h⟩|⟨hc10,h⟩
  ·obtain⟨e11,he11,h⟩:=Qb h
   obtain⟨x12,hx12,h⟩:=Qb h
   obtain⟨e13,he13,h⟩:=Qb h
   refine Qa hC [.br true,.n 8,.o (.row (Qf e11)),.n 8,.o (.co false [.d] 2 (x12.map Qs) x12.length),.n 1,.frz 18 (x12.map Qs) [18] [],.st (Qf e13) ((l6.set x5.toNat x12).map Qf),.n 7,.say 3 (.own 7 (l6.set x5.toNat x12).length),.say 8 (.own 7 (l6.set x5.toNat x12).length),.keep [3,8,9,10] [7]] rfl ⟨⟨⟨⟨⟨⟨⟨⟨⟨tt_,hc10⟩,(Qe0 he11 rfl)⟩,(QcE (idxE he11).2)⟩,⟨(Qjg _ hx12),Qg,.inl rfl⟩⟩,(Qe0 he13 rfl)⟩,⟨tt_,(frzL Qg)⟩⟩,⟨(QcE (idxE he13).2),Qjk rfl⟩⟩,(congrArg (fun n=>V.own 7 n) (by simp))⟩,(congrArg (fun n=>V.own 7 n) (by simp))⟩ ?_
   cases h
   exact rndN rfl rfl
  ·refine Qa hC [.br false,.n 2,.keep [3] [7]] rfl ⟨tt_,hc10⟩ ?_
   cases h
   exact rndX rfl (an_ rfl rfl)
 ·replace h:Qj8 l9=some r:=h
  unfold Qj8 at h
  rintro e σ ⟨rfl,rfl⟩
  refine Qa hC [.n 9,.keep [2] [7],.ren 7 30000,.keep [2] [30000]] rfl tt_ ?_
  cases h
  exact AK.done (ex_ [_] (an_ (an_ rfl tt_) (gives ⟨rfl,tt_⟩)))
def QaT (a1:(List (List (Int×Int))))(b2:(List (List (Int×Int))))(x9:Int)(l10:(List (List (Int×Int)))):Option ((Int×(List (List (Int×Int))))⊕(Int⊕(List (List (Int×Int))))):=
 bif (decide (x9<((List.replicate (min2 (a1.length:Int) (b2.length:Int)).toNat (([]:(List (Int×Int))):(List (Int×Int)))).length:Int)))then
 (idx a1 x9).bind fun e16=>
 (idx b2 x9).bind fun e17=>
 (QM e16 e17).bind fun x18=>
 (idx l10 x9).bind fun e19=>
 bif (x18.2 != 0)then
 some (.inr (.inl x18.2))
 else
 some (.inl ((w64 (x9+1)),(l10.set x9.toNat x18.1)))
 else
 some (.inr (.inr l10))
def Qhg (x13:Int):Option ((List (List (Int×Int)))×Int):=
 some (([]:List (List (Int×Int))),x13)
def Qhh (l14:(List (List (Int×Int)))):Option ((List (List (Int×Int)))×Int):=
 some (l14,0)
def QaN (a1:(List (List (Int×Int))))(b2:(List (List (Int×Int)))):Option ((List (List (Int×Int)))×Int):=
 (chk (decide (0≤(min2 (a1.length:Int) (b2.length:Int)))&&decide ((min2 (a1.length:Int) (b2.length:Int))≤(min2 (a1.length:Int) (b2.length:Int)))&&decide ((min2 (a1.length:Int) (b2.length:Int))≤4294967296))).bind fun _=>
 (QF (fun st=>QaT a1 b2 st.1 st.2) (0,(List.replicate (min2 (a1.length:Int) (b2.length:Int)).toNat (([]:(List (Int×Int))):(List (Int×Int)))))).bind (Sum.elim (fun q=>Qhg q) (fun q=>Qhh q))
theorem Qj5 (a1:(List (List (Int×Int))))(b2:(List (List (Int×Int)))){r:((List (List (Int×Int)))×Int)}(h:QaN a1 b2=some r):Qc Tryz.prog 35 [.sl 1 (a1.map Qf),.sl 1 (b2.map Qf),.clo (.func 24) [] []] [] (Gives (.tup [.sl 1 (r.1.map Qf),.i .i64 r.2]) []):=by
 refine Qc.walk 43 Tryz.func35 rfl Tryz.ntmps35 rfl fun C hC=>?_
 unfold QaN at h
 obtain⟨_,hk7,h⟩:=Qb h
 replace hk7:=chkE hk7
 refine Qa hC [.n 9,.o (.ln a1.length),.n 1,.o (.ln b2.length),.n 1,.o (.rows (List.replicate (min2 (a1.length:Int) (b2.length:Int)).toNat [.lit (.slice none 0 0)]))] rfl ⟨⟨⟨tt_,Qg⟩,Qg⟩,⟨hk7,rfl⟩⟩ ?_
 refine AK.denilA (b:=16) [some 2] rfl (QrX (f:=Qf) (x:=([]:(List (Int×Int)))) rfl) ?_
 refine Qa hC [.say 16 (.own 16 (List.replicate (min2 (a1.length:Int) (b2.length:Int)).toNat (([]:(List (Int×Int))):(List (Int×Int)))).length),.n 12,.keep [0,1,2,8,18,19] [16]] rfl ⟨tt_,(by simp)⟩ ?_
 obtain⟨o21,hl21,h⟩:=Qb h
 refine AK.loop (body:=(fun st=>QaT a1 b2 st.1 st.2)) (fun st σ=>σ=⟨[(0,.sl 1 (a1.map Qf)),(1,.sl 1 (b2.map Qf)),(2,.clo (.func 24) [] []),(8,.own 16 st.2.length),(18,.i .i64 ((List.replicate (min2 (a1.length:Int) (b2.length:Int)).toNat (([]:(List (Int×Int))):(List (Int×Int)))).length:Int)),(19,.i .i64 st.1)],[(16,.arr 1 (st.2.map Qf))]⟩) (Sum.elim (fun q e σ=>e=.ret∧σ=⟨[(6,.lit (.slice none 0 0)),(7,.i .i64 q)],[]⟩) (fun q e σ=>e=.exit 0∧σ=⟨[(8,.own 16 q.length)],[(16,.arr 1 (q.map Qf))]⟩)) hl21 rfl ?_ ?_
 ·rintro ⟨x9,l10⟩ o σ rfl h
  replace h:QaT a1 b2 x9 l10=some o:=h
  unfold QaT at h
  refine Qa hC [.n 6] rfl tt_ ?_
  rcases bifE h with⟨hc15,h⟩|⟨hc15,h⟩
  ·obtain⟨e16,he16,h⟩:=Qb h
   obtain⟨e17,he17,h⟩:=Qb h
   obtain⟨x18,hx18,h⟩:=Qb h
   obtain⟨e19,he19,h⟩:=Qb h
   refine Qa hC [.br true,.n 16,.keep [0,1,2,8,9,10,18,19] [16]] rfl ⟨tt_,hc15⟩ ?_
   refine AK.draw2 Qp hC mixed [.a .no none false,.a .no none false,.a .no none false,.a .no none false,.a .no none false,.a (.row (Qf e16)) none false,.a .no none false,.a .no none false,.a .no none false,.a (.row (Qf e17)) none false,.a .no none false,.a (.c false [.d,.d] (.tup [.sl 2 (x18.1.map Qs),.i .i64 x18.2])) none false,.a .no none true true,.a .no none false,.a .no none true,.a .no none false,.m (.st (Qf e19) ((l10.set x9.toNat x18.1).map Qf)),.m .s] [0,1,2,8,9,10,18,19] [] [0,1,2,8,10,18,19] [16] rfl rfl rfl ⟨⟨⟨⟨⟨tt_,(idxM he16)⟩,(idxM he17)⟩,(QjA _ _ hx18)⟩,(Qe0 he19 rfl)⟩,⟨(QcE (idxE he19).2),Qjk rfl⟩⟩ rfl (by kernel_rfl) rfl rfl rfl ?_
   refine Qa hC [.n 7] rfl tt_ ?_
   rcases bifE h with⟨hc20,h⟩|⟨hc20,h⟩
   ·refine Qa hC [.br true,.n 10,.keep [6,7] []] rfl ⟨tt_,hc20⟩ ?_
    cases h
    exact rndR rfl (an_ rfl rfl)
   ·refine Qa hC [.br false,.n 7,.say 8 (.own 16 (l10.set x9.toNat x18.1).length),.keep [0,1,2,8,18,19] [16]] rfl ⟨⟨tt_,hc20⟩,(congrArg (fun n=>V.own 16 n) (by simp))⟩ ?_
    cases h
    exact rndN rfl rfl
  ·refine Qa hC [.br false,.n 2,.keep [8] [16]] rfl ⟨tt_,hc15⟩ ?_
   cases h
   exact rndX rfl (an_ rfl rfl)
 ·rcases o21 with(x13 | l14)
  ·replace h:Qhg x13=some r:=h
   unfold Qhg at h
   rintro e σ ⟨rfl,rfl⟩
   refine Qa hC [.n 2,.denil 6 [some 1],.keep [6,7] []] rfl tt_ ?_
   cases h
   exact AK.done (ex_ [_,_] (an_ (an_ rfl (an_ rfl tt_)) (gives tt_)))
  ·replace h:Qhh l14=some r:=h
   unfold Qhh at h
   rintro e σ ⟨rfl,rfl⟩
   refine Qa hC [.n 10,.frz 16 (l14.map Qf) [6] [],.keep [6,7] []] rfl ⟨tt_,⟨tt_,(frzL Qg)⟩⟩ ?_
   cases h
   exact AK.done (ex_ [_,_] (an_ (an_ rfl (an_ rfl tt_)) (gives tt_)))

end Go.Proofs
