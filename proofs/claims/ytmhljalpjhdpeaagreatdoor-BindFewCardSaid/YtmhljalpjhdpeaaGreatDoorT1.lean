/- What functions of the program do, as functions over plain data, and the walks that show it: printed by a program. -/
import Derived.Test.YtmhljalpjhdpeaaGreatDoorXVm5
import Derived.Test.YtmhljalpjhdpeaaGreatDoorProg
set_option linter.unusedVariables false
set_option linter.unusedSimpArgs false
set_option linter.unusedSectionVars false
set_option linter.deprecated false
set_option maxRecDepth 100000
set_option maxHeartbeats 4000000
noncomputable section
namespace Go.Proofs
open Go Go.RowKit Go.Vm
structure Qw where
 Name:ByteArray
 Kind:Int
 Lo:Int
 Hi:Int
 Names:(List ByteArray)
 First:Int
 Then:Int
structure QB where
 Name:ByteArray
 Colour:Int
 First:(List (Int×Int))
structure TVar where
 Name:ByteArray
 Colour:Int
structure Qf where
 Kind:Int
 Num:Int
 Kids:(List Qf)
structure TArc where
 Place:Int
 Expr:Qf
structure Qr where
 Name:ByteArray
 Vars:(List TVar)
 Guard:Qf
 Join:Int
 Split:Int
 Ins:(List TArc)
 Outs:(List TArc)
 Cancel:(List Int)
 After:Int
 Many:(Int×Int×Int)
structure TNet where
 Colours:(List Qw)
 Places:(List QB)
 Tasks:(List Qr)
 From:Int
 To:Int
structure Ql where
 Task:Int
 Vars:(List Int)
 Ins:(List Int)
 Outs:(List Int)
structure Qx where
 net:TNet
 m:(List (List (Int×Int)))
 task:Qr
 env:(List Int)
structure Q8 where
 all:(List Qw)
 sizes:(List Int)
 k:Int
structure Qdn where
 Kind:Int
 At:Int
def Qc1 (x:ByteArray):List V:=[.s x]
def Qe (x:Int):List V:=[.i .i64 x]
theorem QsB (l:List Int):∀r∈l.map Qe,∀v∈r,v.sca=true:=QtE (fun _=>rfl) l
def Qt5 (x:(List ByteArray)):List V:=[.sl 1 (x.map Qc1)]
def Qt (x:Qw):List V:=[.s x.Name,.i .i64 x.Kind,.i .i64 x.Lo,.i .i64 x.Hi,.sl 1 (x.Names.map Qc1),.i .i64 x.First,.i .i64 x.Then]
def Qq2 (x:(List Qw)):List V:=[.sl 7 (x.map Qt)]
def QC (x:(Int×Int)):List V:=[.i .i64 x.1,.i .i64 x.2]
def Qv (x:(List (Int×Int))):List V:=[.sl 2 (x.map QC)]
def Qs (x:QB):List V:=[.s x.Name,.i .i64 x.Colour,.sl 2 (x.First.map QC)]
def Qrp (x:(List QB)):List V:=[.sl 3 (x.map Qs)]
def Qy (x:TVar):List V:=[.s x.Name,.i .i64 x.Colour]
def Qbo (x:(List TVar)):List V:=[.sl 2 (x.map Qy)]
mutual
def Qmh : Qf→List V
 | ⟨x0,x1,x2⟩=>[.i .i64 x0,.i .i64 x1,.sl 3 (QaD x2)]
def QaD : List Qf→List (List V)
 | []=>[]
 | e::es=>Qmh e::QaD es
end
def Qk (x:Qf):List V:=[.i .i64 x.Kind,.i .i64 x.Num,.sl 3 (QaD x.Kids)]
theorem Qqp : ∀x:Qf,Qmh x=Qk x
 | ⟨x0,x1,x2⟩=>by rw [Qmh];rfl
theorem QhD : ∀l:List Qf,QaD l=l.map Qk
 | []=>by rw [QaD];rfl
 | e::es=>by rw [QaD,QhD es,Qqp];rfl
theorem QhE (l:List Qf):(QaD l).length=l.length:=by rw [QhD,List.length_map]
theorem Qc2 {l:List Qf}{j:Int}{x:Qf}(h:idx l j=some x):0≤j∧(QaD l)[j.toNat]? = some (Qk x):=by rw [QhD];exact idxM h
def QM (x:TArc):List V:=[.i .i64 x.Place,.i .i64 x.Expr.Kind,.i .i64 x.Expr.Num,.sl 3 (QaD x.Expr.Kids)]
def QsC (x:(List TArc)):List V:=[.sl 4 (x.map QM)]
def Qu (x:(List Int)):List V:=[.sl 1 (x.map Qe)]
def QpU (x:(Int×Int×Int)):List V:=[.i .i64 x.1,.i .i64 x.2.1,.i .i64 x.2.2]
def Qg (x:Qr):List V:=[.s x.Name,.sl 2 (x.Vars.map Qy),.i .i64 x.Guard.Kind,.i .i64 x.Guard.Num,.sl 3 (QaD x.Guard.Kids),.i .i64 x.Join,.i .i64 x.Split,.sl 4 (x.Ins.map QM),.sl 4 (x.Outs.map QM),.sl 1 (x.Cancel.map Qe),.i .i64 x.After,.i .i64 x.Many.1,.i .i64 x.Many.2.1,.i .i64 x.Many.2.2]
def Qr4 (x:(List Qr)):List V:=[.sl 14 (x.map Qg)]
def Qd (x:TNet):List V:=[.sl 7 (x.Colours.map Qt),.sl 3 (x.Places.map Qs),.sl 14 (x.Tasks.map Qg),.i .i64 x.From,.i .i64 x.To]
def Qi (x:Ql):List V:=[.i .i64 x.Task,.sl 1 (x.Vars.map Qe),.sl 1 (x.Ins.map Qe),.sl 1 (x.Outs.map Qe)]
def QR (x:(List (List (Int×Int)))):List V:=[.sl 1 (x.map Qv)]
def QE (x:(List (List Int))):List V:=[.sl 1 (x.map Qu)]
def Qn (x:Qx):List V:=[.sl 7 (x.net.Colours.map Qt),.sl 3 (x.net.Places.map Qs),.sl 14 (x.net.Tasks.map Qg),.i .i64 x.net.From,.i .i64 x.net.To,.sl 1 (x.m.map Qv),.s x.task.Name,.sl 2 (x.task.Vars.map Qy),.i .i64 x.task.Guard.Kind,.i .i64 x.task.Guard.Num,.sl 3 (QaD x.task.Guard.Kids),.i .i64 x.task.Join,.i .i64 x.task.Split,.sl 4 (x.task.Ins.map QM),.sl 4 (x.task.Outs.map QM),.sl 1 (x.task.Cancel.map Qe),.i .i64 x.task.After,.i .i64 x.task.Many.1,.i .i64 x.task.Many.2.1,.i .i64 x.task.Many.2.2,.sl 1 (x.env.map Qe)]
def QJ (x:Q8):List V:=[.sl 7 (x.all.map Qt),.sl 1 (x.sizes.map Qe),.i .i64 x.k]
def Qr5 (x:(List Ql)):List V:=[.sl 4 (x.map Qi)]
def Qca (x:Qdn):List V:=[.i .i64 x.Kind,.i .i64 x.At]
def Qef (fn:Nat):QfC:=rfOf Tryz.f192 0 fn
def QaN (fn:Nat):QfC:=rfOf Tryz.f9 0 fn
theorem Qui (a0 a1 a2 b0 b1 b2:Int):EqT Tryz.prog 50 [.int .i64 a0,.int .i64 a1,.int .i64 a2] [.int .i64 b0,.int .i64 b1,.int .i64 b2] ((a0==b0)&&((a1==b1)&&(a2==b2))):=by
 refine⟨by kernel_rfl,fun w=>?_⟩
 have u3:=Tryz.underlying3
 have g3:=Tryz.isAgg3
 have z3:=Tryz.sizeOf3
 show(Op.equalIn (9999+1) 50 (.agg #[.int .i64 a0,.int .i64 a1,.int .i64 a2]) (.agg #[.int .i64 b0,.int .i64 b1,.int .i64 b2])).run Tryz.prog w=_
 rw [Op.equalIn]
 simp only [Sem.run_bind,run_underlying Tryz.underlying50,Result.andThen_ok]
 simp only [Std.Legacy.Range.forIn_eq_forIn_range',Std.Legacy.Range.size,Nat.sub_zero,Nat.add_sub_cancel,Nat.div_one,List.range'_succ,List.range'_zero,List.forIn_cons,List.forIn_nil]
 go_simp
 by_cases h0:a0=b0<;>by_cases h1:a1=b1<;>by_cases h2:a2=b2<;>simp [h0,h1,h2]
theorem Quj (a0 a1 b0 b1:Int):EqT Tryz.prog 58 [.int .i64 a0,.int .i64 a1] [.int .i64 b0,.int .i64 b1] ((a0==b0)&&(a1==b1)):=by
 refine⟨by kernel_rfl,fun w=>?_⟩
 have u3:=Tryz.underlying3
 have g3:=Tryz.isAgg3
 have z3:=Tryz.sizeOf3
 show(Op.equalIn (9999+1) 58 (.agg #[.int .i64 a0,.int .i64 a1]) (.agg #[.int .i64 b0,.int .i64 b1])).run Tryz.prog w=_
 rw [Op.equalIn]
 simp only [Sem.run_bind,run_underlying Tryz.underlying58,Result.andThen_ok]
 simp only [Std.Legacy.Range.forIn_eq_forIn_range',Std.Legacy.Range.size,Nat.sub_zero,Nat.add_sub_cancel,Nat.div_one,List.range'_succ,List.range'_zero,List.forIn_cons,List.forIn_nil]
 go_simp
 by_cases h0:a0=b0<;>by_cases h1:a1=b1<;>simp [h0,h1]
theorem QtG : Qne Tryz.prog 96 1=some (1,false,1):=by kernel_rfl
theorem QtH : Qne Tryz.prog 96 2=some (2,false,1):=by kernel_rfl
def Qtc : Go.Shelf.Ren:=⟨fun | 157=>219 | 199=>227 | 229=>226 | 261=>233 | 311=>236 | 312=>237 | n=>n,fun | 0=>0 | 3=>3 | 4=>4 | 5=>5 | 9=>9 | 21=>21 | 31=>94 | 40=>230 | 46=>165 | 49=>247 | 51=>197 | 119=>228 | 141=>239 | 152=>235 | 154=>237 | 193=>243 | 194=>244 | 196=>246 | 198=>249 | 201=>252 | 226=>254 | 227=>255 | n=>n,fun | 0=>0 | 6=>1 | n=>n⟩
theorem QsD : Lays.n157 Tryz.prog Qtc where
 mixed:=by kernel_rfl
 f157:=Tryz.func219.trans (congrArg some (by kernel_rfl))
 f199:=Tryz.func227.trans (congrArg some (by kernel_rfl))
 f229:=Tryz.func226.trans (congrArg some (by kernel_rfl))
 f261:=Tryz.func233.trans (congrArg some (by kernel_rfl))
 f311:=Tryz.func236.trans (congrArg some (by kernel_rfl))
 f312:=Tryz.func237.trans (congrArg some (by kernel_rfl))
 t0:=Tryz.underlying0
 a0:=Tryz.isAgg0
 z0:=Tryz.sizeOf0
 v0:=Tryz.zeroValue0
 t3:=Tryz.underlying3
 a3:=Tryz.isAgg3
 z3:=Tryz.sizeOf3
 v3:=Tryz.zeroValue3
 t4:=Tryz.underlying4
 a4:=Tryz.isAgg4
 z4:=Tryz.sizeOf4
 v4:=Tryz.zeroValue4
 t5:=Tryz.underlying5
 a5:=Tryz.isAgg5
 z5:=Tryz.sizeOf5
 v5:=Tryz.zeroValue5
 t9:=Tryz.underlying9
 a9:=Tryz.isAgg9
 z9:=Tryz.sizeOf9
 v9:=Tryz.zeroValue9
 t21:=Tryz.underlying21
 a21:=Tryz.isAgg21
 z21:=Tryz.sizeOf21
 v21:=Tryz.zeroValue21
 t31:=Tryz.underlying94
 a31:=Tryz.isAgg94
 z31:=Tryz.sizeOf94
 v31:=Tryz.zeroValue94
 t40:=Tryz.underlying230
 a40:=Tryz.isAgg230
 z40:=Tryz.sizeOf230
 v40:=Tryz.zeroValue230
 t46:=Tryz.underlying165
 a46:=Tryz.isAgg165
 z46:=Tryz.sizeOf165
 v46:=Tryz.zeroValue165
 t49:=Tryz.underlying247
 a49:=Tryz.isAgg247
 z49:=Tryz.sizeOf247
 v49:=Tryz.zeroValue247
 t51:=Tryz.underlying197
 a51:=Tryz.isAgg197
 z51:=Tryz.sizeOf197
 v51:=Tryz.zeroValue197
 t119:=Tryz.underlying228
 a119:=Tryz.isAgg228
 z119:=Tryz.sizeOf228
 t141:=Tryz.underlying239
 a141:=Tryz.isAgg239
 z141:=Tryz.sizeOf239
 v141:=Tryz.zeroValue239
 t152:=Tryz.underlying235
 a152:=Tryz.isAgg235
 z152:=Tryz.sizeOf235
 v152:=Tryz.zeroValue235
 t154:=Tryz.underlying237
 a154:=Tryz.isAgg237
 z154:=Tryz.sizeOf237
 v154:=Tryz.zeroValue237
 t193:=Tryz.underlying243
 a193:=Tryz.isAgg243
 z193:=Tryz.sizeOf243
 v193:=Tryz.zeroValue243
 t194:=Tryz.underlying244
 a194:=Tryz.isAgg244
 z194:=Tryz.sizeOf244
 v194:=Tryz.zeroValue244
 t196:=Tryz.underlying246
 a196:=Tryz.isAgg246
 z196:=Tryz.sizeOf246
 v196:=Tryz.zeroValue246
 t198:=Tryz.underlying249
 a198:=Tryz.isAgg249
 z198:=Tryz.sizeOf249
 v198:=Tryz.zeroValue249
 t201:=Tryz.underlying252
 a201:=Tryz.isAgg252
 z201:=Tryz.sizeOf252
 v201:=Tryz.zeroValue252
 t226:=Tryz.underlying254
 a226:=Tryz.isAgg254
 z226:=Tryz.sizeOf254
 v226:=Tryz.zeroValue254
 t227:=Tryz.underlying255
 a227:=Tryz.isAgg255
 z227:=Tryz.sizeOf255
 v227:=Tryz.zeroValue255
 g0:=by kernel_rfl
 g6:=by kernel_rfl
theorem Qnf : intT Tryz.prog 199 .u64=true:=by kernel_rfl
theorem it_3 : intT Tryz.prog 3 .i64=true:=by kernel_rfl
theorem ky_3 : QfE Tryz.prog 3 (V.i .i64) (Value.int .i64):=QfE.int (by kernel_rfl)
theorem ky_9 : QfE Tryz.prog 9 V.s Value.string:=QfE.str (by kernel_rfl)
theorem mixed : Tryz.prog.follows .mixedOrders=true:=by kernel_rfl
theorem Qpk : mapT Tryz.prog 207=some (9,4):=by kernel_rfl
theorem Qii : mapT Tryz.prog 88=some (3,3):=by kernel_rfl
def Qtd : Go.Shelf.Ren:=⟨fun | 125=>130 | 128=>181 | 129=>182 | 189=>67 | 215=>212 | 216=>178 | 257=>129 | 294=>172 | 295=>173 | 296=>174 | 297=>175 | 298=>176 | 299=>177 | 300=>179 | 301=>180 | 328=>207 | 329=>208 | 330=>209 | 331=>210 | 332=>211 | 343=>225 | n=>n,fun | 0=>0 | 3=>3 | 4=>4 | 5=>5 | 9=>9 | 28=>35 | 46=>165 | 51=>197 | 53=>199 | 131=>132 | 182=>189 | 183=>190 | 218=>212 | 222=>216 | 228=>225 | 229=>226 | n=>n,fun n=>n⟩
theorem QsE : Lays.n189 Tryz.prog Qtd where
 mixed:=by kernel_rfl
 f125:=Tryz.func130.trans (congrArg some (by kernel_rfl))
 f128:=Tryz.func181.trans (congrArg some (by kernel_rfl))
 f129:=Tryz.func182.trans (congrArg some (by kernel_rfl))
 f189:=Tryz.func67.trans (congrArg some (by kernel_rfl))
 f215:=Tryz.func212.trans (congrArg some (by kernel_rfl))
 f216:=Tryz.func178.trans (congrArg some (by kernel_rfl))
 f257:=Tryz.func129.trans (congrArg some (by kernel_rfl))
 f294:=Tryz.func172.trans (congrArg some (by kernel_rfl))
 f295:=Tryz.func173.trans (congrArg some (by kernel_rfl))
 f296:=Tryz.func174.trans (congrArg some (by kernel_rfl))
 f297:=Tryz.func175.trans (congrArg some (by kernel_rfl))
 f298:=Tryz.func176.trans (congrArg some (by kernel_rfl))
 f299:=Tryz.func177.trans (congrArg some (by kernel_rfl))
 f300:=Tryz.func179.trans (congrArg some (by kernel_rfl))
 f301:=Tryz.func180.trans (congrArg some (by kernel_rfl))
 f328:=Tryz.func207.trans (congrArg some (by kernel_rfl))
 f329:=Tryz.func208.trans (congrArg some (by kernel_rfl))
 f330:=Tryz.func209.trans (congrArg some (by kernel_rfl))
 f331:=Tryz.func210.trans (congrArg some (by kernel_rfl))
 f332:=Tryz.func211.trans (congrArg some (by kernel_rfl))
 f343:=Tryz.func225.trans (congrArg some (by kernel_rfl))
 t0:=Tryz.underlying0
 a0:=Tryz.isAgg0
 z0:=Tryz.sizeOf0
 v0:=Tryz.zeroValue0
 t3:=Tryz.underlying3
 a3:=Tryz.isAgg3
 z3:=Tryz.sizeOf3
 v3:=Tryz.zeroValue3
 t4:=Tryz.underlying4
 a4:=Tryz.isAgg4
 z4:=Tryz.sizeOf4
 v4:=Tryz.zeroValue4
 t5:=Tryz.underlying5
 a5:=Tryz.isAgg5
 z5:=Tryz.sizeOf5
 v5:=Tryz.zeroValue5
 t9:=Tryz.underlying9
 a9:=Tryz.isAgg9
 z9:=Tryz.sizeOf9
 v9:=Tryz.zeroValue9
 t28:=Tryz.underlying35
 a28:=Tryz.isAgg35
 z28:=Tryz.sizeOf35
 v28:=Tryz.zeroValue35
 t46:=Tryz.underlying165
 a46:=Tryz.isAgg165
 z46:=Tryz.sizeOf165
 v46:=Tryz.zeroValue165
 t51:=Tryz.underlying197
 a51:=Tryz.isAgg197
 z51:=Tryz.sizeOf197
 v51:=Tryz.zeroValue197
 t53:=Tryz.underlying199
 a53:=Tryz.isAgg199
 z53:=Tryz.sizeOf199
 v53:=Tryz.zeroValue199
 t131:=Tryz.underlying132
 a131:=Tryz.isAgg132
 z131:=Tryz.sizeOf132
 v131:=Tryz.zeroValue132
 t182:=Tryz.underlying189
 a182:=Tryz.isAgg189
 z182:=Tryz.sizeOf189
 v182:=Tryz.zeroValue189
 t183:=Tryz.underlying190
 a183:=Tryz.isAgg190
 z183:=Tryz.sizeOf190
 v183:=Tryz.zeroValue190
 t218:=Tryz.underlying212
 a218:=Tryz.isAgg212
 z218:=Tryz.sizeOf212
 v218:=Tryz.zeroValue212
 t222:=Tryz.underlying216
 a222:=Tryz.isAgg216
 z222:=Tryz.sizeOf216
 v222:=Tryz.zeroValue216
 t228:=Tryz.underlying225
 a228:=Tryz.isAgg225
 z228:=Tryz.sizeOf225
 v228:=Tryz.zeroValue225
 t229:=Tryz.underlying226
 a229:=Tryz.isAgg226
 z229:=Tryz.sizeOf226
 v229:=Tryz.zeroValue226
theorem Quk : Tryz.prog.underlying 35=some (.slice 3):=by kernel_rfl
theorem Qul : Tryz.prog.underlying 62=some (.slice 35):=by kernel_rfl
theorem zi_3 : QiO Tryz.prog 3 ((V.i .i64) 0):=QiO.one (v:=.int .i64 0) (by kernel_rfl)
theorem zi_4 : QiO Tryz.prog 4 (V.b false):=QiO.one (v:=.bool false) (by kernel_rfl)
theorem zv_3 : Qap Tryz.prog 3=some [.i .i64 0]:=by kernel_rfl
theorem Qum : Qap Tryz.prog 26=some [.lit (.slice none 0 0),.lit (.slice none 0 0),.lit (.slice none 0 0),.i .i64 0,.i .i64 0]:=by kernel_rfl
theorem Qun : Qap Tryz.prog 31=some [.lit (.slice none 0 0)]:=by kernel_rfl
theorem Qtz : Qap Tryz.prog 35=some [.lit (.slice none 0 0)]:=by kernel_rfl
theorem Quo : Qap Tryz.prog 37=some [.i .i64 0,.lit (.slice none 0 0),.lit (.slice none 0 0),.lit (.slice none 0 0)]:=by kernel_rfl
theorem Qup : Qap Tryz.prog 40=some [.lit (.slice none 0 0)]:=by kernel_rfl
theorem Quq : Qap Tryz.prog 41=some [.i .i64 0]:=by kernel_rfl
theorem Qur : Qap Tryz.prog 48=some [.i .i64 0,.i .i64 0,.lit (.slice none 0 0)]:=by kernel_rfl
theorem Qus : Qap Tryz.prog 50=some [.i .i64 0,.i .i64 0,.i .i64 0]:=by kernel_rfl
theorem Qut : Qap Tryz.prog 52=some [.s (⟨#[]⟩:ByteArray),.lit (.slice none 0 0),.i .i64 0,.i .i64 0,.lit (.slice none 0 0),.i .i64 0,.i .i64 0,.lit (.slice none 0 0),.lit (.slice none 0 0),.lit (.slice none 0 0),.i .i64 0,.i .i64 0,.i .i64 0,.i .i64 0]:=by kernel_rfl
theorem Quu : Qap Tryz.prog 58=some [.i .i64 0,.i .i64 0]:=by kernel_rfl
theorem Quv : Qap Tryz.prog 62=some [.lit (.slice none 0 0)]:=by kernel_rfl
theorem Quw : Qap Tryz.prog 67=some [.i .i64 0,.i .i64 0]:=by kernel_rfl
theorem Qux : Qap Tryz.prog 75=some [.lit (.slice none 0 0),.lit (.slice none 0 0),.lit (.slice none 0 0),.i .i64 0,.i .i64 0,.lit (.slice none 0 0),.s (⟨#[]⟩:ByteArray),.lit (.slice none 0 0),.i .i64 0,.i .i64 0,.lit (.slice none 0 0),.i .i64 0,.i .i64 0,.lit (.slice none 0 0),.lit (.slice none 0 0),.lit (.slice none 0 0),.i .i64 0,.i .i64 0,.i .i64 0,.i .i64 0,.lit (.slice none 0 0)]:=by kernel_rfl
theorem Quy : Qap Tryz.prog 86=some [.s (⟨#[]⟩:ByteArray),.i .i64 0]:=by kernel_rfl
theorem Quz : Qap Tryz.prog 96=some [.s (⟨#[]⟩:ByteArray),.i .i64 0,.i .i64 0,.i .i64 0,.lit (.slice none 0 0),.i .i64 0,.i .i64 0]:=by kernel_rfl
theorem QuA : Qap Tryz.prog 98=some [.s (⟨#[]⟩:ByteArray),.i .i64 0,.lit (.slice none 0 0)]:=by kernel_rfl
theorem Qt6 : Qap Tryz.prog 100=some [.i .i64 0,.i .i64 0,.i .i64 0,.lit (.slice none 0 0)]:=by kernel_rfl
theorem QjU : Qap Tryz.prog 108=some [.lit (.nilFunc),.i .i64 0]:=by kernel_rfl
theorem Qt7 : Qap Tryz.prog 142=some [.lit (.nilFunc)]:=by kernel_rfl
theorem Qt8 : Qap Tryz.prog 147=some [.lit (.nilFunc)]:=by kernel_rfl
theorem Qt9 : Qap Tryz.prog 156=some [.lit (.slice none 0 0),.lit (.slice none 0 0),.i .i64 0]:=by kernel_rfl
theorem Qua : Qap Tryz.prog 176=some [.lit (.nilFunc)]:=by kernel_rfl
def tab : Tab:={ ag:=[(3,false),(9,false),(22,false),(23,false),(24,false),(26,true),(28,false),(29,false),(31,false),(35,false),(37,true),(40,false),(41,false),(45,false),(46,false),(48,true),(49,false),(50,true),(52,true),(58,true),(62,false),(67,true),(75,true),(78,false),(86,true),(88,false),(94,false),(96,true),(98,true),(100,true),(108,true),(142,false),(147,false),(150,false),(156,true),(176,false)],sz:=[(3,1),(26,5),(31,1),(35,1),(37,4),(40,1),(41,1),(48,3),(50,3),(52,14),(58,2),(62,1),(67,2),(75,21),(86,2),(96,7),(98,3),(100,4),(108,2),(142,1),(147,1),(156,3),(176,1)],fo:=[(26,[0,1,2,3,4]),(37,[0,1,2,3]),(48,[0,1,2]),(52,[0,1,2,5,6,7,8,9,10,11]),(75,[0,5,6,20]),(86,[0,1]),(96,[0,1,2,3,4,5,6]),(98,[0,1,2]),(100,[0,1]),(108,[0,1]),(156,[0,1,2])],sp:=[(26,[(0,1),(1,1),(2,1),(3,1),(4,1)]),(37,[(0,1),(1,1),(2,1),(3,1)]),(48,[(0,1),(1,1),(2,1)]),(52,[(0,1),(1,1),(2,3),(5,1),(6,1),(7,1),(8,1),(9,1),(10,1),(11,3)]),(67,[(0,1),(1,1)]),(75,[(0,5),(5,1),(6,14),(20,1)]),(86,[(0,1),(1,1)]),(96,[(0,1),(1,1),(2,1),(3,1),(4,1),(5,1),(6,1)]),(98,[(0,1),(1,1),(2,1)]),(100,[(0,1),(1,3)]),(108,[(0,1),(1,1)]),(156,[(0,1),(1,1),(2,1)])],es:=[(22,(96,7,80)),(23,(98,3,48)),(24,(52,14,200)),(28,(40,1,24)),(31,(37,4,80)),(35,(3,1,8)),(40,(58,2,16)),(45,(86,2,24)),(46,(48,3,40)),(49,(100,4,48)),(62,(35,1,24)),(94,(9,1,16)),(136,(108,2,16)),(159,(3,1,8))],ar:=[(50,(3,1)),(58,(2,1))],zv:=[(3,[.i .i64 0]),(26,[.lit (.slice none 0 0),.lit (.slice none 0 0),.lit (.slice none 0 0),.i .i64 0,.i .i64 0]),(31,[.lit (.slice none 0 0)]),(35,[.lit (.slice none 0 0)]),(37,[.i .i64 0,.lit (.slice none 0 0),.lit (.slice none 0 0),.lit (.slice none 0 0)]),(40,[.lit (.slice none 0 0)]),(41,[.i .i64 0]),(48,[.i .i64 0,.i .i64 0,.lit (.slice none 0 0)]),(50,[.i .i64 0,.i .i64 0,.i .i64 0]),(52,[.s (⟨#[]⟩:ByteArray),.lit (.slice none 0 0),.i .i64 0,.i .i64 0,.lit (.slice none 0 0),.i .i64 0,.i .i64 0,.lit (.slice none 0 0),.lit (.slice none 0 0),.lit (.slice none 0 0),.i .i64 0,.i .i64 0,.i .i64 0,.i .i64 0]),(58,[.i .i64 0,.i .i64 0]),(62,[.lit (.slice none 0 0)]),(67,[.i .i64 0,.i .i64 0]),(75,[.lit (.slice none 0 0),.lit (.slice none 0 0),.lit (.slice none 0 0),.i .i64 0,.i .i64 0,.lit (.slice none 0 0),.s (⟨#[]⟩:ByteArray),.lit (.slice none 0 0),.i .i64 0,.i .i64 0,.lit (.slice none 0 0),.i .i64 0,.i .i64 0,.lit (.slice none 0 0),.lit (.slice none 0 0),.lit (.slice none 0 0),.i .i64 0,.i .i64 0,.i .i64 0,.i .i64 0,.lit (.slice none 0 0)]),(86,[.s (⟨#[]⟩:ByteArray),.i .i64 0]),(96,[.s (⟨#[]⟩:ByteArray),.i .i64 0,.i .i64 0,.i .i64 0,.lit (.slice none 0 0),.i .i64 0,.i .i64 0]),(98,[.s (⟨#[]⟩:ByteArray),.i .i64 0,.lit (.slice none 0 0)]),(100,[.i .i64 0,.i .i64 0,.i .i64 0,.lit (.slice none 0 0)]),(108,[.lit (.nilFunc),.i .i64 0]),(142,[.lit (.nilFunc)]),(147,[.lit (.nilFunc)]),(156,[.lit (.slice none 0 0),.lit (.slice none 0 0),.i .i64 0]),(176,[.lit (.nilFunc)])],sb:=[9],bo:=[4],cc:=[],en:=[7,8,9,10,14,15,16,17,18,19,20,21,22,23,24,25,26,27,28,29,30,31,32,33,34,39,40,41,42,43,44,45,46,47,48,49,50,51,52,53,54,55,56,57,58,59,60,61,62,63,64,65,66,67,79,80,81,82,83,84,85,86,87,88,89,90,91,92,93,94,95,96,97,98,99,100,101,102,103,104,105,106,107,108,109,110,111,112,113,114,115,116,117,118,119,120,121,122,123,124,125,126,127,128,139,140,141,142,143,144,145,146,147,148,149,150,151,152,153,154,155,156,157,158,159,160,161,162,163,164,165,166,167,168,169,170,171,192,193,194,195,196,197,198,199,200,201,202,203,204,205,206,218,219,220,221,222,223,224,228,229,230,231,232,234,235] }
theorem Qo : Qck Tryz.prog tab:=Tab.ok (by kernel_rfl) (List.forall_mem_cons.2 ⟨zv_3,List.forall_mem_cons.2 ⟨Qum,List.forall_mem_cons.2 ⟨Qun,List.forall_mem_cons.2 ⟨Qtz,List.forall_mem_cons.2 ⟨Quo,List.forall_mem_cons.2 ⟨Qup,List.forall_mem_cons.2 ⟨Quq,List.forall_mem_cons.2 ⟨Qur,List.forall_mem_cons.2 ⟨Qus,List.forall_mem_cons.2 ⟨Qut,List.forall_mem_cons.2 ⟨Quu,List.forall_mem_cons.2 ⟨Quv,List.forall_mem_cons.2 ⟨Quw,List.forall_mem_cons.2 ⟨Qux,List.forall_mem_cons.2 ⟨Quy,List.forall_mem_cons.2 ⟨Quz,List.forall_mem_cons.2 ⟨QuA,List.forall_mem_cons.2 ⟨Qt6,List.forall_mem_cons.2 ⟨QjU,List.forall_mem_cons.2 ⟨Qt7,List.forall_mem_cons.2 ⟨Qt8,List.forall_mem_cons.2 ⟨Qt9,List.forall_mem_cons.2 ⟨Qua,fun _ h=>(by cases h)⟩⟩⟩⟩⟩⟩⟩⟩⟩⟩⟩⟩⟩⟩⟩⟩⟩⟩⟩⟩⟩⟩⟩)
theorem Qa {C:Ctx}{Q:Exit→St→Prop}{n:Nat}{pt pt1:Pt}{ks ks1:List Fr}{σ σ1:St}{φ:Prop}(hC:QdT Tryz.prog C n)(ds:List Dir)(e:Vm.go Tryz.prog C tab n ds pt ks σ True=some ⟨pt1,ks1,σ1,φ⟩)(hφ:φ)(h:AK Tryz.prog C Q pt1 ks1 σ1):AK Tryz.prog C Q pt ks σ:=AK.go Qo hC ds e hφ h
theorem tt_ : True:=trivial
theorem an_ {a b:Prop}(x:a)(y:b):a∧b:=⟨x,y⟩
theorem ex_ {α:Sort _}{p:α→Prop}(w:α)(h:p w):∃x,p x:=⟨w,h⟩
def Qlt  : Option TNet:=
 some (TNet.mk ([(Qw.mk (⟨#[110]⟩:ByteArray) 1 0 3 ([]:(List ByteArray)) 0 0)]:List Qw) ([(QB.mk (⟨#[97]⟩:ByteArray) 0 ([]:(List (Int×Int)))),(QB.mk (⟨#[98]⟩:ByteArray) 0 ([]:(List (Int×Int))))]:List QB) ([(Qr.mk (⟨#[116]⟩:ByteArray) ([(TVar.mk (⟨#[120]⟩:ByteArray) 0)]:List TVar) (Qf.mk 1 1 ([]:(List Qf))) 1 1 ([(TArc.mk 0 (Qf.mk 2 0 ([]:(List Qf))))]:List TArc) ([(TArc.mk 1 (Qf.mk 5 1 ([(Qf.mk 2 0 ([]:(List Qf))),(Qf.mk 1 1 ([]:(List Qf)))]:List Qf)))]:List TArc) ([]:(List Int)) 0 (0,0,0))]:List Qr) 0 1)
theorem QpV  {r:TNet}(h:Qlt  = some r):Qc Tryz.prog 17 [] [] (Qh (.agg (Qd r)) []):=by
 refine Qc.walk 27 Tryz.func17 rfl Tryz.ntmps17 rfl fun C hC=>?_
 unfold Qlt at h
 refine Qa hC [.n 7,.v .no [none,none,some 3] (.agg (Qk (Qf.mk 2 0 ([]:(List Qf))))),.n 2,.sayO 1 (.var (Qk (Qf.mk 2 0 ([]:(List Qf))))),.n 4,.v .no [none,none,some 3] (.agg (Qk (Qf.mk 1 1 ([]:(List Qf))))),.n 2,.sayO 2 (.var (Qk (Qf.mk 1 1 ([]:(List Qf))))),.n 4,.v .no [] (.agg (Qk (Qf.mk 2 0 ([]:(List Qf))))),.v .no [] (.agg (Qk (Qf.mk 1 1 ([]:(List Qf))))),.v (.bd []) [] (.sl 3 (QaD ([(Qf.mk 2 0 ([]:(List Qf))),(Qf.mk 1 1 ([]:(List Qf)))]:List Qf))),.v .no [] (.agg (Qk (Qf.mk 5 1 ([(Qf.mk 2 0 ([]:(List Qf))),(Qf.mk 1 1 ([]:(List Qf)))]:List Qf)))),.n 2,.sayO 3 (.var (Qk (Qf.mk 5 1 ([(Qf.mk 2 0 ([]:(List Qf))),(Qf.mk 1 1 ([]:(List Qf)))]:List Qf)))),.n 4,.v .no [none,none,none,none,some 1,none,none] (.agg (Qt (Qw.mk (⟨#[110]⟩:ByteArray) 1 0 3 ([]:(List ByteArray)) 0 0))),.v (.bd []) [] (.sl 7 (([(Qw.mk (⟨#[110]⟩:ByteArray) 1 0 3 ([]:(List ByteArray)) 0 0)]:List Qw).map Qt)),.v .no [none,none,some 2] (.agg (Qs (QB.mk (⟨#[97]⟩:ByteArray) 0 ([]:(List (Int×Int)))))),.v .no [none,none,some 2] (.agg (Qs (QB.mk (⟨#[98]⟩:ByteArray) 0 ([]:(List (Int×Int)))))),.v (.bd []) [] (.sl 3 (([(QB.mk (⟨#[97]⟩:ByteArray) 0 ([]:(List (Int×Int)))),(QB.mk (⟨#[98]⟩:ByteArray) 0 ([]:(List (Int×Int))))]:List QB).map Qs)),.v .no [] (.agg (Qy (TVar.mk (⟨#[120]⟩:ByteArray) 0))),.v (.bd []) [] (.sl 2 (([(TVar.mk (⟨#[120]⟩:ByteArray) 0)]:List TVar).map Qy)),.v .no [] (.agg (Qk (Qf.mk 1 1 ([]:(List Qf))))),.v .no [] (.agg (Qk (Qf.mk 2 0 ([]:(List Qf))))),.v .no [] (.agg (QM (TArc.mk 0 (Qf.mk 2 0 ([]:(List Qf)))))),.v (.bd []) [] (.sl 4 (([(TArc.mk 0 (Qf.mk 2 0 ([]:(List Qf))))]:List TArc).map QM)),.v .no [] (.agg (Qk (Qf.mk 5 1 ([(Qf.mk 2 0 ([]:(List Qf))),(Qf.mk 1 1 ([]:(List Qf)))]:List Qf)))),.v .no [] (.agg (QM (TArc.mk 1 (Qf.mk 5 1 ([(Qf.mk 2 0 ([]:(List Qf))),(Qf.mk 1 1 ([]:(List Qf)))]:List Qf))))),.v (.bd []) [] (.sl 4 (([(TArc.mk 1 (Qf.mk 5 1 ([(Qf.mk 2 0 ([]:(List Qf))),(Qf.mk 1 1 ([]:(List Qf)))]:List Qf)))]:List TArc).map QM)),.v .no [none,none,none,none,none,none,none,none,none,some 1,none,none,none,none] (.agg (Qg (Qr.mk (⟨#[116]⟩:ByteArray) ([(TVar.mk (⟨#[120]⟩:ByteArray) 0)]:List TVar) (Qf.mk 1 1 ([]:(List Qf))) 1 1 ([(TArc.mk 0 (Qf.mk 2 0 ([]:(List Qf))))]:List TArc) ([(TArc.mk 1 (Qf.mk 5 1 ([(Qf.mk 2 0 ([]:(List Qf))),(Qf.mk 1 1 ([]:(List Qf)))]:List Qf)))]:List TArc) ([]:(List Int)) 0 (0,0,0)))),.v (.bd []) [] (.sl 14 (([(Qr.mk (⟨#[116]⟩:ByteArray) ([(TVar.mk (⟨#[120]⟩:ByteArray) 0)]:List TVar) (Qf.mk 1 1 ([]:(List Qf))) 1 1 ([(TArc.mk 0 (Qf.mk 2 0 ([]:(List Qf))))]:List TArc) ([(TArc.mk 1 (Qf.mk 5 1 ([(Qf.mk 2 0 ([]:(List Qf))),(Qf.mk 1 1 ([]:(List Qf)))]:List Qf)))]:List TArc) ([]:(List Int)) 0 (0,0,0))]:List Qr).map Qg)),.v .no [] (.agg (Qd (TNet.mk ([(Qw.mk (⟨#[110]⟩:ByteArray) 1 0 3 ([]:(List ByteArray)) 0 0)]:List Qw) ([(QB.mk (⟨#[97]⟩:ByteArray) 0 ([]:(List (Int×Int)))),(QB.mk (⟨#[98]⟩:ByteArray) 0 ([]:(List (Int×Int))))]:List QB) ([(Qr.mk (⟨#[116]⟩:ByteArray) ([(TVar.mk (⟨#[120]⟩:ByteArray) 0)]:List TVar) (Qf.mk 1 1 ([]:(List Qf))) 1 1 ([(TArc.mk 0 (Qf.mk 2 0 ([]:(List Qf))))]:List TArc) ([(TArc.mk 1 (Qf.mk 5 1 ([(Qf.mk 2 0 ([]:(List Qf))),(Qf.mk 1 1 ([]:(List Qf)))]:List Qf)))]:List TArc) ([]:(List Int)) 0 (0,0,0))]:List Qr) 0 1))),.n 1,.sayO 0 (.var (Qd (TNet.mk ([(Qw.mk (⟨#[110]⟩:ByteArray) 1 0 3 ([]:(List ByteArray)) 0 0)]:List Qw) ([(QB.mk (⟨#[97]⟩:ByteArray) 0 ([]:(List (Int×Int)))),(QB.mk (⟨#[98]⟩:ByteArray) 0 ([]:(List (Int×Int))))]:List QB) ([(Qr.mk (⟨#[116]⟩:ByteArray) ([(TVar.mk (⟨#[120]⟩:ByteArray) 0)]:List TVar) (Qf.mk 1 1 ([]:(List Qf))) 1 1 ([(TArc.mk 0 (Qf.mk 2 0 ([]:(List Qf))))]:List TArc) ([(TArc.mk 1 (Qf.mk 5 1 ([(Qf.mk 2 0 ([]:(List Qf))),(Qf.mk 1 1 ([]:(List Qf)))]:List Qf)))]:List TArc) ([]:(List Int)) 0 (0,0,0))]:List Qr) 0 1))),.n 3,.keep [0] [0]] rfl ⟨⟨⟨⟨⟨⟨⟨⟨⟨⟨⟨⟨⟨⟨⟨⟨⟨⟨⟨⟨⟨⟨⟨⟨⟨⟨⟨tt_,rfl⟩,rfl⟩,rfl⟩,rfl⟩,rfl⟩,rfl⟩,rfl⟩,rfl⟩,rfl⟩,rfl⟩,rfl⟩,rfl⟩,rfl⟩,rfl⟩,rfl⟩,rfl⟩,rfl⟩,rfl⟩,rfl⟩,rfl⟩,rfl⟩,rfl⟩,rfl⟩,rfl⟩,rfl⟩,rfl⟩,rfl⟩ ?_
 cases h
 exact AK.done (ex_ [_] (an_ (an_ (ex_ _ (ex_ _ (an_ rfl (an_ rfl (Or.inl (an_ (Qo.ag rfl) (an_ (Qo.sz rfl) rfl))))))) tt_) (gives tt_)))
def Qcy (l10:(List (List Int))):Option (List (List Int)):=
 some l10
def QfG (arcs2:Int)(x13:Int)(l14:(List Int)):Option ((Int×(List Int))⊕(List Int)):=
 bif (decide (x13<arcs2))then
 (chk (decide (l14.length+([x13]:List Int).length≤4294967296))).bind fun _=>
 some (.inl ((w64 (x13+1)),(l14++([x13]:List Int))))
 else
 some (.inr l14)
def QhQ (l17:(List Int)):Option (List (List Int)):=
 some ([l17]:List (List Int))
def QfH (arcs2:Int)(x23:Int)(l24:(List (List Int))):Option ((Int×(List (List Int)))⊕(List (List Int))):=
 bif (decide (x23<arcs2))then
 (chk (decide (l24.length+([([x23]:List Int)]:List (List Int)).length≤4294967296))).bind fun _=>
 some (.inl ((w64 (x23+1)),(l24++([([x23]:List Int)]:List (List Int)))))
 else
 some (.inr l24)
def QhR (l27:(List (List Int))):Option (List (List Int)):=
 Qcy l27
def QfI (x41:Int)(l47:(List Int)):Option ((Int×(List Int))⊕(List Int)):=
 some (.inl ((w64 (x41+1)),l47))
def QfJ (arcs2:Int)(set_33:Int)(x41:Int)(l42:(List Int)):Option ((Int×(List Int))⊕(List Int)):=
 bif (decide (x41<arcs2))then
 (chk (decide (0≤x41))).bind fun _=>
 bif ((andI .i64 (shrI .i64 set_33 x41) 1)==1)then
 (chk (decide (l42.length+([x41]:List Int).length≤4294967296))).bind fun _=>
 QfI x41 (l42++([x41]:List Int))
 else
 QfI x41 l42
 else
 some (.inr l42)
def QhS (l34:(List (List Int)))(set_33:Int)(l45:(List Int)):Option ((Int×(List (List Int)))⊕(List (List Int))):=
 (chk (decide (l34.length+([l45]:List (List Int)).length≤4294967296))).bind fun _=>
 some (.inl ((w64 (set_33+1)),(l34++([l45]:List (List Int)))))
def QfK (arcs2:Int)(set_33:Int)(l34:(List (List Int))):Option ((Int×(List (List Int)))⊕(List (List Int))):=
 (chk (decide (0≤arcs2))).bind fun _=>
 bif (decide (set_33<(shlI .i64 1 arcs2)))then
 (QF (fun st=>QfJ arcs2 set_33 st.1 st.2) (0,([]:List Int))).bind (fun q=>QhS l34 set_33 q)
 else
 some (.inr l34)
def Qhh (l37:(List (List Int))):Option (List (List Int)):=
 Qcy l37
def QaY (kind1:Int)(arcs2:Int):Option (List (List Int)):=
 bif ((decide (arcs2<0))||((decide (16<arcs2))||((kind1==3)&&(decide (4<arcs2)))))then
 some ([]:List (List Int))
 else
 bif (kind1==1)then
 (QF (fun st=>QfG arcs2 st.1 st.2) (0,([]:List Int))).bind (fun q=>QhQ q)
 else
 bif (kind1==2)then
 (QF (fun st=>QfH arcs2 st.1 st.2) (0,([]:List (List Int)))).bind (fun q=>QhR q)
 else
 bif (kind1==3)then
 (QF (fun st=>QfK arcs2 st.1 st.2) (1,([]:List (List Int)))).bind (fun q=>Qhh q)
 else
 Qcy ([]:List (List Int))
theorem QfL (kind1:Int)(arcs2:Int){r:(List (List Int))}(h:QaY kind1 arcs2=some r):Qc Tryz.prog 20 [.i .i64 kind1,.i .i64 arcs2] [] (Qh (.own 30000 r.length) [(30000,.arr 1 (r.map Qu))]):=by
 refine Qc.walk 79 Tryz.func20 rfl Tryz.ntmps20 rfl fun C hC=>?_
 unfold QaY at h
 refine Qa hC [.n 7] rfl tt_ ?_
 refine AK.meetX (fun σ=>σ=⟨[(0,.i .i64 kind1),(1,.i .i64 arcs2),(25,.b ((decide (arcs2<0))||((decide (16<arcs2))||((kind1==3)&&(decide (4<arcs2))))))],[]⟩) ?_ ?_
 ·refine Qa hC [.n 4] rfl tt_ ?_
  rcases QI (decide (arcs2<0))with hc6 | hc6
  ·refine Qa hC [.say 14 (.b true),.n 12,.say 25 (.b ((decide (arcs2<0))||((decide (16<arcs2))||((kind1==3)&&(decide (4<arcs2)))))),.keep [0,1,25] []] rfl ⟨⟨tt_,(congrArg V.b hc6)⟩,(congrArg V.b (orT hc6 rfl))⟩ ?_
   exact AK.met rfl
  ·refine Qa hC [.say 14 (.b false),.n 4] rfl ⟨tt_,(congrArg V.b hc6)⟩ ?_
   rcases QI (decide (16<arcs2))with hc7 | hc7
   ·refine Qa hC [.say 18 (.b true),.n 8,.say 25 (.b ((decide (arcs2<0))||((decide (16<arcs2))||((kind1==3)&&(decide (4<arcs2)))))),.keep [0,1,25] []] rfl ⟨⟨tt_,(congrArg V.b hc7)⟩,(congrArg V.b (orF hc6 (orT hc7 rfl)))⟩ ?_
    exact AK.met rfl
   ·refine Qa hC [.say 18 (.b false),.n 3] rfl ⟨tt_,(congrArg V.b hc7)⟩ ?_
    rcases QI (kind1==3)with hc8 | hc8
    ·refine Qa hC [.say 21 (.b true),.n 5,.say 25 (.b ((decide (arcs2<0))||((decide (16<arcs2))||((kind1==3)&&(decide (4<arcs2)))))),.keep [0,1,25] []] rfl ⟨⟨tt_,(congrArg V.b hc8)⟩,(congrArg V.b (orF hc6 (orF hc7 (andT hc8 rfl))))⟩ ?_
     exact AK.met rfl
    ·refine Qa hC [.say 21 (.b false),.n 5,.say 25 (.b ((decide (arcs2<0))||((decide (16<arcs2))||((kind1==3)&&(decide (4<arcs2)))))),.keep [0,1,25] []] rfl ⟨⟨tt_,(congrArg V.b hc8)⟩,(congrArg V.b (orF hc6 (orF hc7 (andF hc8 rfl))))⟩ ?_
     exact AK.met rfl
 ·rintro σ rfl
  refine Qa hC [.n 1] rfl tt_ ?_
  rcases bifE h with⟨hc9,h⟩|⟨hc9,h⟩
  ·refine Qa hC [.br true,.n 7,.adopt 4 30000 1,.sayO 30000 (.arr 1 (([]:List (List Int)).map Qu)),.say 4 (.own 30000 ([]:List (List Int)).length),.keep [4] [30000]] rfl ⟨⟨⟨tt_,hc9⟩,rfl⟩,rfl⟩ ?_
   cases h
   exact AK.done (ex_ [_] (an_ (an_ rfl tt_) (gives ⟨rfl,tt_⟩)))
  ·refine Qa hC [.br false,.n 7] rfl ⟨tt_,hc9⟩ ?_
   refine AK.meet (fun σ=>∃l10:(List (List Int)),σ=⟨[(5,.own 40005 l10.length)],[(40005,.arr 1 (l10.map Qu))]⟩∧Qcy l10=some r) ?_ ?_
   ·refine Qa hC [.n 12] rfl tt_ ?_
    rcases bifE h with⟨hc11,h⟩|⟨hc11,h⟩
    ·refine Qa hC [.br true,.n 13,.adopt 6 33 1,.sayO 33 (.arr 1 (([]:List Int).map Qe)),.say 6 (.own 33 ([]:List Int).length),.keep [6,29,30] [33]] rfl ⟨⟨⟨tt_,hc11⟩,rfl⟩,(congrArg (fun n=>V.own 33 n) (by simp))⟩ ?_
     obtain⟨l17,hl20,h⟩:=Qb h
     refine AK.loop (body:=(fun st=>QfG arcs2 st.1 st.2)) (fun st σ=>σ=⟨[(6,.own 33 st.2.length),(29,.i .i64 arcs2),(30,.i .i64 st.1)],[(33,.arr 1 (st.2.map Qe))]⟩) (fun q e σ=>e=.exit 1∧σ=⟨[(6,.own 33 q.length)],[(33,.arr 1 (q.map Qe))]⟩) hl20 rfl ?_ ?_
     ·rintro ⟨x13,l14⟩ o σ rfl h
      replace h:QfG arcs2 x13 l14=some o:=h
      unfold QfG at h
      refine Qa hC [.n 6] rfl tt_ ?_
      rcases bifE h with⟨hc18,h⟩|⟨hc18,h⟩
      ·obtain⟨_,hk19,h⟩:=Qb h
       replace hk19:=chkE hk19
       refine Qa hC [.br true,.n 13,.v (.bd []) [] (.sl 1 (([x13]:List Int).map Qe)),.app ((l14++([x13]:List Int)).map Qe) (l14++([x13]:List Int)).length,.n 8,.keep [6,29,30] [33]] rfl ⟨⟨⟨tt_,hc18⟩,rfl⟩,⟨Qj,Qgx hk19 Qj,QeQ,Qih Qj⟩⟩ ?_
       cases h
       exact rndN rfl rfl
      ·refine Qa hC [.br false,.n 2,.keep [6] [33]] rfl ⟨tt_,hc18⟩ ?_
       cases h
       exact rndX rfl (an_ rfl rfl)
     ·replace h:QhQ l17=some r:=h
      unfold QhQ at h
      rintro e σ ⟨rfl,rfl⟩
      refine Qa hC [.n 5,.frz 33 (l17.map Qe) [6,38] [],.n 1,.sayO 39 (.arr 1 (([l17]:List (List Int)).map Qu)),.say 39 (.own 39 ([l17]:List (List Int)).length),.n 6,.keep [4] [39],.ren 39 30000,.keep [4] [30000]] rfl ⟨⟨⟨tt_,⟨⟨tt_,(frzL Qj)⟩,(frzL Qj)⟩⟩,rfl⟩,rfl⟩ ?_
      cases h
      exact AK.done (ex_ [_] (an_ (an_ rfl tt_) (gives ⟨rfl,tt_⟩)))
    ·refine Qa hC [.br false,.n 6] rfl ⟨tt_,hc11⟩ ?_
     rcases bifE h with⟨hc21,h⟩|⟨hc21,h⟩
     ·refine Qa hC [.br true,.n 7,.adopt 5 46 1,.sayO 46 (.arr 1 (([]:List (List Int)).map Qu)),.say 5 (.own 46 ([]:List (List Int)).length),.keep [5,42,43] [46]] rfl ⟨⟨⟨tt_,hc21⟩,rfl⟩,(congrArg (fun n=>V.own 46 n) (by simp))⟩ ?_
      obtain⟨l27,hl30,h⟩:=Qb h
      refine AK.loop (body:=(fun st=>QfH arcs2 st.1 st.2)) (fun st σ=>σ=⟨[(5,.own 46 st.2.length),(42,.i .i64 arcs2),(43,.i .i64 st.1)],[(46,.arr 1 (st.2.map Qu))]⟩) (fun q e σ=>e=.exit 3∧σ=⟨[(5,.own 46 q.length)],[(46,.arr 1 (q.map Qu))]⟩) hl30 rfl ?_ ?_
      ·rintro ⟨x23,l24⟩ o σ rfl h
       replace h:QfH arcs2 x23 l24=some o:=h
       unfold QfH at h
       refine Qa hC [.n 6] rfl tt_ ?_
       rcases bifE h with⟨hc28,h⟩|⟨hc28,h⟩
       ·obtain⟨_,hk29,h⟩:=Qb h
        replace hk29:=chkE hk29
        refine Qa hC [.br true,.n 13,.v (.bd []) [] (.sl 1 (([x23]:List Int).map Qe)),.v (.bd []) [] (.sl 1 (([([x23]:List Int)]:List (List Int)).map Qu)),.app ((l24++([([x23]:List Int)]:List (List Int))).map Qu) (l24++([([x23]:List Int)]:List (List Int))).length,.n 8,.keep [5,42,43] [46]] rfl ⟨⟨⟨⟨tt_,hc28⟩,rfl⟩,rfl⟩,⟨Qj,Qgx hk29 Qj,QeQ,Qih Qj⟩⟩ ?_
        cases h
        exact rndN rfl rfl
       ·refine Qa hC [.br false,.n 2,.keep [5] [46]] rfl ⟨tt_,hc28⟩ ?_
        cases h
        exact rndX rfl (an_ rfl rfl)
      ·replace h:QhR l27=some r:=h
       unfold QhR at h
       rintro e σ ⟨rfl,rfl⟩
       refine Qa hC [.n 2,.ren 46 40005,.keep [5] [40005]] rfl tt_ ?_
       exact AK.met (ex_ _ (an_ rfl h))
     ·refine Qa hC [.br false,.n 6] rfl ⟨tt_,hc21⟩ ?_
      rcases bifE h with⟨hc31,h⟩|⟨hc31,h⟩
      ·refine Qa hC [.br true,.n 6,.adopt 5 74 1,.sayO 74 (.arr 1 (([]:List (List Int)).map Qu)),.say 5 (.own 74 ([]:List (List Int)).length),.keep [1,5,9] [74]] rfl ⟨⟨⟨tt_,hc31⟩,rfl⟩,(congrArg (fun n=>V.own 74 n) (by simp))⟩ ?_
       obtain⟨l37,hl53,h⟩:=Qb h
       refine AK.loop (body:=(fun st=>QfK arcs2 st.1 st.2)) (fun st σ=>σ=⟨[(1,.i .i64 arcs2),(5,.own 74 st.2.length),(9,.i .i64 st.1)],[(74,.arr 1 (st.2.map Qu))]⟩) (fun q e σ=>e=.exit 5∧σ=⟨[(5,.own 74 q.length)],[(74,.arr 1 (q.map Qu))]⟩) hl53 rfl ?_ ?_
       ·rintro ⟨set_33,l34⟩ o σ rfl h
        replace h:QfK arcs2 set_33 l34=some o:=h
        unfold QfK at h
        obtain⟨_,hk38,h⟩:=Qb h
        replace hk38:=chkE hk38
        refine Qa hC [.n 5,.o (.any (.i .i64 (shlI .i64 1 arcs2)) none),.n 3] rfl ⟨tt_,(fun σ h1 h2 _=>Stp.shl rfl rfl (bleN hC.n rfl) (h1 _ _ rfl) (h1 _ _ rfl) (of_decide_eq_true hk38))⟩ ?_
        rcases bifE h with⟨hc39,h⟩|⟨hc39,h⟩
        ·refine Qa hC [.br true,.n 17,.adopt 10 69 1,.sayO 69 (.arr 1 (([]:List Int).map Qe)),.say 10 (.own 69 ([]:List Int).length),.keep [1,5,9,10,60,61] [69,74]] rfl ⟨⟨⟨tt_,hc39⟩,rfl⟩,(congrArg (fun n=>V.own 69 n) (by simp))⟩ ?_
         obtain⟨l45,hl51,h⟩:=Qb h
         refine AK.loop (body:=(fun st=>QfJ arcs2 set_33 st.1 st.2)) (fun st σ=>σ=⟨[(1,.i .i64 arcs2),(5,.own 74 l34.length),(9,.i .i64 set_33),(10,.own 69 st.2.length),(60,.i .i64 arcs2),(61,.i .i64 st.1)],[(69,.arr 1 (st.2.map Qe)),(74,.arr 1 (l34.map Qu))]⟩) (fun q e σ=>e=.exit 7∧σ=⟨[(1,.i .i64 arcs2),(5,.own 74 l34.length),(9,.i .i64 set_33),(10,.own 69 q.length)],[(69,.arr 1 (q.map Qe)),(74,.arr 1 (l34.map Qu))]⟩) hl51 rfl ?_ ?_
         ·rintro ⟨x41,l42⟩ o σ rfl h
          replace h:QfJ arcs2 set_33 x41 l42=some o:=h
          unfold QfJ at h
          refine Qa hC [.n 6] rfl tt_ ?_
          rcases bifE h with⟨hc46,h⟩|⟨hc46,h⟩
          ·refine Qa hC [.br true,.n 2] rfl ⟨tt_,hc46⟩ ?_
           refine AK.meet (fun σ=>∃l47:(List Int),σ=⟨[(1,.i .i64 arcs2),(5,.own 74 l34.length),(9,.i .i64 set_33),(10,.own 69 l47.length),(60,.i .i64 arcs2),(61,.i .i64 x41)],[(69,.arr 1 (l47.map Qe)),(74,.arr 1 (l34.map Qu))]⟩∧QfI x41 l47=some o) ?_ ?_
           ·obtain⟨_,hk48,h⟩:=Qb h
            replace hk48:=chkE hk48
            refine Qa hC [.n 11,.o (.any (.i .i64 (shrI .i64 set_33 x41)) none),.o (.any (.i .i64 (andI .i64 (shrI .i64 set_33 x41) 1)) none),.n 3] rfl ⟨⟨tt_,(fun σ h1 h2 _=>Stp.shr rfl rfl (bleN hC.n rfl) (h1 _ _ rfl) (h1 _ _ rfl) (of_decide_eq_true hk48))⟩,(fun σ h1 h2 _=>Stp.andB rfl rfl (bleN hC.n rfl) (h1 _ _ rfl) (h1 _ _ rfl))⟩ ?_
            rcases bifE h with⟨hc49,h⟩|⟨hc49,h⟩
            ·obtain⟨_,hk50,h⟩:=Qb h
             replace hk50:=chkE hk50
             refine Qa hC [.br true,.n 3,.v (.bd []) [] (.sl 1 (([x41]:List Int).map Qe)),.app ((l42++([x41]:List Int)).map Qe) (l42++([x41]:List Int)).length,.n 3,.keep [1,5,9,10,60,61] [69,74]] rfl ⟨⟨⟨tt_,hc49⟩,rfl⟩,⟨Qj,Qgx hk50 Qj,QeQ,Qih Qj⟩⟩ ?_
             exact AK.met (ex_ _ (an_ rfl h))
            ·refine Qa hC [.br false,.n 2,.keep [1,5,9,10,60,61] [69,74]] rfl ⟨tt_,hc49⟩ ?_
             exact AK.met (ex_ _ (an_ rfl h))
           ·rintro σ ⟨l47,rfl,h⟩
            unfold QfI at h
            refine Qa hC [.n 4,.keep [1,5,9,10,60,61] [69,74]] rfl tt_ ?_
            cases h
            exact rndN rfl rfl
          ·refine Qa hC [.br false,.n 2,.keep [1,5,9,10] [69,74]] rfl ⟨tt_,hc46⟩ ?_
           cases h
           exact rndX rfl (an_ rfl rfl)
         ·replace h:QhS l34 set_33 l45=some o:=h
          unfold QhS at h
          rintro e σ ⟨rfl,rfl⟩
          obtain⟨_,hk52,h⟩:=Qb h
          replace hk52:=chkE hk52
          refine Qa hC [.n 5,.frz 69 (l45.map Qe) [10,75] [],.v (.bd []) [] (.sl 1 (([l45]:List (List Int)).map Qu)),.app ((l34++([l45]:List (List Int))).map Qu) (l34++([l45]:List (List Int))).length,.n 9,.keep [1,5,9] [74]] rfl ⟨⟨⟨tt_,⟨⟨tt_,(frzL Qj)⟩,(frzL Qj)⟩⟩,rfl⟩,⟨Qj,Qgx hk52 Qj,QeQ,Qih Qj⟩⟩ ?_
          cases h
          exact rndN rfl rfl
        ·refine Qa hC [.br false,.n 2,.keep [5] [74]] rfl ⟨tt_,hc39⟩ ?_
         cases h
         exact rndX rfl (an_ rfl rfl)
       ·replace h:Qhh l37=some r:=h
        unfold Qhh at h
        rintro e σ ⟨rfl,rfl⟩
        refine Qa hC [.n 2,.ren 74 40005,.keep [5] [40005]] rfl tt_ ?_
        exact AK.met (ex_ _ (an_ rfl h))
      ·refine Qa hC [.br false,.n 2,.adopt 5 40005 1,.sayO 40005 (.arr 1 (([]:List (List Int)).map Qu)),.say 5 (.own 40005 ([]:List (List Int)).length),.keep [5] [40005]] rfl ⟨⟨⟨tt_,hc31⟩,rfl⟩,(congrArg (fun n=>V.own 40005 n) (by simp))⟩ ?_
       exact AK.met (ex_ _ (an_ rfl h))
   ·rintro σ ⟨l10,rfl,h⟩
    unfold Qcy at h
    refine Qa hC [.n 7,.keep [4] [40005],.ren 40005 30000,.keep [4] [30000]] rfl tt_ ?_
    cases h
    exact AK.done (ex_ [_] (an_ (an_ rfl tt_) (gives ⟨rfl,tt_⟩)))
def QiT (n1:TNet)(t2:Qr):Option (TNet×Qr):=
 some (n1,t2)
theorem Qng (n1:TNet)(t2:Qr){r:(TNet×Qr)}(h:QiT n1 t2=some r):Qc Tryz.prog 26 [.agg (Qd n1),.agg (Qg t2)] [] (Qh (.clo (.func 62) [] [.loc 3 0 0,.loc 2 0 0]) [(2,.var (Qd r.1)),(3,.var (Qg r.2))]):=by
 refine Qc.walk 6 Tryz.func26 rfl Tryz.ntmps26 rfl fun C hC=>?_
 unfold QiT at h
 refine Qa hC [.n 14,.keep [4] [2,3]] rfl tt_ ?_
 cases h
 exact AK.done (ex_ [_] (an_ (an_ rfl tt_) (gives ⟨rfl,rfl,tt_⟩)))
def Qaj (s1:(List Int)):Option (List Int):=
 (chk (decide (([]:List Int).length+s1.length≤4294967296))).bind fun _=>
 some (([]:List Int)++s1)
theorem Qbq (s1:(List Int)){r:(List Int)}(h:Qaj s1=some r):Qc Tryz.prog 34 [.sl 1 (s1.map Qe)] [] (Qh (.own 30000 r.length) [(30000,.arr 1 (r.map Qe))]):=by
 refine Qc.walk 8 Tryz.func34 rfl Tryz.ntmps34 rfl fun C hC=>?_
 unfold Qaj at h
 refine Qa hC [.n 9] rfl tt_ ?_
 refine AK.eqNil rfl rfl rfl (bleN hC.n rfl) rfl rfl Quk ?_ ?_
 ·intro hz4
  replace h:some ([]:List Int)=some r:=by simpa [chk,List.map_eq_nil_iff.1 hz4] using h
  refine Qa hC [.n 10,.adopt 2 30000 1,.sayO 30000 (.arr 1 (([]:List Int).map Qe)),.say 2 (.own 30000 ([]:List Int).length),.keep [2] [30000]] rfl ⟨⟨tt_,rfl⟩,rfl⟩ ?_
  cases h
  exact AK.done (ex_ [_] (an_ (an_ rfl tt_) (gives ⟨rfl,tt_⟩)))
 ·obtain⟨_,hk5,h⟩:=Qb h
  replace hk5:=chkE hk5
  refine Qa hC [.n 8,.sayO 5 (.arr 1 (([]:List Int).map Qe)),.say 5 (.own 5 ([]:List Int).length),.n 1,.app ((([]:List Int)++s1).map Qe) (([]:List Int)++s1).length,.n 4,.keep [2] [5],.ren 5 30000,.keep [2] [30000]] rfl ⟨⟨⟨tt_,rfl⟩,rfl⟩,⟨Qj,Qgx hk5 Qj,QeQ,Qih Qj⟩⟩ ?_
  cases h
  exact AK.done (ex_ [_] (an_ (an_ rfl tt_) (gives ⟨rfl,tt_⟩)))
def Qgy (lo1:Int)(hi2:Int):Option Int:=
 bif (decide (hi2<lo1))then
 some 0
 else
 some (w64 ((w64 (min2 (IntKind.u64.wrap ((IntKind.u64.wrap hi2)-(IntKind.u64.wrap lo1))) 1024))+1))
theorem QoB (lo1:Int)(hi2:Int){r:Int}(h:Qgy lo1 hi2=some r):Qc Tryz.prog 220 [.i .i64 lo1,.i .i64 hi2] [] (Qh (.i .i64 r) []):=by
 refine Qc.walk 16 Tryz.func220 rfl Tryz.ntmps220 rfl fun C hC=>?_
 unfold Qgy at h
 refine Qa hC [.n 13] rfl tt_ ?_
 rcases bifE h with⟨hc5,h⟩|⟨hc5,h⟩
 ·refine Qa hC [.br true,.n 7,.keep [4] []] rfl ⟨tt_,hc5⟩ ?_
  cases h
  exact AK.done (ex_ [_] (an_ (an_ rfl tt_) (gives tt_)))
 ·refine Qa hC [.br false,.n 5,.o (.any (.i .u64 (IntKind.u64.wrap hi2)) none),.n 1,.o (.any (.i .u64 (IntKind.u64.wrap lo1)) none),.n 2,.o (.any (.i .i64 (w64 (min2 (IntKind.u64.wrap ((IntKind.u64.wrap hi2)-(IntKind.u64.wrap lo1))) 1024))) none),.n 5,.keep [4] []] rfl ⟨⟨⟨⟨tt_,hc5⟩,(fun σ h1 h2 _=>Stp.convI rfl rfl (bleN hC.n rfl) (h1 _ _ rfl) it_3 Qnf)⟩,(fun σ h1 h2 _=>Stp.convI rfl rfl (bleN hC.n rfl) (h1 _ _ rfl) it_3 Qnf)⟩,(fun σ h1 h2 _=>Stp.convI rfl rfl (bleN hC.n rfl) (h1 _ _ rfl) Qnf it_3)⟩ ?_
  cases h
  exact AK.done (ex_ [_] (an_ (an_ rfl tt_) (gives tt_)))
def Qdo (c1:Int):Option Bool:=
 some (bif (decide (97≤c1))then((decide (c1≤122))||((decide (65≤c1))&&(decide (c1≤90))))else((decide (65≤c1))&&(decide (c1≤90))))
theorem QjV (c1:Int){r:Bool}(h:Qdo c1=some r):Qc Tryz.prog 193 [.i .u8 c1] [] (Qh (.b r) []):=by
 refine Qc.walk 17 Tryz.func193 rfl Tryz.ntmps193 rfl fun C hC=>?_
 unfold Qdo at h
 refine Qa hC [.n 6] rfl tt_ ?_
 refine AK.meetX (fun σ=>σ=⟨[(2,.b (bif (decide (97≤c1))then((decide (c1≤122))||((decide (65≤c1))&&(decide (c1≤90))))else((decide (65≤c1))&&(decide (c1≤90)))))],[]⟩) ?_ ?_
 ·refine Qa hC [.n 4] rfl tt_ ?_
  rcases QI (decide (97≤c1))with hc4 | hc4
  ·refine Qa hC [.say 5 (.b true),.n 4] rfl ⟨tt_,(congrArg V.b hc4)⟩ ?_
   rcases QI (decide (c1≤122))with hc5 | hc5
   ·refine Qa hC [.say 9 (.b true),.n 9,.say 2 (.b (bif (decide (97≤c1))then((decide (c1≤122))||((decide (65≤c1))&&(decide (c1≤90))))else((decide (65≤c1))&&(decide (c1≤90))))),.keep [2] []] rfl ⟨⟨tt_,(congrArg V.b hc5)⟩,(congrArg V.b (bifT hc4 (orT hc5 rfl)))⟩ ?_
    exact AK.met rfl
   ·refine Qa hC [.say 9 (.b false),.n 3] rfl ⟨tt_,(congrArg V.b hc5)⟩ ?_
    rcases QI (decide (65≤c1))with hc6 | hc6
    ·refine Qa hC [.say 12 (.b true),.n 6,.say 2 (.b (bif (decide (97≤c1))then((decide (c1≤122))||((decide (65≤c1))&&(decide (c1≤90))))else((decide (65≤c1))&&(decide (c1≤90))))),.keep [2] []] rfl ⟨⟨tt_,(congrArg V.b hc6)⟩,(congrArg V.b (bifT hc4 (orF hc5 (andT hc6 rfl))))⟩ ?_
     exact AK.met rfl
    ·refine Qa hC [.say 12 (.b false),.n 6,.say 2 (.b (bif (decide (97≤c1))then((decide (c1≤122))||((decide (65≤c1))&&(decide (c1≤90))))else((decide (65≤c1))&&(decide (c1≤90))))),.keep [2] []] rfl ⟨⟨tt_,(congrArg V.b hc6)⟩,(congrArg V.b (bifT hc4 (orF hc5 (andF hc6 rfl))))⟩ ?_
     exact AK.met rfl
  ·refine Qa hC [.say 5 (.b false),.n 7] rfl ⟨tt_,(congrArg V.b hc4)⟩ ?_
   rcases QI (decide (65≤c1))with hc7 | hc7
   ·refine Qa hC [.say 12 (.b true),.n 6,.say 2 (.b (bif (decide (97≤c1))then((decide (c1≤122))||((decide (65≤c1))&&(decide (c1≤90))))else((decide (65≤c1))&&(decide (c1≤90))))),.keep [2] []] rfl ⟨⟨tt_,(congrArg V.b hc7)⟩,(congrArg V.b (bifF hc4 (andT hc7 rfl)))⟩ ?_
    exact AK.met rfl
   ·refine Qa hC [.say 12 (.b false),.n 6,.say 2 (.b (bif (decide (97≤c1))then((decide (c1≤122))||((decide (65≤c1))&&(decide (c1≤90))))else((decide (65≤c1))&&(decide (c1≤90))))),.keep [2] []] rfl ⟨⟨tt_,(congrArg V.b hc7)⟩,(congrArg V.b (bifF hc4 (andF hc7 rfl)))⟩ ?_
    exact AK.met rfl
 ·rintro σ rfl
  refine Qa hC [.n 2,.keep [2] []] rfl tt_ ?_
  cases h
  exact AK.done (ex_ [_] (an_ (an_ rfl tt_) (gives tt_)))
def Qis (s1:ByteArray):Option Bool:=
 bif (Qgj s1 (⟨#[]⟩:ByteArray))then
 some true
 else
 bif (decide (32<(s1.size:Int)))then
 some true
 else
 (sidx s1 0).bind fun c8=>
 (Qdo c8).bind fun x9=>
 some (!x9)
def Qit (c14:Int):Option Bool:=
 (Qdo c14).bind fun x17=>
 bif (!x17)then
 bif (decide (c14<48))then
 some (c14 != 95)
 else
 bif (decide (57<c14))then
 some (c14 != 95)
 else
 some false
 else
 some false
def Qeg (x11:Int)(x15:Bool):Option (Int⊕(Unit⊕Unit)):=
 bif x15 then
 some (.inr (.inl ()))
 else
 some (.inl (w64 (x11+1)))
def QcU (s1:ByteArray)(x11:Int):Option (Int⊕(Unit⊕Unit)):=
 bif (decide (x11<(s1.size:Int)))then
 (sidx s1 x11).bind fun c14=>
 (Qit c14).bind (fun x15=>Qeg x11 x15)
 else
 some (.inr (.inr ()))
def Qeh : Option Bool:=
 some false
def Qei : Option Bool:=
 some true
def Qej (s1:ByteArray)(x4:Bool):Option Bool:=
 bif x4 then
 some false
 else
 (QF (fun st=>QcU s1 st) 0).bind (Sum.elim (fun q=>Qeh) (fun q=>Qei))
def QdB (s1:ByteArray):Option Bool:=
 (Qis s1).bind (fun x4=>Qej s1 x4)
theorem Qiu (s1:ByteArray){r:Bool}(h:QdB s1=some r):Qc Tryz.prog 143 [.s s1] [] (Qh (.b r) []):=by
 refine Qc.walk 42 Tryz.func143 rfl Tryz.ntmps143 rfl fun C hC=>?_
 unfold QdB at h
 refine Qa hC [.n 7] rfl tt_ ?_
 obtain⟨x4,hv5,h⟩:=Qb h
 replace h:Qej s1 x4=some r:=h
 refine AK.meetX (fun σ=>σ=⟨[(0,.s s1),(17,.b x4)],[]⟩) ?_ ?_
 ·replace h:=hv5
  unfold Qis at h
  refine Qa hC [.n 4] rfl tt_ ?_
  rcases bifE h with⟨hc6,h⟩|⟨hc6,h⟩
  ·refine Qa hC [.say 7 (.b true),.n 11,.keep [0,17] []] rfl ⟨tt_,(congrArg V.b hc6)⟩ ?_
   cases h
   exact AK.met rfl
  ·refine Qa hC [.say 7 (.b false),.n 5] rfl ⟨tt_,(congrArg V.b hc6)⟩ ?_
   rcases bifE h with⟨hc7,h⟩|⟨hc7,h⟩
   ·refine Qa hC [.say 12 (.b true),.n 6,.keep [0,17] []] rfl ⟨tt_,(congrArg V.b hc7)⟩ ?_
    cases h
    exact AK.met rfl
   ·obtain⟨c8,hc8,h⟩:=Qb h
    obtain⟨x9,hx9,h⟩:=Qb h
    refine Qa hC [.say 12 (.b false),.n 1,.o (.num c8),.o (.c false [.d] (.b x9)),.n 3,.keep [0,17] []] rfl ⟨⟨⟨tt_,(congrArg V.b hc7)⟩,hc8⟩,(QjV _ hx9)⟩ ?_
    cases h
    exact AK.met rfl
 ·rintro σ rfl
  replace h:Qej s1 x4=some r:=h
  unfold Qej at h
  refine Qa hC [.n 1] rfl tt_ ?_
  rcases bifE h with⟨hc10,h⟩|⟨hc10,h⟩
  ·refine Qa hC [.br true,.n 7,.keep [2] []] rfl ⟨tt_,hc10⟩ ?_
   cases h
   exact AK.done (ex_ [_] (an_ (an_ rfl tt_) (gives tt_)))
  ·refine Qa hC [.br false,.n 11,.keep [0,19,20] []] rfl ⟨tt_,hc10⟩ ?_
   obtain⟨o22,hl22,h⟩:=Qb h
   refine AK.loop (body:=(fun st=>QcU s1 st)) (fun st σ=>σ=⟨[(0,.s s1),(19,.i .i64 (s1.size:Int)),(20,.i .i64 st)],[]⟩) (Sum.elim (fun q e σ=>e=.ret∧σ=⟨[(2,.b false)],[]⟩) (fun q e σ=>e=.exit 0∧σ=⟨[],[]⟩)) hl22 rfl ?_ ?_
   ·rintro x11 o σ rfl h
    replace h:QcU s1 x11=some o:=h
    unfold QcU at h
    refine Qa hC [.n 6] rfl tt_ ?_
    rcases bifE h with⟨hc13,h⟩|⟨hc13,h⟩
    ·obtain⟨c14,hc14,h⟩:=Qb h
     refine Qa hC [.br true,.n 14,.o (.num c14),.n 4] rfl ⟨⟨tt_,hc13⟩,hc14⟩ ?_
     obtain⟨x15,hv16,h⟩:=Qb h
     replace h:Qeg x11 x15=some o:=h
     refine AK.meetX (fun σ=>σ=⟨[(0,.s s1),(19,.i .i64 (s1.size:Int)),(20,.i .i64 x11),(40,.b x15)],[]⟩) ?_ ?_
     ·replace h:=hv16
      unfold Qit at h
      obtain⟨x17,hx17,h⟩:=Qb h
      refine Qa hC [.n 2,.o (.c false [.d] (.b x17)),.n 2] rfl ⟨tt_,(QjV _ hx17)⟩ ?_
      rcases bifE h with⟨hc18,h⟩|⟨hc18,h⟩
      ·refine Qa hC [.say 29 (.b true),.n 3] rfl ⟨tt_,(congrArg V.b hc18)⟩ ?_
       rcases bifE h with⟨hc19,h⟩|⟨hc19,h⟩
       ·refine Qa hC [.say 32 (.b true),.n 9,.keep [0,19,20,40] []] rfl ⟨tt_,(congrArg V.b hc19)⟩ ?_
        cases h
        exact AK.met rfl
       ·refine Qa hC [.say 32 (.b false),.n 5] rfl ⟨tt_,(congrArg V.b hc19)⟩ ?_
        rcases bifE h with⟨hc20,h⟩|⟨hc20,h⟩
        ·refine Qa hC [.say 37 (.b true),.n 4,.keep [0,19,20,40] []] rfl ⟨tt_,(congrArg V.b hc20)⟩ ?_
         cases h
         exact AK.met rfl
        ·refine Qa hC [.say 37 (.b false),.n 4,.keep [0,19,20,40] []] rfl ⟨tt_,(congrArg V.b hc20)⟩ ?_
         cases h
         exact AK.met rfl
      ·refine Qa hC [.say 29 (.b false),.n 12,.keep [0,19,20,40] []] rfl ⟨tt_,(congrArg V.b hc18)⟩ ?_
       cases h
       exact AK.met rfl
     ·rintro σ rfl
      replace h:Qeg x11 x15=some o:=h
      unfold Qeg at h
      refine Qa hC [.n 1] rfl tt_ ?_
      rcases bifE h with⟨hc21,h⟩|⟨hc21,h⟩
      ·refine Qa hC [.br true,.n 8,.keep [2] []] rfl ⟨tt_,hc21⟩ ?_
       cases h
       exact rndR rfl (an_ rfl rfl)
      ·refine Qa hC [.br false,.n 7,.keep [0,19,20] []] rfl ⟨tt_,hc21⟩ ?_
       cases h
       exact rndN rfl rfl
    ·refine Qa hC [.br false,.n 2,.keep [] []] rfl ⟨tt_,hc13⟩ ?_
     cases h
     exact rndX rfl (an_ rfl rfl)
   ·rcases o22 with(_ | _)
    ·replace h:Qeh=some r:=h
     unfold Qeh at h
     rintro e σ ⟨rfl,rfl⟩
     refine Qa hC [.n 2,.keep [2] []] rfl tt_ ?_
     cases h
     exact AK.done (ex_ [_] (an_ (an_ rfl tt_) (gives tt_)))
    ·replace h:Qei=some r:=h
     unfold Qei at h
     rintro e σ ⟨rfl,rfl⟩
     refine Qa hC [.n 8,.keep [2] []] rfl tt_ ?_
     cases h
     exact AK.done (ex_ [_] (an_ (an_ rfl tt_) (gives tt_)))
def QhT (e10:ByteArray)(m6:(List (ByteArray×Bool))):Option Bool:=
 (QdB e10).bind fun x13=>
 bif (!x13)then
 some true
 else
 some ((mget m6 e10).getD false)
def QdF (x5:Int)(m6:(List (ByteArray×Bool)))(e10:ByteArray)(x11:Bool):Option ((Int×(List (ByteArray×Bool)))⊕(Unit⊕Unit)):=
 bif x11 then
 some (.inr (.inl ()))
 else
 some (.inl ((w64 (x5+1)),(mset ltS m6 e10 true)))
def Qcz (l1:(List ByteArray))(x5:Int)(m6:(List (ByteArray×Bool))):Option ((Int×(List (ByteArray×Bool)))⊕(Unit⊕Unit)):=
 bif (decide (x5<(l1.length:Int)))then
 (idx l1 x5).bind fun e10=>
 (QhT e10 m6).bind (fun x11=>QdF x5 m6 e10 x11)
 else
 some (.inr (.inr ()))
def QdG : Option Bool:=
 some false
def QdH : Option Bool:=
 some true
def QfR (l1:(List ByteArray)):Option Bool:=
 (QF (fun st=>Qcz l1 st.1 st.2) (0,([]:(List (ByteArray×Bool))))).bind (Sum.elim (fun q=>QdG) (fun q=>QdH))
theorem QnX (l1:(List ByteArray)){r:Bool}(h:QfR l1=some r):Qc Tryz.prog 221 [.sl 1 (l1.map Qc1)] [] (Qh (.b r) []):=by
 refine Qc.walk 24 Tryz.func221 rfl Tryz.ntmps221 rfl fun C hC=>?_
 unfold QfR at h
 refine Qa hC [.n 8,.sayO 6 (.map (mapV V.s V.b ([]:(List (ByteArray×Bool))))),.n 7,.o (.ln l1.length),.n 4,.keep [3,7,8,9] [6]] rfl ⟨⟨tt_,rfl⟩,Qj⟩ ?_
 obtain⟨o16,hl16,h⟩:=Qb h
 refine AK.loop (body:=(fun st=>Qcz l1 st.1 st.2)) (fun st σ=>σ=⟨[(3,.map 6),(7,.sl 1 (l1.map Qc1)),(8,.i .i64 (l1.length:Int)),(9,.i .i64 st.1)],[(6,.map (mapV V.s V.b st.2))]⟩) (Sum.elim (fun q e σ=>e=.ret∧σ=⟨[(2,.b false)],[]⟩) (fun q e σ=>e=.exit 0∧σ=⟨[],[]⟩)) hl16 rfl ?_ ?_
 ·rintro ⟨x5,m6⟩ o σ rfl h
  replace h:Qcz l1 x5 m6=some o:=h
  unfold Qcz at h
  refine Qa hC [.n 6] rfl tt_ ?_
  rcases bifE h with⟨hc9,h⟩|⟨hc9,h⟩
  ·obtain⟨e10,he10,h⟩:=Qb h
   refine Qa hC [.br true,.n 6,.o (.row (Qc1 e10)),.n 6] rfl ⟨⟨tt_,hc9⟩,(idxM he10)⟩ ?_
   obtain⟨x11,hv12,h⟩:=Qb h
   replace h:QdF x5 m6 e10 x11=some o:=h
   refine AK.meetX (fun σ=>σ=⟨[(3,.map 6),(5,.s e10),(7,.sl 1 (l1.map Qc1)),(8,.i .i64 (l1.length:Int)),(9,.i .i64 x5),(20,.b x11)],[(6,.map (mapV V.s V.b m6))]⟩) ?_ ?_
   ·replace h:=hv12
    unfold QhT at h
    obtain⟨x13,hx13,h⟩:=Qb h
    refine Qa hC [.n 2,.o (.c false [.d] (.b x13)),.n 2] rfl ⟨tt_,(Qiu _ hx13)⟩ ?_
    rcases bifE h with⟨hc14,h⟩|⟨hc14,h⟩
    ·refine Qa hC [.say 16 (.b true),.n 5,.keep [3,5,7,8,9,20] [6]] rfl ⟨tt_,(congrArg V.b hc14)⟩ ?_
     cases h
     exact AK.met rfl
    ·refine Qa hC [.say 16 (.b false),.n 2,.o (.any (.b ((mget m6 e10).getD false)) none),.n 2,.keep [3,5,7,8,9,20] [6]] rfl ⟨⟨tt_,(congrArg V.b hc14)⟩,(fun σ h1 h2 _=>Stp.lookup (e:=V.s) (f:=V.b) (l:=m6) (k:=e10) (z:=false) rfl rfl (bleN hC.n rfl) (h1 _ _ rfl) (h2 _ _ rfl) (h1 _ _ rfl) Qpk ky_9 zi_4 rfl)⟩ ?_
     cases h
     exact AK.met rfl
   ·rintro σ rfl
    replace h:QdF x5 m6 e10 x11=some o:=h
    unfold QdF at h
    refine Qa hC [.n 1] rfl tt_ ?_
    rcases bifE h with⟨hc15,h⟩|⟨hc15,h⟩
    ·refine Qa hC [.br true,.n 9,.keep [2] []] rfl ⟨tt_,hc15⟩ ?_
     cases h
     exact rndR rfl (an_ rfl rfl)
    ·refine Qa hC [.br false,.n 5,.x (fun σ=>σ.set 6 (.map (mapV V.s V.b (mset ltS m6 e10 true)))),.n 7,.keep [3,7,8,9] [6]] rfl ⟨⟨tt_,hc15⟩,(Stp.mapUpdate (e:=V.s) (f:=V.b) (l:=m6) (k:=e10) (v:=true) ltS rfl rfl rfl rfl rfl rfl Qpk ky_9 rfl)⟩ ?_
     cases h
     exact rndN rfl rfl
  ·refine Qa hC [.br false,.n 2,.keep [] []] rfl ⟨tt_,hc9⟩ ?_
   cases h
   exact rndX rfl (an_ rfl rfl)
 ·rcases o16 with(_ | _)
  ·replace h:QdG=some r:=h
   unfold QdG at h
   rintro e σ ⟨rfl,rfl⟩
   refine Qa hC [.n 2,.keep [2] []] rfl tt_ ?_
   cases h
   exact AK.done (ex_ [_] (an_ (an_ rfl tt_) (gives tt_)))
  ·replace h:QdH=some r:=h
   unfold QdH at h
   rintro e σ ⟨rfl,rfl⟩
   refine Qa hC [.n 8,.keep [2] []] rfl tt_ ?_
   cases h
   exact AK.done (ex_ [_] (an_ (an_ rfl tt_) (gives tt_)))
def Qby : Option Int:=
 some 0
def Qgz (c1:Qw)(ahead2:(List Int)):Option Int:=
 bif (c1.Kind==1)then
 (Qgy c1.Lo c1.Hi).bind fun x6=>
 some x6
 else
 bif (c1.Kind==2)then
 (QfR c1.Names).bind fun x8=>
 bif x8 then
 some (c1.Names.length:Int)
 else
 Qby
 else
 bif (c1.Kind==3)then
 bif ((decide (0≤(min2 c1.First c1.Then)))&&(decide ((max2 c1.First c1.Then)<(ahead2.length:Int))))then
 (idx ahead2 c1.First).bind fun e14=>
 (idx ahead2 c1.Then).bind fun e15=>
 some (w64 (e14*e15))
 else
 Qby
 else
 Qby
theorem QoC (c1:Qw)(ahead2:(List Int)){r:Int}(h:Qgz c1 ahead2=some r):Qc Tryz.prog 196 [.agg (Qt c1),.sl 1 (ahead2.map Qe)] [] (Qh (.i .i64 r) []):=by
 refine Qc.walk 51 Tryz.func196 rfl Tryz.ntmps196 rfl fun C hC=>?_
 unfold Qgz at h
 refine Qa hC [.n 6] rfl tt_ ?_
 refine AK.meet (fun σ=>σ=⟨[],[]⟩∧Qby=some r) ?_ ?_
 ·refine Qa hC [.n 13] rfl tt_ ?_
  rcases bifE h with⟨hc5,h⟩|⟨hc5,h⟩
  ·obtain⟨x6,hx6,h⟩:=Qb h
   refine Qa hC [.br true,.n 6,.o (.c false [.d,.d] (.i .i64 x6)),.n 6,.keep [4] []] rfl ⟨⟨tt_,hc5⟩,(QoB _ _ hx6)⟩ ?_
   cases h
   exact AK.done (ex_ [_] (an_ (an_ rfl tt_) (gives tt_)))
  ·refine Qa hC [.br false,.n 6] rfl ⟨tt_,hc5⟩ ?_
   rcases bifE h with⟨hc7,h⟩|⟨hc7,h⟩
   ·obtain⟨x8,hx8,h⟩:=Qb h
    refine Qa hC [.br true,.n 4,.o (.c false [.d] (.b x8)),.n 2] rfl ⟨⟨tt_,hc7⟩,(QnX _ hx8)⟩ ?_
    rcases bifE h with⟨hc9,h⟩|⟨hc9,h⟩
    ·refine Qa hC [.br true,.n 4,.o (.ln c1.Names.length),.n 6,.keep [4] []] rfl ⟨⟨tt_,hc9⟩,Qj⟩ ?_
     cases h
     exact AK.done (ex_ [_] (an_ (an_ rfl tt_) (gives tt_)))
    ·refine Qa hC [.br false,.n 2,.keep [] []] rfl ⟨tt_,hc9⟩ ?_
     exact AK.met (an_ rfl h)
   ·refine Qa hC [.br false,.n 6] rfl ⟨tt_,hc7⟩ ?_
    rcases bifE h with⟨hc10,h⟩|⟨hc10,h⟩
    ·refine Qa hC [.br true,.n 1] rfl ⟨tt_,hc10⟩ ?_
     refine AK.meetX (fun σ=>σ=⟨[(1,.sl 1 (ahead2.map Qe)),(2,.loc 2 0 0),(39,.b ((decide (0≤(min2 c1.First c1.Then)))&&(decide ((max2 c1.First c1.Then)<(ahead2.length:Int)))))],[(2,.var (Qt c1))]⟩) ?_ ?_
     ·refine Qa hC [.n 8] rfl tt_ ?_
      rcases QI (decide (0≤(min2 c1.First c1.Then)))with hc12 | hc12
      ·refine Qa hC [.say 30 (.b true),.n 6,.o (.ln ahead2.length),.n 3,.say 39 (.b ((decide (0≤(min2 c1.First c1.Then)))&&(decide ((max2 c1.First c1.Then)<(ahead2.length:Int))))),.keep [1,2,39] [2]] rfl ⟨⟨⟨tt_,(congrArg V.b hc12)⟩,Qj⟩,(congrArg V.b (andT hc12 rfl))⟩ ?_
       exact AK.met rfl
      ·refine Qa hC [.say 30 (.b false),.n 10,.say 39 (.b ((decide (0≤(min2 c1.First c1.Then)))&&(decide ((max2 c1.First c1.Then)<(ahead2.length:Int))))),.keep [1,2,39] [2]] rfl ⟨⟨tt_,(congrArg V.b hc12)⟩,(congrArg V.b (andF hc12 rfl))⟩ ?_
       exact AK.met rfl
     ·rintro σ rfl
      refine Qa hC [.n 1] rfl tt_ ?_
      rcases bifE h with⟨hc13,h⟩|⟨hc13,h⟩
      ·obtain⟨e14,he14,h⟩:=Qb h
       obtain⟨e15,he15,h⟩:=Qb h
       refine Qa hC [.br true,.n 1,.keep [1,2] [2]] rfl ⟨tt_,hc13⟩ ?_
       refine AK.draw2 Qo hC mixed [.a .no none false,.a .no none false,.a .no none false,.a (.row (Qe e14)) none false,.a .no none false,.a .no none false,.a .no none false,.a .no none false,.a (.row (Qe e15)) none false,.a .no none false,.a .no none false,.a .no none false] [] [] [4] [] rfl rfl rfl ⟨⟨tt_,(idxM he14)⟩,(idxM he15)⟩ rfl (by kernel_rfl) rfl rfl rfl ?_
       refine Qa hC [.n 4,.keep [4] []] rfl tt_ ?_
       cases h
       exact AK.done (ex_ [_] (an_ (an_ rfl tt_) (gives tt_)))
      ·refine Qa hC [.br false,.n 2,.keep [] []] rfl ⟨tt_,hc13⟩ ?_
       exact AK.met (an_ rfl h)
    ·refine Qa hC [.br false,.n 2,.keep [] []] rfl ⟨tt_,hc10⟩ ?_
     exact AK.met (an_ rfl h)
 ·rintro σ ⟨rfl,h⟩
  unfold Qby at h
  refine Qa hC [.n 6,.keep [4] []] rfl tt_ ?_
  cases h
  exact AK.done (ex_ [_] (an_ (an_ rfl tt_) (gives tt_)))
def QhU (e16:Qw)(m9:(List (ByteArray×Bool)))(x17:Int):Option Bool:=
 (QdB e16.Name).bind fun x20=>
 bif (!x20)then
 some true
 else
 bif ((mget m9 e16.Name).getD false)then
 some true
 else
 bif (decide (x17<1))then
 some true
 else
 some (decide (1024<x17))
def QdI (l10:(List Int))(x17:Int)(x8:Int)(m9:(List (ByteArray×Bool)))(e16:Qw)(x18:Bool):Option ((Int×(List (ByteArray×Bool))×(List Int))⊕(Unit⊕(List Int))):=
 bif x18 then
 some (.inr (.inl ()))
 else
 (chk (decide (l10.length+([x17]:List Int).length≤4294967296))).bind fun _=>
 some (.inl ((w64 (x8+1)),(mset ltS m9 e16.Name true),(l10++([x17]:List Int))))
def QcA (l1:(List Qw))(x8:Int)(m9:(List (ByteArray×Bool)))(l10:(List Int)):Option ((Int×(List (ByteArray×Bool))×(List Int))⊕(Unit⊕(List Int))):=
 bif (decide (x8<(l1.length:Int)))then
 (idx l1 x8).bind fun e16=>
 (Qgz e16 l10).bind fun x17=>
 (QhU e16 m9 x17).bind (fun x18=>QdI l10 x17 x8 m9 e16 x18)
 else
 some (.inr (.inr l10))
def QhV : Option ((List Int)×Bool):=
 some (([]:List Int),false)
def QhW (l14:(List Int)):Option ((List Int)×Bool):=
 some (l14,true)
def Qd1 (l1:(List Qw)):Option ((List Int)×Bool):=
 bif (decide (32<(l1.length:Int)))then
 some (([]:List Int),false)
 else
 (QF (fun st=>QcA l1 st.1 st.2.1 st.2.2) (0,([]:(List (ByteArray×Bool))),([]:List Int))).bind (Sum.elim (fun q=>QhV) (fun q=>QhW q))
theorem Qkc (l1:(List Qw)){r:((List Int)×Bool)}(h:Qd1 l1=some r):Qc Tryz.prog 146 [.sl 7 (l1.map Qt)] [] (Qh (.tup [.sl 1 (r.1.map Qe),.b r.2]) []):=by
 refine Qc.walk 49 Tryz.func146 rfl Tryz.ntmps146 rfl fun C hC=>?_
 unfold Qd1 at h
 refine Qa hC [.n 10,.o (.ln l1.length),.n 3] rfl ⟨tt_,Qj⟩ ?_
 rcases bifE h with⟨hc6,h⟩|⟨hc6,h⟩
 ·refine Qa hC [.br true,.n 8,.denil 2 [some 1],.keep [2,3] []] rfl ⟨tt_,hc6⟩ ?_
  cases h
  exact AK.done (ex_ [_,_] (an_ (an_ rfl (an_ rfl tt_)) (gives tt_)))
 ·refine Qa hC [.br false,.n 5,.sayO 12 (.map (mapV V.s V.b ([]:(List (ByteArray×Bool))))),.n 12,.o (.ln l1.length),.n 4,.adopt 5 43 1,.sayO 43 (.arr 1 (([]:List Int).map Qe)),.say 5 (.own 43 ([]:List Int).length),.keep [4,5,13,14,15] [12,43]] rfl ⟨⟨⟨⟨⟨tt_,hc6⟩,rfl⟩,Qj⟩,rfl⟩,(congrArg (fun n=>V.own 43 n) (by simp))⟩ ?_
  obtain⟨o26,hl26,h⟩:=Qb h
  refine AK.loop (body:=(fun st=>QcA l1 st.1 st.2.1 st.2.2)) (fun st σ=>σ=⟨[(4,.map 12),(5,.own 43 st.2.2.length),(13,.sl 7 (l1.map Qt)),(14,.i .i64 (l1.length:Int)),(15,.i .i64 st.1)],[(12,.map (mapV V.s V.b st.2.1)),(43,.arr 1 (st.2.2.map Qe))]⟩) (Sum.elim (fun q e σ=>e=.ret∧σ=⟨[(2,.lit (.slice none 0 0)),(3,.b false)],[]⟩) (fun q e σ=>e=.exit 0∧σ=⟨[(5,.own 43 q.length)],[(43,.arr 1 (q.map Qe))]⟩)) hl26 rfl ?_ ?_
  ·rintro ⟨x8,m9,l10⟩ o σ rfl h
   replace h:QcA l1 x8 m9 l10=some o:=h
   unfold QcA at h
   refine Qa hC [.n 6] rfl tt_ ?_
   rcases bifE h with⟨hc15,h⟩|⟨hc15,h⟩
   ·obtain⟨e16,he16,h⟩:=Qb h
    obtain⟨x17,hx17,h⟩:=Qb h
    refine Qa hC [.br true,.n 6,.o (.row (Qt e16)),.v .no [] (.agg (Qt e16)),.n 2,.sayO 7 (.var (Qt e16)),.n 4,.v .no [] (.agg (Qt e16)),.n 1,.o (.c true [.d,.o (l10.map Qe)] (.i .i64 x17)),.n 5] rfl ⟨⟨⟨⟨⟨⟨tt_,hc15⟩,(idxM he16)⟩,rfl⟩,rfl⟩,rfl⟩,⟨(QpP rfl),(QoC _ _ hx17)⟩⟩ ?_
    obtain⟨x18,hv19,h⟩:=Qb h
    replace h:QdI l10 x17 x8 m9 e16 x18=some o:=h
    refine AK.meetX (fun σ=>σ=⟨[(4,.map 12),(5,.own 43 l10.length),(7,.loc 7 0 0),(8,.i .i64 x17),(13,.sl 7 (l1.map Qt)),(14,.i .i64 (l1.length:Int)),(15,.i .i64 x8),(39,.b x18)],[(7,.var (Qt e16)),(12,.map (mapV V.s V.b m9)),(43,.arr 1 (l10.map Qe))]⟩) ?_ ?_
    ·replace h:=hv19
     unfold QhU at h
     obtain⟨x20,hx20,h⟩:=Qb h
     refine Qa hC [.n 3,.o (.c false [.d] (.b x20)),.n 2] rfl ⟨tt_,(Qiu _ hx20)⟩ ?_
     rcases bifE h with⟨hc21,h⟩|⟨hc21,h⟩
     ·refine Qa hC [.say 26 (.b true),.n 14,.keep [4,5,7,8,13,14,15,39] [7,12,43]] rfl ⟨tt_,(congrArg V.b hc21)⟩ ?_
      cases h
      exact AK.met rfl
     ·refine Qa hC [.say 26 (.b false),.n 3,.o (.any (.b ((mget m9 e16.Name).getD false)) none),.n 2] rfl ⟨⟨tt_,(congrArg V.b hc21)⟩,(fun σ h1 h2 _=>Stp.lookup (e:=V.s) (f:=V.b) (l:=m9) (k:=e16.Name) (z:=false) rfl rfl (bleN hC.n rfl) (h1 _ _ rfl) (h2 _ _ rfl) (h1 _ _ rfl) Qpk ky_9 zi_4 rfl)⟩ ?_
      rcases bifE h with⟨hc22,h⟩|⟨hc22,h⟩
      ·refine Qa hC [.say 32 (.b true),.n 8,.keep [4,5,7,8,13,14,15,39] [7,12,43]] rfl ⟨tt_,(congrArg V.b hc22)⟩ ?_
       cases h
       exact AK.met rfl
      ·refine Qa hC [.say 32 (.b false),.n 4] rfl ⟨tt_,(congrArg V.b hc22)⟩ ?_
       rcases bifE h with⟨hc23,h⟩|⟨hc23,h⟩
       ·refine Qa hC [.say 36 (.b true),.n 4,.keep [4,5,7,8,13,14,15,39] [7,12,43]] rfl ⟨tt_,(congrArg V.b hc23)⟩ ?_
        cases h
        exact AK.met rfl
       ·refine Qa hC [.say 36 (.b false),.n 4,.keep [4,5,7,8,13,14,15,39] [7,12,43]] rfl ⟨tt_,(congrArg V.b hc23)⟩ ?_
        cases h
        exact AK.met rfl
    ·rintro σ rfl
     replace h:QdI l10 x17 x8 m9 e16 x18=some o:=h
     unfold QdI at h
     refine Qa hC [.n 1] rfl tt_ ?_
     rcases bifE h with⟨hc24,h⟩|⟨hc24,h⟩
     ·refine Qa hC [.br true,.n 10,.keep [2,3] []] rfl ⟨tt_,hc24⟩ ?_
      cases h
      exact rndR rfl (an_ rfl rfl)
     ·obtain⟨_,hk25,h⟩:=Qb h
      replace hk25:=chkE hk25
      refine Qa hC [.br false,.n 7,.x (fun σ=>σ.set 12 (.map (mapV V.s V.b (mset ltS m9 e16.Name true)))),.n 5,.v (.bd []) [] (.sl 1 (([x17]:List Int).map Qe)),.app ((l10++([x17]:List Int)).map Qe) (l10++([x17]:List Int)).length,.n 8,.keep [4,5,13,14,15] [12,43]] rfl ⟨⟨⟨⟨tt_,hc24⟩,(Stp.mapUpdate (e:=V.s) (f:=V.b) (l:=m9) (k:=e16.Name) (v:=true) ltS rfl rfl rfl rfl rfl rfl Qpk ky_9 rfl)⟩,rfl⟩,⟨Qj,Qgx hk25 Qj,QeQ,Qih Qj⟩⟩ ?_
      cases h
      exact rndN rfl rfl
   ·refine Qa hC [.br false,.n 2,.keep [5] [43]] rfl ⟨tt_,hc15⟩ ?_
    cases h
    exact rndX rfl (an_ rfl rfl)
  ·rcases o26 with(_ | l14)
   ·replace h:QhV=some r:=h
    unfold QhV at h
    rintro e σ ⟨rfl,rfl⟩
    refine Qa hC [.n 2,.denil 2 [some 1],.keep [2,3] []] rfl tt_ ?_
    cases h
    exact AK.done (ex_ [_,_] (an_ (an_ rfl (an_ rfl tt_)) (gives tt_)))
   ·replace h:QhW l14=some r:=h
    unfold QhW at h
    rintro e σ ⟨rfl,rfl⟩
    refine Qa hC [.n 10,.frz 43 (l14.map Qe) [2] [],.keep [2,3] []] rfl ⟨tt_,⟨tt_,(frzL Qj)⟩⟩ ?_
    cases h
    exact AK.done (ex_ [_,_] (an_ (an_ rfl (an_ rfl tt_)) (gives tt_)))
def QdZ (l1:(List Qw))(k2:Int):Option (Bool×Q8):=
 (Qd1 l1).bind fun x7=>
 bif ((!x7.2)||((decide (k2<0))||(decide ((l1.length:Int)≤k2))))then
 some (false,(Q8.mk ([]:(List Qw)) ([]:(List Int)) 0))
 else
 some (true,(Q8.mk l1 x7.1 k2))
theorem Qjw (l1:(List Qw))(k2:Int){r:(Bool×Q8)}(h:QdZ l1 k2=some r):Qc Tryz.prog 124 [.sl 7 (l1.map Qt),.i .i64 k2] [] (Qh (.tup [.agg (QJ r.2),.b r.1]) []):=by
 refine Qc.walk 30 Tryz.func124 rfl Tryz.ntmps124 rfl fun C hC=>?_
 unfold QdZ at h
 obtain⟨x7,hx7,h⟩:=Qb h
 refine Qa hC [.n 9,.o (.c false [.d] (.tup [.sl 1 (x7.1.map Qe),.b x7.2])),.n 9] rfl ⟨tt_,(Qkc _ hx7)⟩ ?_
 refine AK.meetX (fun σ=>σ=⟨[(0,.sl 7 (l1.map Qt)),(1,.i .i64 k2),(4,.loc 4 0 0),(6,.sl 1 (x7.1.map Qe)),(24,.b ((!x7.2)||((decide (k2<0))||(decide ((l1.length:Int)≤k2)))))],[(4,.var [.lit (.slice none 0 0),.lit (.slice none 0 0),.i .i64 0])]⟩) ?_ ?_
 ·refine Qa hC [.n 4] rfl tt_ ?_
  rcases QI (!x7.2)with hc9 | hc9
  ·refine Qa hC [.say 15 (.b true),.n 10,.say 24 (.b ((!x7.2)||((decide (k2<0))||(decide ((l1.length:Int)≤k2))))),.keep [0,1,4,6,24] [4]] rfl ⟨⟨tt_,(congrArg V.b hc9)⟩,(congrArg V.b (orT hc9 rfl))⟩ ?_
   exact AK.met rfl
  ·refine Qa hC [.say 15 (.b false),.n 4] rfl ⟨tt_,(congrArg V.b hc9)⟩ ?_
   rcases QI (decide (k2<0))with hc10 | hc10
   ·refine Qa hC [.say 19 (.b true),.n 6,.say 24 (.b ((!x7.2)||((decide (k2<0))||(decide ((l1.length:Int)≤k2))))),.keep [0,1,4,6,24] [4]] rfl ⟨⟨tt_,(congrArg V.b hc10)⟩,(congrArg V.b (orF hc9 (orT hc10 rfl)))⟩ ?_
    exact AK.met rfl
   ·refine Qa hC [.say 19 (.b false),.n 2,.o (.ln l1.length),.n 3,.say 24 (.b ((!x7.2)||((decide (k2<0))||(decide ((l1.length:Int)≤k2))))),.keep [0,1,4,6,24] [4]] rfl ⟨⟨⟨tt_,(congrArg V.b hc10)⟩,Qj⟩,(congrArg V.b (orF hc9 (orF hc10 rfl)))⟩ ?_
    exact AK.met rfl
 ·rintro σ rfl
  refine Qa hC [.n 1] rfl tt_ ?_
  rcases bifE h with⟨hc11,h⟩|⟨hc11,h⟩
  ·refine Qa hC [.br true,.n 2,.v .no [some 7,some 1,none] (.agg (QJ (Q8.mk ([]:(List Qw)) ([]:(List Int)) 0))),.n 1,.sayO 4 (.var (QJ (Q8.mk ([]:(List Qw)) ([]:(List Int)) 0))),.n 5,.keep [4,5] [4]] rfl ⟨⟨⟨tt_,hc11⟩,rfl⟩,rfl⟩ ?_
   cases h
   exact AK.done (ex_ [_,_] (an_ (an_ (ex_ _ (ex_ _ (an_ rfl (an_ rfl (Or.inl (an_ (Qo.ag rfl) (an_ (Qo.sz rfl) rfl))))))) (an_ rfl tt_)) (gives tt_)))
  ·refine Qa hC [.br false,.n 7,.v .no [] (.agg (QJ (Q8.mk l1 x7.1 k2))),.n 1,.sayO 4 (.var (QJ (Q8.mk l1 x7.1 k2))),.n 4,.keep [4,5] [4]] rfl ⟨⟨⟨tt_,hc11⟩,rfl⟩,rfl⟩ ?_
   cases h
   exact AK.done (ex_ [_,_] (an_ (an_ (ex_ _ (ex_ _ (an_ rfl (an_ rfl (Or.inl (an_ (Qo.ag rfl) (an_ (Qo.sz rfl) rfl))))))) (an_ rfl tt_)) (gives tt_)))
def QeH (m2:Int)(s1:Q8):Option Bool:=
 bif (decide (0≤m2))then
 (idx s1.sizes s1.k).bind fun e7=>
 some (decide (m2<e7))
 else
 some false
def QeI (x4:Bool):Option Bool:=
 some x4
def Qb5 (s1:Q8)(m2:Int):Option Bool:=
 (QeH m2 s1).bind (fun x4=>QeI x4)
theorem Qjt (s1:Q8)(m2:Int){r:Bool}(h:Qb5 s1 m2=some r):Qc Tryz.prog 141 [.agg (QJ s1),.i .i64 m2] [] (Qh (.b r) []):=by
 refine Qc.walk 17 Tryz.func141 rfl Tryz.ntmps141 rfl fun C hC=>?_
 unfold Qb5 at h
 refine Qa hC [.n 7] rfl tt_ ?_
 obtain⟨x4,hv5,h⟩:=Qb h
 replace h:QeI x4=some r:=h
 refine AK.meetX (fun σ=>σ=⟨[(4,.b x4)],[]⟩) ?_ ?_
 ·replace h:=hv5
  unfold QeH at h
  refine Qa hC [.n 4] rfl tt_ ?_
  rcases bifE h with⟨hc6,h⟩|⟨hc6,h⟩
  ·obtain⟨e7,he7,h⟩:=Qb h
   refine Qa hC [.say 7 (.b true),.n 5,.o (.row (Qe e7)),.n 5,.keep [4] []] rfl ⟨⟨tt_,(congrArg V.b hc6)⟩,(idxM he7)⟩ ?_
   cases h
   exact AK.met rfl
  ·refine Qa hC [.say 7 (.b false),.n 11,.keep [4] []] rfl ⟨tt_,(congrArg V.b hc6)⟩ ?_
   cases h
   exact AK.met rfl
 ·rintro σ rfl
  replace h:QeI x4=some r:=h
  unfold QeI at h
  refine Qa hC [.n 2,.keep [4] []] rfl tt_ ?_
  cases h
  exact AK.done (ex_ [_] (an_ (an_ rfl tt_) (gives tt_)))
def Qbp (s1:Q8):Option Qw:=
 (idx s1.all s1.k).bind fun e3=>
 some e3
theorem Qfr (s1:Q8){r:Qw}(h:Qbp s1=some r):Qc Tryz.prog 142 [.agg (QJ s1)] [] (Qh (.agg (Qt r)) []):=by
 refine Qc.walk 9 Tryz.func142 rfl Tryz.ntmps142 rfl fun C hC=>?_
 unfold Qbp at h
 obtain⟨e3,he3,h⟩:=Qb h
 refine Qa hC [.n 12,.o (.row (Qt e3)),.v .no [] (.agg (Qt e3)),.n 1,.sayO 2 (.var (Qt e3)),.n 3,.keep [2] [2]] rfl ⟨⟨⟨tt_,(idxM he3)⟩,rfl⟩,rfl⟩ ?_
 cases h
 exact AK.done (ex_ [_] (an_ (an_ (ex_ _ (ex_ _ (an_ rfl (an_ rfl (Or.inl (an_ (Qo.ag rfl) (an_ (Qo.sz rfl) rfl))))))) tt_) (gives tt_)))
def Qhi (x8:(Bool×Q8))(m3:Int):Option Bool:=
 bif (!x8.1)then
 some true
 else
 (Qb5 x8.2 m3).bind fun x12=>
 some (!x12)
def Qda (x8:(Bool×Q8))(m3:Int)(x9:Bool):Option (Int×Bool):=
 bif x9 then
 some (0,false)
 else
 (Qbp x8.2).bind fun x14=>
 bif (x14.Kind==1)then
 (Qbp x8.2).bind fun x16=>
 some ((w64 (x16.Lo+m3)),true)
 else
 some (m3,true)
def Qe0 (l1:(List Qw))(k2:Int)(m3:Int):Option (Int×Bool):=
 (QdZ l1 k2).bind fun x8=>
 (Qhi x8 m3).bind (fun x9=>Qda x8 m3 x9)
theorem Qnh (l1:(List Qw))(k2:Int)(m3:Int){r:(Int×Bool)}(h:Qe0 l1 k2 m3=some r):Qc Tryz.prog 84 [.sl 7 (l1.map Qt),.i .i64 k2,.i .i64 m3] [] (Qh (.tup [.i .i64 r.1,.b r.2]) []):=by
 refine Qc.walk 36 Tryz.func84 rfl Tryz.ntmps84 rfl fun C hC=>?_
 unfold Qe0 at h
 obtain⟨x8,hx8,h⟩:=Qb h
 refine Qa hC [.n 10,.o (.c false [.d,.d] (.tup [.agg (QJ x8.2),.b x8.1])),.n 5,.sayO 8 (.var (QJ x8.2)),.n 6] rfl ⟨⟨tt_,(Qjw _ _ hx8)⟩,rfl⟩ ?_
 obtain⟨x9,hv10,h⟩:=Qb h
 replace h:Qda x8 m3 x9=some r:=h
 refine AK.meetX (fun σ=>σ=⟨[(2,.i .i64 m3),(8,.loc 8 0 0),(16,.b x9)],[(8,.var (QJ x8.2))]⟩) ?_ ?_
 ·replace h:=hv10
  unfold Qhi at h
  refine Qa hC [.n 4] rfl tt_ ?_
  rcases bifE h with⟨hc11,h⟩|⟨hc11,h⟩
  ·refine Qa hC [.say 19 (.b true),.n 7,.keep [2,8,16] [8]] rfl ⟨tt_,(congrArg V.b hc11)⟩ ?_
   cases h
   exact AK.met rfl
  ·obtain⟨x12,hx12,h⟩:=Qb h
   refine Qa hC [.say 19 (.b false),.v .no [] (.agg (QJ x8.2)),.n 1,.o (.c false [.d,.d] (.b x12)),.n 4,.keep [2,8,16] [8]] rfl ⟨⟨⟨tt_,(congrArg V.b hc11)⟩,rfl⟩,(Qjt _ _ hx12)⟩ ?_
   cases h
   exact AK.met rfl
 ·rintro σ rfl
  replace h:Qda x8 m3 x9=some r:=h
  unfold Qda at h
  refine Qa hC [.n 1] rfl tt_ ?_
  rcases bifE h with⟨hc13,h⟩|⟨hc13,h⟩
  ·refine Qa hC [.br true,.n 9,.keep [6,7] []] rfl ⟨tt_,hc13⟩ ?_
   cases h
   exact AK.done (ex_ [_,_] (an_ (an_ rfl (an_ rfl tt_)) (gives tt_)))
  ·obtain⟨x14,hx14,h⟩:=Qb h
   refine Qa hC [.br false,.n 2,.v .no [] (.agg (QJ x8.2)),.o (.c false [.d] (.agg (Qt x14))),.o (.any (.i .i64 x14.Kind) none),.n 4] rfl ⟨⟨⟨⟨tt_,hc13⟩,rfl⟩,(Qfr _ hx14)⟩,(fun σ h1 h2 _=>Stp.field rfl rfl (bleN hC.n rfl) (h1 _ _ rfl) QtG rfl)⟩ ?_
   rcases bifE h with⟨hc15,h⟩|⟨hc15,h⟩
   ·obtain⟨x16,hx16,h⟩:=Qb h
    refine Qa hC [.br true,.n 2,.v .no [] (.agg (QJ x8.2)),.o (.c false [.d] (.agg (Qt x16))),.o (.any (.i .i64 x16.Lo) none),.n 9,.keep [6,7] []] rfl ⟨⟨⟨⟨tt_,hc15⟩,rfl⟩,(Qfr _ hx16)⟩,(fun σ h1 h2 _=>Stp.field rfl rfl (bleN hC.n rfl) (h1 _ _ rfl) QtH rfl)⟩ ?_
    cases h
    exact AK.done (ex_ [_,_] (an_ (an_ rfl (an_ rfl tt_)) (gives tt_)))
   ·refine Qa hC [.br false,.n 11,.keep [6,7] []] rfl ⟨tt_,hc15⟩ ?_
    cases h
    exact AK.done (ex_ [_,_] (an_ (an_ rfl (an_ rfl tt_)) (gives tt_)))
def QeU (e11:Qr)(vars3:(List Int))(n1:TNet)(x15:Int)(l16:(List Int)):Option ((Int×(List Int))⊕(Unit⊕(List Int))):=
 bif (decide (x15<(e11.Vars.length:Int)))then
 (idx e11.Vars x15).bind fun e21=>
 (idx vars3 x15).bind fun e22=>
 (Qe0 n1.Colours e21.Colour e22).bind fun x23=>
 bif (!x23.2)then
 some (.inr (.inl ()))
 else
 (idx l16 x15).bind fun e25=>
 some (.inl ((w64 (x15+1)),(l16.set x15.toNat x23.1)))
 else
 some (.inr (.inr l16))
def Qj2 : Option ((List Int)×Int):=
 some (([]:List Int),1)
def Qj3 (l19:(List Int)):Option ((List Int)×Int):=
 some (l19,0)
def QhF (n1:TNet)(task2:Int)(vars3:(List Int)):Option ((List Int)×Int):=
 bif ((decide (task2<0))||(decide ((n1.Tasks.length:Int)≤task2)))then
 some (([]:List Int),3)
 else
 (idx n1.Tasks task2).bind fun e11=>
 bif ((vars3.length:Int) != (e11.Vars.length:Int))then
 some (([]:List Int),1)
 else
 (chk (decide (0≤(e11.Vars.length:Int))&&decide ((e11.Vars.length:Int)≤(e11.Vars.length:Int))&&decide ((e11.Vars.length:Int)≤4294967296))).bind fun _=>
 (QF (fun st=>QeU e11 vars3 n1 st.1 st.2) (0,(List.replicate (e11.Vars.length:Int).toNat (0:Int)))).bind (Sum.elim (fun q=>Qj2) (fun q=>Qj3 q))
theorem QmC (n1:TNet)(task2:Int)(vars3:(List Int)){r:((List Int)×Int)}(h:QhF n1 task2 vars3=some r):Qc Tryz.prog 43 [.agg (Qd n1),.i .i64 task2,.sl 1 (vars3.map Qe)] [] (Qh (.tup [.sl 1 (r.1.map Qe),.i .i64 r.2]) []):=by
 refine Qc.walk 64 Tryz.func43 rfl Tryz.ntmps43 rfl fun C hC=>?_
 unfold QhF at h
 refine Qa hC [.n 9] rfl tt_ ?_
 refine AK.meetX (fun σ=>σ=⟨[(1,.i .i64 task2),(2,.sl 1 (vars3.map Qe)),(3,.loc 3 0 0),(22,.b ((decide (task2<0))||(decide ((n1.Tasks.length:Int)≤task2))))],[(3,.var (Qd n1))]⟩) ?_ ?_
 ·refine Qa hC [.n 4] rfl tt_ ?_
  rcases QI (decide (task2<0))with hc9 | hc9
  ·refine Qa hC [.say 16 (.b true),.n 7,.say 22 (.b ((decide (task2<0))||(decide ((n1.Tasks.length:Int)≤task2)))),.keep [1,2,3,22] [3]] rfl ⟨⟨tt_,(congrArg V.b hc9)⟩,(congrArg V.b (orT hc9 rfl))⟩ ?_
   exact AK.met rfl
  ·refine Qa hC [.say 16 (.b false),.n 3,.o (.ln n1.Tasks.length),.n 3,.say 22 (.b ((decide (task2<0))||(decide ((n1.Tasks.length:Int)≤task2)))),.keep [1,2,3,22] [3]] rfl ⟨⟨⟨tt_,(congrArg V.b hc9)⟩,Qj⟩,(congrArg V.b (orF hc9 rfl))⟩ ?_
   exact AK.met rfl
 ·rintro σ rfl
  refine Qa hC [.n 1] rfl tt_ ?_
  rcases bifE h with⟨hc10,h⟩|⟨hc10,h⟩
  ·refine Qa hC [.br true,.n 8,.denil 6 [some 1],.keep [6,7] []] rfl ⟨tt_,hc10⟩ ?_
   cases h
   exact AK.done (ex_ [_,_] (an_ (an_ rfl (an_ rfl tt_)) (gives tt_)))
  ·obtain⟨e11,he11,h⟩:=Qb h
   refine Qa hC [.br false,.n 7,.o (.row (Qg e11)),.n 9,.o (.ln vars3.length),.n 1,.o (.ln e11.Vars.length),.n 3] rfl ⟨⟨⟨⟨tt_,hc10⟩,(idxM he11)⟩,Qj⟩,Qj⟩ ?_
   rcases bifE h with⟨hc12,h⟩|⟨hc12,h⟩
   ·refine Qa hC [.br true,.n 8,.denil 6 [some 1],.keep [6,7] []] rfl ⟨tt_,hc12⟩ ?_
    cases h
    exact AK.done (ex_ [_,_] (an_ (an_ rfl (an_ rfl tt_)) (gives tt_)))
   ·obtain⟨_,hk13,h⟩:=Qb h
    replace hk13:=chkE hk13
    refine Qa hC [.br false,.n 5,.o (.ln e11.Vars.length),.o (.rows ((List.replicate (e11.Vars.length:Int).toNat (0:Int)).map Qe)),.say 36 (.own 36 (List.replicate (e11.Vars.length:Int).toNat (0:Int)).length),.n 7,.o (.ln e11.Vars.length),.n 4,.keep [2,3,9,37,38,39] [3,36]] rfl ⟨⟨⟨⟨⟨tt_,hc12⟩,Qj⟩,⟨hk13,Qsj rfl⟩⟩,(by simp)⟩,Qj⟩ ?_
    obtain⟨o26,hl26,h⟩:=Qb h
    refine AK.loop (body:=(fun st=>QeU e11 vars3 n1 st.1 st.2)) (fun st σ=>σ=⟨[(2,.sl 1 (vars3.map Qe)),(3,.loc 3 0 0),(9,.own 36 st.2.length),(37,.sl 2 (e11.Vars.map Qy)),(38,.i .i64 (e11.Vars.length:Int)),(39,.i .i64 st.1)],[(3,.var (Qd n1)),(36,.arr 1 (st.2.map Qe))]⟩) (Sum.elim (fun q e σ=>e=.ret∧σ=⟨[(6,.lit (.slice none 0 0)),(7,.i .i64 1)],[]⟩) (fun q e σ=>e=.exit 0∧σ=⟨[(9,.own 36 q.length)],[(36,.arr 1 (q.map Qe))]⟩)) hl26 rfl ?_ ?_
    ·rintro ⟨x15,l16⟩ o σ rfl h
     replace h:QeU e11 vars3 n1 x15 l16=some o:=h
     unfold QeU at h
     refine Qa hC [.n 6] rfl tt_ ?_
     rcases bifE h with⟨hc20,h⟩|⟨hc20,h⟩
     ·obtain⟨e21,he21,h⟩:=Qb h
      obtain⟨e22,he22,h⟩:=Qb h
      obtain⟨x23,hx23,h⟩:=Qb h
      refine Qa hC [.br true,.n 7,.o (.row (Qy e21)),.v .no [] (.agg (Qy e21)),.n 3,.sayO 11 (.var (Qy e21)),.n 3,.keep [2,3,9,10,11,37,38,39] [3,11,36]] rfl ⟨⟨⟨⟨tt_,hc20⟩,(idxM he21)⟩,rfl⟩,rfl⟩ ?_
      refine AK.draw2 Qo hC mixed [.a .no none false,.a .no none false,.a .no none false,.a .no none false,.a .no none false,.a .no none false,.a (.row (Qe e22)) none false,.a .no none false,.a (.c false [.d,.d,.d] (.tup [.i .i64 x23.1,.b x23.2])) none false,.a .no none false,.a .no none false,.a .no none false,.a .no none false,.a .no none false] [] [] [2,3,9,10,12,13,37,38,39] [3,36] rfl rfl rfl ⟨⟨tt_,(idxM he22)⟩,(Qnh _ _ _ hx23)⟩ rfl (by kernel_rfl) rfl rfl rfl ?_
      refine Qa hC [.n 8] rfl tt_ ?_
      rcases bifE h with⟨hc24,h⟩|⟨hc24,h⟩
      ·refine Qa hC [.br true,.n 10,.keep [6,7] []] rfl ⟨tt_,hc24⟩ ?_
       cases h
       exact rndR rfl (an_ rfl rfl)
      ·obtain⟨e25,he25,h⟩:=Qb h
       refine Qa hC [.br false,.n 7,.st (Qe e25) ((l16.set x15.toNat x23.1).map Qe),.n 7,.say 9 (.own 36 (l16.set x15.toNat x23.1).length),.keep [2,3,9,37,38,39] [3,36]] rfl ⟨⟨⟨⟨tt_,hc24⟩,(QfF he25 rfl)⟩,⟨(Qc8 (idxE he25).2),QmZ rfl⟩⟩,(congrArg (fun n=>V.own 36 n) (by simp))⟩ ?_
       cases h
       exact rndN rfl rfl
     ·refine Qa hC [.br false,.n 2,.keep [9] [36]] rfl ⟨tt_,hc20⟩ ?_
      cases h
      exact rndX rfl (an_ rfl rfl)
    ·rcases o26 with(_ | l19)
     ·replace h:Qj2=some r:=h
      unfold Qj2 at h
      rintro e σ ⟨rfl,rfl⟩
      refine Qa hC [.n 2,.denil 6 [some 1],.keep [6,7] []] rfl tt_ ?_
      cases h
      exact AK.done (ex_ [_,_] (an_ (an_ rfl (an_ rfl tt_)) (gives tt_)))
     ·replace h:Qj3 l19=some r:=h
      unfold Qj3 at h
      rintro e σ ⟨rfl,rfl⟩
      refine Qa hC [.n 10,.frz 36 (l19.map Qe) [6] [],.keep [6,7] []] rfl ⟨tt_,⟨tt_,(frzL Qj)⟩⟩ ?_
      cases h
      exact AK.done (ex_ [_,_] (an_ (an_ rfl (an_ rfl tt_)) (gives tt_)))
def QbX (n1:TNet)(m2:(List (List (Int×Int))))(task3:Int)(vars4:(List Int)):Option (Int×Qx):=
 (QhF n1 task3 vars4).bind fun x9=>
 bif (x9.2 != 0)then
 some (x9.2,(Qx.mk (TNet.mk ([]:(List Qw)) ([]:(List QB)) ([]:(List Qr)) 0 0) ([]:(List (List (Int×Int)))) (Qr.mk (⟨#[]⟩:ByteArray) ([]:(List TVar)) (Qf.mk 0 0 ([]:(List Qf))) 0 0 ([]:(List TArc)) ([]:(List TArc)) ([]:(List Int)) 0 (0,0,0)) ([]:(List Int))))
 else
 (idx n1.Tasks task3).bind fun e11=>
 some (0,(Qx.mk n1 m2 e11 x9.1))
theorem Qlk (n1:TNet)(m2:(List (List (Int×Int))))(task3:Int)(vars4:(List Int)){r:(Int×Qx)}(h:QbX n1 m2 task3 vars4=some r):Qc Tryz.prog 27 [.agg (Qd n1),.sl 1 (m2.map Qv),.i .i64 task3,.sl 1 (vars4.map Qe)] [] (Qh (.tup [.agg (Qn r.2),.i .i64 r.1]) []):=by
 refine Qc.walk 32 Tryz.func27 rfl Tryz.ntmps27 rfl fun C hC=>?_
 unfold QbX at h
 obtain⟨x9,hx9,h⟩:=Qb h
 refine Qa hC [.n 9,.v .no [] (.agg (Qd n1)),.n 2,.o (.c false [.d,.d,.d] (.tup [.sl 1 (x9.1.map Qe),.i .i64 x9.2])),.n 14] rfl ⟨⟨tt_,rfl⟩,(QmC _ _ _ hx9)⟩ ?_
 rcases bifE h with⟨hc10,h⟩|⟨hc10,h⟩
 ·refine Qa hC [.br true,.n 2,.v .no [some 7,some 3,some 14,none,none,some 1,none,some 2,none,none,some 3,none,none,some 4,some 4,some 1,none,none,none,none,some 1] (.agg (Qn (Qx.mk (TNet.mk ([]:(List Qw)) ([]:(List QB)) ([]:(List Qr)) 0 0) ([]:(List (List (Int×Int)))) (Qr.mk (⟨#[]⟩:ByteArray) ([]:(List TVar)) (Qf.mk 0 0 ([]:(List Qf))) 0 0 ([]:(List TArc)) ([]:(List TArc)) ([]:(List Int)) 0 (0,0,0)) ([]:(List Int))))),.n 2,.sayO 8 (.var (Qn (Qx.mk (TNet.mk ([]:(List Qw)) ([]:(List QB)) ([]:(List Qr)) 0 0) ([]:(List (List (Int×Int)))) (Qr.mk (⟨#[]⟩:ByteArray) ([]:(List TVar)) (Qf.mk 0 0 ([]:(List Qf))) 0 0 ([]:(List TArc)) ([]:(List TArc)) ([]:(List Int)) 0 (0,0,0)) ([]:(List Int))))),.n 5,.keep [8,9] [8]] rfl ⟨⟨⟨tt_,hc10⟩,rfl⟩,rfl⟩ ?_
  cases h
  exact AK.done (ex_ [_,_] (an_ (an_ (ex_ _ (ex_ _ (an_ rfl (an_ rfl (Or.inl (an_ (Qo.ag rfl) (an_ (Qo.sz rfl) rfl))))))) (an_ rfl tt_)) (gives tt_)))
 ·obtain⟨e11,he11,h⟩:=Qb h
  refine Qa hC [.br false,.n 3,.keep [1,2,4,8,9,10] [4,8]] rfl ⟨tt_,hc10⟩ ?_
  refine AK.draw2 Qo hC mixed [.a .no (some ([],.agg (Qd n1))) false,.a .no none false,.a .no none false,.a .no none false,.a .no none false,.a (.row (Qg e11)) none false,.a .no (some ([],.agg (Qg e11))) false,.a .no none false,.a .no (some ([],.agg (Qn (Qx.mk n1 m2 e11 x9.1)))) false,.m .s,.m .s] [] [] [8,9] [8] rfl rfl rfl ⟨⟨⟨⟨tt_,rfl⟩,(idxM he11)⟩,rfl⟩,rfl⟩ rfl (by kernel_rfl) rfl rfl rfl ?_
  refine Qa hC [.sayO 8 (.var (Qn (Qx.mk n1 m2 e11 x9.1))),.n 2,.keep [8,9] [8]] rfl ⟨tt_,rfl⟩ ?_
  cases h
  exact AK.done (ex_ [_,_] (an_ (an_ (ex_ _ (ex_ _ (an_ rfl (an_ rfl (Or.inl (an_ (Qo.ag rfl) (an_ (Qo.sz rfl) rfl))))))) (an_ rfl tt_)) (gives tt_)))
def Qdp (e1:Qf)(rec_expr_Depth:Qf→Option Int)(n3:Int)(x4:Int):Option ((Int×Int)⊕Int):=
 bif (decide (x4<(e1.Kids.length:Int)))then
 (idx e1.Kids x4).bind fun e9=>
 (rec_expr_Depth e9).bind fun x10=>
 some (.inl ((max2 n3 x10),(w64 (x4+1))))
 else
 some (.inr n3)
def Qg2 (n7:Int):Option Int:=
 some (w64 (n7+1))
def QhG (rec_expr_Depth:Qf→Option Int)(e1:Qf):Option Int:=
 (QF (fun st=>Qdp e1 rec_expr_Depth st.1 st.2) (0,0)).bind (fun q=>Qg2 q)
def QcV : Nat→Qf→Option Int
 | 0,_=>none
 | n+1,e1=>QhG (QcV n) e1
def QkC (e1:Qf):Option Int:=QcV (SizeOf.sizeOf e1) e1
theorem QnY (rec_expr_Depth:Qf→Option Int)(hrec_expr_Depth:∀(e1:Qf) {r:Int},rec_expr_Depth e1=some r→Qc Tryz.prog 158 [.agg (Qk e1)] [] (Qh (.i .i64 r) []))(e1:Qf){r:Int}(h:QhG rec_expr_Depth e1=some r):Qc Tryz.prog 158 [.agg (Qk e1)] [] (Qh (.i .i64 r) []):=by
 refine Qc.walk 20 Tryz.func158 rfl Tryz.ntmps158 rfl fun C hC=>?_
 unfold QhG at h
 refine Qa hC [.n 16,.o (.ln e1.Kids.length),.n 4,.keep [3,7,8,9] []] rfl ⟨tt_,QhE _⟩ ?_
 obtain⟨n7,hl11,h⟩:=Qb h
 refine AK.loop (body:=(fun st=>Qdp e1 rec_expr_Depth st.1 st.2)) (fun st σ=>σ=⟨[(3,.i .i64 st.1),(7,.sl 3 (QaD e1.Kids)),(8,.i .i64 (e1.Kids.length:Int)),(9,.i .i64 st.2)],[]⟩) (fun q e σ=>e=.exit 0∧σ=⟨[(3,.i .i64 q)],[]⟩) hl11 rfl ?_ ?_
 ·rintro ⟨n3,x4⟩ o σ rfl h
  replace h:Qdp e1 rec_expr_Depth n3 x4=some o:=h
  unfold Qdp at h
  refine Qa hC [.n 6] rfl tt_ ?_
  rcases bifE h with⟨hc8,h⟩|⟨hc8,h⟩
  ·obtain⟨e9,he9,h⟩:=Qb h
   obtain⟨x10,hx10,h⟩:=Qb h
   refine Qa hC [.br true,.n 6,.o (.row (Qk e9)),.v .no [] (.agg (Qk e9)),.n 2,.sayO 5 (.var (Qk e9)),.n 4,.v .no [] (.agg (Qk e9)),.o (.c false [.d] (.i .i64 x10)),.n 9,.keep [3,7,8,9] []] rfl ⟨⟨⟨⟨⟨⟨tt_,hc8⟩,(Qc2 he9)⟩,rfl⟩,rfl⟩,rfl⟩,(hrec_expr_Depth _ hx10)⟩ ?_
   cases h
   exact rndN rfl rfl
  ·refine Qa hC [.br false,.n 2,.keep [3] []] rfl ⟨tt_,hc8⟩ ?_
   cases h
   exact rndX rfl (an_ rfl rfl)
 ·replace h:Qg2 n7=some r:=h
  unfold Qg2 at h
  rintro e σ ⟨rfl,rfl⟩
  refine Qa hC [.n 10,.keep [2] []] rfl tt_ ?_
  cases h
  exact AK.done (ex_ [_] (an_ (an_ rfl tt_) (gives tt_)))
theorem Qkd : ∀(fuel:Nat) (e1:Qf) {r:Int},QcV fuel e1=some r→Qc Tryz.prog 158 [.agg (Qk e1)] [] (Qh (.i .i64 r) [])
 | 0,_,_,h=>by cases h
 | n+1,e1,_,h=>QnY (QcV n) (fun _ _ h=>Qkd n _ h) e1 h
theorem Qpl (e1:Qf){r:Int}(h:QkC e1=some r):Qc Tryz.prog 158 [.agg (Qk e1)] [] (Qh (.i .i64 r) []):=Qkd _ e1 h
def Qd2 (e1:Qf)(rec_expr_Size:Qf→Option Int)(n3:Int)(x4:Int):Option ((Int×Int)⊕Int):=
 bif (decide (x4<(e1.Kids.length:Int)))then
 (idx e1.Kids x4).bind fun e9=>
 (rec_expr_Size e9).bind fun x10=>
 some (.inl ((w64 (n3+x10)),(w64 (x4+1))))
 else
 some (.inr n3)
def QhH (n7:Int):Option Int:=
 some n7
def Qij (rec_expr_Size:Qf→Option Int)(e1:Qf):Option Int:=
 (QF (fun st=>Qd2 e1 rec_expr_Size st.1 st.2) (1,0)).bind (fun q=>QhH q)
def QdC : Nat→Qf→Option Int
 | 0,_=>none
 | n+1,e1=>Qij (QdC n) e1
def Qlu (e1:Qf):Option Int:=QdC (SizeOf.sizeOf e1) e1
theorem QoD (rec_expr_Size:Qf→Option Int)(hrec_expr_Size:∀(e1:Qf) {r:Int},rec_expr_Size e1=some r→Qc Tryz.prog 159 [.agg (Qk e1)] [] (Qh (.i .i64 r) []))(e1:Qf){r:Int}(h:Qij rec_expr_Size e1=some r):Qc Tryz.prog 159 [.agg (Qk e1)] [] (Qh (.i .i64 r) []):=by
 refine Qc.walk 19 Tryz.func159 rfl Tryz.ntmps159 rfl fun C hC=>?_
 unfold Qij at h
 refine Qa hC [.n 16,.o (.ln e1.Kids.length),.n 4,.keep [3,7,8,9] []] rfl ⟨tt_,QhE _⟩ ?_
 obtain⟨n7,hl11,h⟩:=Qb h
 refine AK.loop (body:=(fun st=>Qd2 e1 rec_expr_Size st.1 st.2)) (fun st σ=>σ=⟨[(3,.i .i64 st.1),(7,.sl 3 (QaD e1.Kids)),(8,.i .i64 (e1.Kids.length:Int)),(9,.i .i64 st.2)],[]⟩) (fun q e σ=>e=.exit 0∧σ=⟨[(3,.i .i64 q)],[]⟩) hl11 rfl ?_ ?_
 ·rintro ⟨n3,x4⟩ o σ rfl h
  replace h:Qd2 e1 rec_expr_Size n3 x4=some o:=h
  unfold Qd2 at h
  refine Qa hC [.n 6] rfl tt_ ?_
  rcases bifE h with⟨hc8,h⟩|⟨hc8,h⟩
  ·obtain⟨e9,he9,h⟩:=Qb h
   obtain⟨x10,hx10,h⟩:=Qb h
   refine Qa hC [.br true,.n 6,.o (.row (Qk e9)),.v .no [] (.agg (Qk e9)),.n 2,.sayO 5 (.var (Qk e9)),.n 4,.v .no [] (.agg (Qk e9)),.o (.c false [.d] (.i .i64 x10)),.n 9,.keep [3,7,8,9] []] rfl ⟨⟨⟨⟨⟨⟨tt_,hc8⟩,(Qc2 he9)⟩,rfl⟩,rfl⟩,rfl⟩,(hrec_expr_Size _ hx10)⟩ ?_
   cases h
   exact rndN rfl rfl
  ·refine Qa hC [.br false,.n 2,.keep [3] []] rfl ⟨tt_,hc8⟩ ?_
   cases h
   exact rndX rfl (an_ rfl rfl)
 ·replace h:QhH n7=some r:=h
  unfold QhH at h
  rintro e σ ⟨rfl,rfl⟩
  refine Qa hC [.n 9,.keep [2] []] rfl tt_ ?_
  cases h
  exact AK.done (ex_ [_] (an_ (an_ rfl tt_) (gives tt_)))
theorem QkD : ∀(fuel:Nat) (e1:Qf) {r:Int},QdC fuel e1=some r→Qc Tryz.prog 159 [.agg (Qk e1)] [] (Qh (.i .i64 r) [])
 | 0,_,_,h=>by cases h
 | n+1,e1,_,h=>QoD (QdC n) (fun _ _ h=>QkD n _ h) e1 h
theorem QpW (e1:Qf){r:Int}(h:Qlu e1=some r):Qc Tryz.prog 159 [.agg (Qk e1)] [] (Qh (.i .i64 r) []):=QkD _ e1 h
def Qd3 (kind1:Int)(x6:Bool):Option Int:=
 bif x6 then
 some 1
 else
 bif (kind1==5)then
 some 2
 else
 bif (kind1==6)then
 some 3
 else
 some (-1)
def Qd4 (kind1:Int)(x4:Bool):Option Int:=
 bif x4 then
 some 0
 else
 bif (kind1==3)then
 Qd3 kind1 (kind1==3)
 else
 Qd3 kind1 (kind1==4)
def Qh5 (kind1:Int):Option Int:=
 bif (kind1==1)then
 Qd4 kind1 (kind1==1)
 else
 Qd4 kind1 (kind1==2)
theorem QpX (kind1:Int){r:Int}(h:Qh5 kind1=some r):Qc Tryz.prog 198 [.i .i64 kind1] [] (Qh (.i .i64 r) []):=by
 refine Qc.walk 14 Tryz.func198 rfl Tryz.ntmps198 rfl fun C hC=>?_
 unfold Qh5 at h
 refine Qa hC [.n 12] rfl tt_ ?_
 refine AK.meet (fun σ=>∃x4:Bool,σ=⟨[(3,.i .i64 kind1),(4,.b x4)],[]⟩∧Qd4 kind1 x4=some r) ?_ ?_
 ·refine Qa hC [.n 6] rfl tt_ ?_
  rcases bifE h with⟨hc11,h⟩|⟨hc11,h⟩
  ·refine Qa hC [.br true,.n 1,.keep [3,4] []] rfl ⟨tt_,hc11⟩ ?_
   exact AK.met (ex_ _ (an_ rfl h))
  ·refine Qa hC [.br false,.n 4,.keep [3,4] []] rfl ⟨tt_,hc11⟩ ?_
   exact AK.met (ex_ _ (an_ rfl h))
 ·rintro σ ⟨x4,rfl,h⟩
  unfold Qd4 at h
  rcases bifE h with⟨hc5,h⟩|⟨hc5,h⟩
  ·refine Qa hC [.br true,.n 8,.keep [2] []] rfl ⟨tt_,hc5⟩ ?_
   cases h
   exact AK.done (ex_ [_] (an_ (an_ rfl tt_) (gives tt_)))
  ·refine Qa hC [.br false] rfl ⟨tt_,hc5⟩ ?_
   refine AK.meet (fun σ=>∃x6:Bool,σ=⟨[(3,.i .i64 kind1),(7,.b x6)],[]⟩∧Qd3 kind1 x6=some r) ?_ ?_
   ·refine Qa hC [.n 6] rfl tt_ ?_
    rcases bifE h with⟨hc10,h⟩|⟨hc10,h⟩
    ·refine Qa hC [.br true,.n 1,.keep [3,7] []] rfl ⟨tt_,hc10⟩ ?_
     exact AK.met (ex_ _ (an_ rfl h))
    ·refine Qa hC [.br false,.n 4,.keep [3,7] []] rfl ⟨tt_,hc10⟩ ?_
     exact AK.met (ex_ _ (an_ rfl h))
   ·rintro σ ⟨x6,rfl,h⟩
    unfold Qd3 at h
    rcases bifE h with⟨hc7,h⟩|⟨hc7,h⟩
    ·refine Qa hC [.br true,.n 8,.keep [2] []] rfl ⟨tt_,hc7⟩ ?_
     cases h
     exact AK.done (ex_ [_] (an_ (an_ rfl tt_) (gives tt_)))
    ·refine Qa hC [.br false,.n 6] rfl ⟨tt_,hc7⟩ ?_
     rcases bifE h with⟨hc8,h⟩|⟨hc8,h⟩
     ·refine Qa hC [.br true,.n 8,.keep [2] []] rfl ⟨tt_,hc8⟩ ?_
      cases h
      exact AK.done (ex_ [_] (an_ (an_ rfl tt_) (gives tt_)))
     ·refine Qa hC [.br false,.n 6] rfl ⟨tt_,hc8⟩ ?_
      rcases bifE h with⟨hc9,h⟩|⟨hc9,h⟩
      ·refine Qa hC [.br true,.n 8,.keep [2] []] rfl ⟨tt_,hc9⟩ ?_
       cases h
       exact AK.done (ex_ [_] (an_ (an_ rfl tt_) (gives tt_)))
      ·refine Qa hC [.br false,.n 9,.keep [2] []] rfl ⟨tt_,hc9⟩ ?_
       cases h
       exact AK.done (ex_ [_] (an_ (an_ rfl tt_) (gives tt_)))
def Qhj (op1:Int):Option Bool:=
 some ((decide (1≤op1))&&(decide (op1≤11)))
theorem Qpm (op1:Int){r:Bool}(h:Qhj op1=some r):Qc Tryz.prog 199 [.i .i64 op1] [] (Qh (.b r) []):=by
 refine Qc.walk 9 Tryz.func199 rfl Tryz.ntmps199 rfl fun C hC=>?_
 unfold Qhj at h
 refine Qa hC [.n 6] rfl tt_ ?_
 refine AK.meetX (fun σ=>σ=⟨[(2,.b ((decide (1≤op1))&&(decide (op1≤11))))],[]⟩) ?_ ?_
 ·refine Qa hC [.n 4] rfl tt_ ?_
  rcases QI (decide (1≤op1))with hc4 | hc4
  ·refine Qa hC [.say 5 (.b true),.n 5,.say 2 (.b ((decide (1≤op1))&&(decide (op1≤11)))),.keep [2] []] rfl ⟨⟨tt_,(congrArg V.b hc4)⟩,(congrArg V.b (andT hc4 rfl))⟩ ?_
   exact AK.met rfl
  ·refine Qa hC [.say 5 (.b false),.n 5,.say 2 (.b ((decide (1≤op1))&&(decide (op1≤11)))),.keep [2] []] rfl ⟨⟨tt_,(congrArg V.b hc4)⟩,(congrArg V.b (andF hc4 rfl))⟩ ?_
   exact AK.met rfl
 ·rintro σ rfl
  refine Qa hC [.n 2,.keep [2] []] rfl tt_ ?_
  cases h
  exact AK.done (ex_ [_] (an_ (an_ rfl tt_) (gives tt_)))
def QhI (rec_expr_parts:Qf→Int→Option Bool)(k1:Qf)(v2:Int):Option Bool:=
 (rec_expr_parts k1 v2).bind fun x4=>
 some (!x4)
theorem QnZ (rec_expr_parts:Qf→Int→Option Bool)(hrec_expr_parts:∀(e1:Qf) (vars2:Int) {r:Bool},rec_expr_parts e1 vars2=some r→Qc Tryz.prog 160 [.agg (Qk e1),.i .i64 vars2] [] (Qh (.b r) []))(k1:Qf)(v2:Int){r:Bool}(h:QhI rec_expr_parts k1 v2=some r):Qc Tryz.prog 201 [.agg (Qk k1),.loc 200000 0 0] [(200000,.var (Qe v2))] (Qh (.b r) [(200000,.var (Qe v2))]):=by
 refine Qc.walk 8 Tryz.func201 rfl Tryz.ntmps201 rfl fun C hC=>?_
 unfold QhI at h
 obtain⟨x4,hx4,h⟩:=Qb h
 refine Qa hC [.n 8,.v .no [] (.agg (Qk k1)),.n 1,.o (.c false [.d,.d] (.b x4)),.n 5,.keep [3] [200000]] rfl ⟨⟨tt_,rfl⟩,(hrec_expr_parts _ _ hx4)⟩ ?_
 cases h
 exact AK.done (ex_ [_] (an_ (an_ rfl tt_) (gives ⟨rfl,tt_⟩)))
def QP (s1:(List Qf))(rec_expr_parts:Qf→Int→Option Bool)(v2:Int)(x5:Int):Option (Int⊕(Int⊕Unit)):=
 bif (decide (x5<(s1.length:Int)))then
 (idx s1 x5).bind fun e9=>
 (QhI rec_expr_parts e9 v2).bind fun x10=>
 bif x10 then
 some (.inr (.inl x5))
 else
 some (.inl (w64 (x5+1)))
 else
 some (.inr (.inr ()))
def Qbg (x7:Int):Option Int:=
 some x7
def Qbh : Option Int:=
 some (-1)
def QaO (rec_expr_parts:Qf→Int→Option Bool)(s1:(List Qf))(v2:Int):Option Int:=
 (QF (fun st=>QP s1 rec_expr_parts v2 st) 0).bind (Sum.elim (fun q=>Qbg q) (fun q=>Qbh))
theorem QgA (rec_expr_parts:Qf→Int→Option Bool)(hrec_expr_parts:∀(e1:Qf) (vars2:Int) {r:Bool},rec_expr_parts e1 vars2=some r→Qc Tryz.prog 160 [.agg (Qk e1),.i .i64 vars2] [] (Qh (.b r) []))(s1:(List Qf))(v2:Int){r:Int}(h:QaO rec_expr_parts s1 v2=some r):Qc Tryz.prog 222 [.sl 3 (QaD s1),.clo (.func 201) [] [.loc 200000 0 0]] [(200000,.var (Qe v2))] (Qh (.i .i64 r) [(200000,.var (Qe v2))]):=by
 refine Qc.walk 19 Tryz.func222 rfl Tryz.ntmps222 rfl fun C hC=>?_
 unfold QaO at h
 refine Qa hC [.n 9,.o (.ln s1.length),.n 4,.keep [0,1,7,8] [200000]] rfl ⟨tt_,QhE _⟩ ?_
 obtain⟨o12,hl12,h⟩:=Qb h
 refine AK.loop (body:=(fun st=>QP s1 rec_expr_parts v2 st)) (fun st σ=>σ=⟨[(0,.sl 3 (QaD s1)),(1,.clo (.func 201) [] [.loc 200000 0 0]),(7,.i .i64 (s1.length:Int)),(8,.i .i64 st)],[(200000,.var (Qe v2))]⟩) (Sum.elim (fun q e σ=>e=.ret∧σ=⟨[(4,.i .i64 q)],[(200000,.var (Qe v2))]⟩) (fun q e σ=>e=.exit 0∧σ=⟨[],[(200000,.var (Qe v2))]⟩)) hl12 rfl ?_ ?_
 ·rintro x5 o σ rfl h
  replace h:QP s1 rec_expr_parts v2 x5=some o:=h
  unfold QP at h
  refine Qa hC [.n 6] rfl tt_ ?_
  rcases bifE h with⟨hc8,h⟩|⟨hc8,h⟩
  ·obtain⟨e9,he9,h⟩:=Qb h
   obtain⟨x10,hx10,h⟩:=Qb h
   refine Qa hC [.br true,.n 15,.o (.row (Qk e9)),.v .no [] (.agg (Qk e9)),.cm (.clo) [(200000,200000)] [(200000,200000)] [] [.d,.d] [(200000,.var (Qe v2))] (.b x10),.n 2] rfl ⟨⟨⟨⟨tt_,hc8⟩,(Qc2 he9)⟩,rfl⟩,(QnZ rec_expr_parts hrec_expr_parts _ _ hx10)⟩ ?_
   rcases bifE h with⟨hc11,h⟩|⟨hc11,h⟩
   ·refine Qa hC [.br true,.n 9,.keep [4] [200000]] rfl ⟨tt_,hc11⟩ ?_
    cases h
    exact rndR rfl (an_ rfl rfl)
   ·refine Qa hC [.br false,.n 7,.keep [0,1,7,8] [200000]] rfl ⟨tt_,hc11⟩ ?_
    cases h
    exact rndN rfl rfl
  ·refine Qa hC [.br false,.n 2,.keep [] [200000]] rfl ⟨tt_,hc8⟩ ?_
   cases h
   exact rndX rfl (an_ rfl rfl)
 ·rcases o12 with(x7 | _)
  ·replace h:Qbg x7=some r:=h
   unfold Qbg at h
   rintro e σ ⟨rfl,rfl⟩
   refine Qa hC [.n 2,.keep [4] [200000]] rfl tt_ ?_
   cases h
   exact AK.done (ex_ [_] (an_ (an_ rfl tt_) (gives ⟨rfl,tt_⟩)))
  ·replace h:Qbh=some r:=h
   unfold Qbh at h
   rintro e σ ⟨rfl,rfl⟩
   refine Qa hC [.n 8,.keep [4] [200000]] rfl tt_ ?_
   cases h
   exact AK.done (ex_ [_] (an_ (an_ rfl tt_) (gives ⟨rfl,tt_⟩)))
def Q4 (rec_expr_parts:Qf→Int→Option Bool)(s1:(List Qf))(v2:Int):Option Bool:=
 (QaO rec_expr_parts s1 v2).bind fun x4=>
 some (decide (0≤x4))
theorem QfS (rec_expr_parts:Qf→Int→Option Bool)(hrec_expr_parts:∀(e1:Qf) (vars2:Int) {r:Bool},rec_expr_parts e1 vars2=some r→Qc Tryz.prog 160 [.agg (Qk e1),.i .i64 vars2] [] (Qh (.b r) []))(s1:(List Qf))(v2:Int){r:Bool}(h:Q4 rec_expr_parts s1 v2=some r):Qc Tryz.prog 200 [.sl 3 (QaD s1),.clo (.func 201) [] [.loc 200000 0 0]] [(200000,.var (Qe v2))] (Qh (.b r) [(200000,.var (Qe v2))]):=by
 refine Qc.walk 9 Tryz.func200 rfl Tryz.ntmps200 rfl fun C hC=>?_
 unfold Q4 at h
 obtain⟨x4,hx4,h⟩:=Qb h
 refine Qa hC [.n 9,.cm (.fn) [(200000,200000)] [(200000,200000)] [] [.d,.d] [(200000,.var (Qe v2))] (.i .i64 x4),.n 5,.keep [4] [200000]] rfl ⟨tt_,(QgA rec_expr_parts hrec_expr_parts _ _ hx4)⟩ ?_
 cases h
 exact AK.done (ex_ [_] (an_ (an_ rfl tt_) (gives ⟨rfl,tt_⟩)))
def QiU (e1:Qf):Option Bool:=
 bif (e1.Kind==5)then
 (Qhj e1.Num).bind fun x14=>
 some (!x14)
 else
 some false
def Qe1 (rec_expr_parts:Qf→Int→Option Bool)(e1:Qf)(vars2:Int)(x11:Bool):Option Bool:=
 bif x11 then
 some false
 else
 (Q4 rec_expr_parts e1.Kids vars2).bind fun x16=>
 some (!x16)
def QhJ (rec_expr_parts:Qf→Int→Option Bool)(e1:Qf)(vars2:Int):Option Bool:=
 (Qh5 e1.Kind).bind fun x5=>
 bif ((e1.Kids.length:Int) != x5)then
 some false
 else
 bif ((e1.Kind==2)&&((decide (e1.Num<0))||(decide (vars2≤e1.Num))))then
 some false
 else
 (QiU e1).bind (fun x11=>Qe1 rec_expr_parts e1 vars2 x11)
def QcW : Nat→Qf→Int→Option Bool
 | 0,_,_=>none
 | n+1,e1,vars2=>QhJ (QcW n) e1 vars2
def QkE (e1:Qf)(vars2:Int):Option Bool:=QcW (SizeOf.sizeOf e1) e1 vars2
theorem Qn0 (rec_expr_parts:Qf→Int→Option Bool)(hrec_expr_parts:∀(e1:Qf) (vars2:Int) {r:Bool},rec_expr_parts e1 vars2=some r→Qc Tryz.prog 160 [.agg (Qk e1),.i .i64 vars2] [] (Qh (.b r) []))(e1:Qf)(vars2:Int){r:Bool}(h:QhJ rec_expr_parts e1 vars2=some r):Qc Tryz.prog 160 [.agg (Qk e1),.i .i64 vars2] [] (Qh (.b r) []):=by
 refine Qc.walk 43 Tryz.func160 rfl Tryz.ntmps160 rfl fun C hC=>?_
 unfold QhJ at h
 obtain⟨x5,hx5,h⟩:=Qb h
 refine Qa hC [.n 10,.keep [2,3] [2,3]] rfl tt_ ?_
 refine AK.draw2 Qo hC mixed [.a .no none false,.a .no none false,.a (.ln e1.Kids.length) none false,.a .no none false,.a .no none false,.a (.c false [.d] (.i .i64 x5)) none false,.a .no none false,.a .no none false] [] [] [2,3,5] [2,3] rfl rfl rfl ⟨⟨tt_,QhE _⟩,(QpX _ hx5)⟩ rfl (by kernel_rfl) rfl rfl rfl ?_
 refine Qa hC [.n 1] rfl tt_ ?_
 rcases bifE h with⟨hc6,h⟩|⟨hc6,h⟩
 ·refine Qa hC [.br true,.n 8,.keep [4] []] rfl ⟨tt_,hc6⟩ ?_
  cases h
  exact AK.done (ex_ [_] (an_ (an_ rfl tt_) (gives tt_)))
 ·refine Qa hC [.br false,.n 1] rfl ⟨tt_,hc6⟩ ?_
  refine AK.meetX (fun σ=>σ=⟨[(2,.loc 2 0 0),(3,.loc 3 0 0),(13,.b ((e1.Kind==2)&&((decide (e1.Num<0))||(decide (vars2≤e1.Num)))))],[(2,.var (Qk e1)),(3,.var (Qe vars2))]⟩) ?_ ?_
  ·refine Qa hC [.n 5] rfl tt_ ?_
   rcases QI (e1.Kind==2)with hc8 | hc8
   ·refine Qa hC [.say 17 (.b true),.n 4] rfl ⟨tt_,(congrArg V.b hc8)⟩ ?_
    rcases QI (decide (e1.Num<0))with hc9 | hc9
    ·refine Qa hC [.say 21 (.b true),.n 8,.say 13 (.b ((e1.Kind==2)&&((decide (e1.Num<0))||(decide (vars2≤e1.Num))))),.keep [2,3,13] [2,3]] rfl ⟨⟨tt_,(congrArg V.b hc9)⟩,(congrArg V.b (andT hc8 (orT hc9 rfl)))⟩ ?_
     exact AK.met rfl
    ·refine Qa hC [.say 21 (.b false),.n 8,.say 13 (.b ((e1.Kind==2)&&((decide (e1.Num<0))||(decide (vars2≤e1.Num))))),.keep [2,3,13] [2,3]] rfl ⟨⟨tt_,(congrArg V.b hc9)⟩,(congrArg V.b (andT hc8 (orF hc9 rfl)))⟩ ?_
     exact AK.met rfl
   ·refine Qa hC [.say 17 (.b false),.n 12,.say 13 (.b ((e1.Kind==2)&&((decide (e1.Num<0))||(decide (vars2≤e1.Num))))),.keep [2,3,13] [2,3]] rfl ⟨⟨tt_,(congrArg V.b hc8)⟩,(congrArg V.b (andF hc8 rfl))⟩ ?_
    exact AK.met rfl
  ·rintro σ rfl
   refine Qa hC [.n 1] rfl tt_ ?_
   rcases bifE h with⟨hc10,h⟩|⟨hc10,h⟩
   ·refine Qa hC [.br true,.n 8,.keep [4] []] rfl ⟨tt_,hc10⟩ ?_
    cases h
    exact AK.done (ex_ [_] (an_ (an_ rfl tt_) (gives tt_)))
   ·refine Qa hC [.br false,.n 1] rfl ⟨tt_,hc10⟩ ?_
    obtain⟨x11,hv12,h⟩:=Qb h
    replace h:Qe1 rec_expr_parts e1 vars2 x11=some r:=h
    refine AK.meetX (fun σ=>σ=⟨[(2,.loc 2 0 0),(3,.loc 3 0 0),(28,.b x11)],[(2,.var (Qk e1)),(3,.var (Qe vars2))]⟩) ?_ ?_
    ·replace h:=hv12
     unfold QiU at h
     refine Qa hC [.n 5] rfl tt_ ?_
     rcases bifE h with⟨hc13,h⟩|⟨hc13,h⟩
     ·obtain⟨x14,hx14,h⟩:=Qb h
      refine Qa hC [.say 32 (.b true),.n 2,.o (.c false [.d] (.b x14)),.n 4,.keep [2,3,28] [2,3]] rfl ⟨⟨tt_,(congrArg V.b hc13)⟩,(Qpm _ hx14)⟩ ?_
      cases h
      exact AK.met rfl
     ·refine Qa hC [.say 32 (.b false),.n 7,.keep [2,3,28] [2,3]] rfl ⟨tt_,(congrArg V.b hc13)⟩ ?_
      cases h
      exact AK.met rfl
    ·rintro σ rfl
     replace h:Qe1 rec_expr_parts e1 vars2 x11=some r:=h
     unfold Qe1 at h
     refine Qa hC [.n 1] rfl tt_ ?_
     rcases bifE h with⟨hc15,h⟩|⟨hc15,h⟩
     ·refine Qa hC [.br true,.n 8,.keep [4] []] rfl ⟨tt_,hc15⟩ ?_
      cases h
      exact AK.done (ex_ [_] (an_ (an_ rfl tt_) (gives tt_)))
     ·obtain⟨x16,hx16,h⟩:=Qb h
      refine Qa hC [.br false,.n 8,.cm (.fn) [(200000,3)] [(3,200000)] [] [.d,.d] [(200000,.var (Qe vars2))] (.b x16),.n 5,.keep [4] []] rfl ⟨⟨tt_,hc15⟩,(QfS rec_expr_parts hrec_expr_parts _ _ hx16)⟩ ?_
      cases h
      exact AK.done (ex_ [_] (an_ (an_ rfl tt_) (gives tt_)))
theorem Qke : ∀(fuel:Nat) (e1:Qf) (vars2:Int) {r:Bool},QcW fuel e1 vars2=some r→Qc Tryz.prog 160 [.agg (Qk e1),.i .i64 vars2] [] (Qh (.b r) [])
 | 0,_,_,_,h=>by cases h
 | n+1,e1,vars2,_,h=>Qn0 (QcW n) (fun _ _ _ h=>Qke n _ _ h) e1 vars2 h
theorem Qpn (e1:Qf)(vars2:Int){r:Bool}(h:QkE e1 vars2=some r):Qc Tryz.prog 160 [.agg (Qk e1),.i .i64 vars2] [] (Qh (.b r) []):=Qke _ e1 vars2 h
def QiV (e1:Qf)(vars2:Int):Option Bool:=
 (QkC e1).bind fun x6=>
 bif (decide (x6≤40))then
 (Qlu e1).bind fun x8=>
 bif (decide (x8≤400))then
 (QkE e1 vars2).bind fun x10=>
 some x10
 else
 some false
 else
 some false
def Qg3 (x4:Bool):Option Bool:=
 some x4
def Qek (e1:Qf)(vars2:Int):Option Bool:=
 (QiV e1 vars2).bind (fun x4=>Qg3 x4)
theorem QiW (e1:Qf)(vars2:Int){r:Bool}(h:Qek e1 vars2=some r):Qc Tryz.prog 116 [.agg (Qk e1),.i .i64 vars2] [] (Qh (.b r) []):=by
 refine Qc.walk 18 Tryz.func116 rfl Tryz.ntmps116 rfl fun C hC=>?_
 unfold Qek at h
 refine Qa hC [.n 7] rfl tt_ ?_
 obtain⟨x4,hv5,h⟩:=Qb h
 replace h:Qg3 x4=some r:=h
 refine AK.meetX (fun σ=>σ=⟨[(4,.b x4)],[]⟩) ?_ ?_
 ·replace h:=hv5
  unfold QiV at h
  obtain⟨x6,hx6,h⟩:=Qb h
  refine Qa hC [.n 1,.v .no [] (.agg (Qk e1)),.o (.c false [.d] (.i .i64 x6)),.n 2] rfl ⟨⟨tt_,rfl⟩,(Qpl _ hx6)⟩ ?_
  rcases bifE h with⟨hc7,h⟩|⟨hc7,h⟩
  ·obtain⟨x8,hx8,h⟩:=Qb h
   refine Qa hC [.say 8 (.b true),.v .no [] (.agg (Qk e1)),.o (.c false [.d] (.i .i64 x8)),.n 3] rfl ⟨⟨⟨tt_,(congrArg V.b hc7)⟩,rfl⟩,(QpW _ hx8)⟩ ?_
   rcases bifE h with⟨hc9,h⟩|⟨hc9,h⟩
   ·obtain⟨x10,hx10,h⟩:=Qb h
    refine Qa hC [.say 13 (.b true),.v .no [] (.agg (Qk e1)),.n 1,.o (.c false [.d,.d] (.b x10)),.n 3,.keep [4] []] rfl ⟨⟨⟨tt_,(congrArg V.b hc9)⟩,rfl⟩,(Qpn _ _ hx10)⟩ ?_
    cases h
    exact AK.met rfl
   ·refine Qa hC [.say 13 (.b false),.n 6,.keep [4] []] rfl ⟨tt_,(congrArg V.b hc9)⟩ ?_
    cases h
    exact AK.met rfl
  ·refine Qa hC [.say 8 (.b false),.n 11,.keep [4] []] rfl ⟨tt_,(congrArg V.b hc7)⟩ ?_
   cases h
   exact AK.met rfl
 ·rintro σ rfl
  replace h:Qg3 x4=some r:=h
  unfold Qg3 at h
  refine Qa hC [.n 2,.keep [4] []] rfl tt_ ?_
  cases h
  exact AK.done (ex_ [_] (an_ (an_ rfl tt_) (gives tt_)))
def Qa8 (v1:(List Int))(kind2:Int)(x10:Bool):Option ((List Int)⊕((List Int)⊕((List Int)⊕((List Int)⊕(List Int))))):=
 bif x10 then
 some (.inr (.inr (.inl v1)))
 else
 bif (kind2==5)then
 some (.inr (.inr (.inr (.inl v1))))
 else
 some (.inr (.inr (.inr (.inr v1))))
def Qbr (v1:(List Int))(kind2:Int):Option ((List Int)⊕((List Int)⊕((List Int)⊕((List Int)⊕(List Int))))):=
 bif (kind2==1)then
 some (.inl v1)
 else
 bif (kind2==2)then
 some (.inr (.inl v1))
 else
 bif (kind2==3)then
 Qa8 v1 kind2 (kind2==3)
 else
 Qa8 v1 kind2 (kind2==4)
theorem Qdb (v1:(List Int))(kind2:Int){r:((List Int)⊕((List Int)⊕((List Int)⊕((List Int)⊕(List Int)))))}(h:Qbr v1 kind2=some r):Qc Tryz.prog 170 [.sl 1 (v1.map Qe),.i .i64 kind2] [] ((Sum.elim (fun q=>(Qh (.clo (.func 202) [.sl 1 (q.map Qe)] []) [])) (Sum.elim (fun q=>(Qh (.clo (.func 203) [.sl 1 (q.map Qe)] []) [])) (Sum.elim (fun q=>(Qh (.clo (.func 204) [.sl 1 (q.map Qe)] []) [])) (Sum.elim (fun q=>(Qh (.clo (.func 205) [.sl 1 (q.map Qe)] []) [])) (fun q=>(Qh (.clo (.func 206) [.sl 1 (q.map Qe)] []) [])))))) r):=by
 refine Qc.walk 25 Tryz.func170 rfl Tryz.ntmps170 rfl fun C hC=>?_
 unfold Qbr at h
 refine Qa hC [.n 18] rfl tt_ ?_
 rcases bifE h with⟨hc8,h⟩|⟨hc8,h⟩
 ·refine Qa hC [.br true,.n 10,.keep [4] []] rfl ⟨tt_,hc8⟩ ?_
  cases h
  exact AK.done (ex_ [_] (an_ (an_ rfl tt_) (gives tt_)))
 ·refine Qa hC [.br false,.n 6] rfl ⟨tt_,hc8⟩ ?_
  rcases bifE h with⟨hc9,h⟩|⟨hc9,h⟩
  ·refine Qa hC [.br true,.n 10,.keep [4] []] rfl ⟨tt_,hc9⟩ ?_
   cases h
   exact AK.done (ex_ [_] (an_ (an_ rfl tt_) (gives tt_)))
  ·refine Qa hC [.br false] rfl ⟨tt_,hc9⟩ ?_
   refine AK.meet (fun σ=>∃x10:Bool,σ=⟨[(0,.sl 1 (v1.map Qe)),(5,.i .i64 kind2),(14,.b x10)],[]⟩∧Qa8 v1 kind2 x10=some r) ?_ ?_
   ·refine Qa hC [.n 6] rfl tt_ ?_
    rcases bifE h with⟨hc13,h⟩|⟨hc13,h⟩
    ·refine Qa hC [.br true,.n 1,.keep [0,5,14] []] rfl ⟨tt_,hc13⟩ ?_
     exact AK.met (ex_ _ (an_ rfl h))
    ·refine Qa hC [.br false,.n 4,.keep [0,5,14] []] rfl ⟨tt_,hc13⟩ ?_
     exact AK.met (ex_ _ (an_ rfl h))
   ·rintro σ ⟨x10,rfl,h⟩
    unfold Qa8 at h
    rcases bifE h with⟨hc11,h⟩|⟨hc11,h⟩
    ·refine Qa hC [.br true,.n 10,.keep [4] []] rfl ⟨tt_,hc11⟩ ?_
     cases h
     exact AK.done (ex_ [_] (an_ (an_ rfl tt_) (gives tt_)))
    ·refine Qa hC [.br false,.n 6] rfl ⟨tt_,hc11⟩ ?_
     rcases bifE h with⟨hc12,h⟩|⟨hc12,h⟩
     ·refine Qa hC [.br true,.n 10,.keep [4] []] rfl ⟨tt_,hc12⟩ ?_
      cases h
      exact AK.done (ex_ [_] (an_ (an_ rfl tt_) (gives tt_)))
     ·refine Qa hC [.br false,.n 11,.keep [4] []] rfl ⟨tt_,hc12⟩ ?_
      cases h
      exact AK.done (ex_ [_] (an_ (an_ rfl tt_) (gives tt_)))
def QhX (v1:(List Int))(e2:Qf):Option (Int×Int):=
 some (e2.Num,0)
theorem Qmi (v1:(List Int))(e2:Qf){r:(Int×Int)}(h:QhX v1 e2=some r):Qc Tryz.prog 202 [.sl 1 (v1.map Qe),.agg (Qk e2)] [] (Qh (.tup [.i .i64 r.1,.i .i64 r.2]) []):=by
 refine Qc.walk 8 Tryz.func202 rfl Tryz.ntmps202 rfl fun C hC=>?_
 unfold QhX at h
 refine Qa hC [.n 16,.keep [4,5] []] rfl tt_ ?_
 cases h
 exact AK.done (ex_ [_,_] (an_ (an_ rfl (an_ rfl tt_)) (gives tt_)))
def QeJ (v1:(List Int))(e2:Qf):Option (Int×Int):=
 (idx v1 e2.Num).bind fun e5=>
 some (e5,0)
theorem Qlv (v1:(List Int))(e2:Qf){r:(Int×Int)}(h:QeJ v1 e2=some r):Qc Tryz.prog 203 [.sl 1 (v1.map Qe),.agg (Qk e2)] [] (Qh (.tup [.i .i64 r.1,.i .i64 r.2]) []):=by
 refine Qc.walk 11 Tryz.func203 rfl Tryz.ntmps203 rfl fun C hC=>?_
 unfold QeJ at h
 obtain⟨e5,he5,h⟩:=Qb h
 refine Qa hC [.n 12,.o (.row (Qe e5)),.n 6,.keep [4,5] []] rfl ⟨tt_,(idxM he5)⟩ ?_
 cases h
 exact AK.done (ex_ [_,_] (an_ (an_ rfl (an_ rfl tt_)) (gives tt_)))
def QiX (a1:Int)(b2:Int):Option (Int×Int):=
 bif (((decide (a1<0))==(decide (b2<0)))&&((decide ((w64 (a1+b2))<0)) != (decide (a1<0))))then
 some (0,6)
 else
 some ((w64 (a1+b2)),0)
theorem Qqq (a1:Int)(b2:Int){r:(Int×Int)}(h:QiX a1 b2=some r):Qc Tryz.prog 228 [.i .i64 a1,.i .i64 b2] [] (Qh (.tup [.i .i64 r.1,.i .i64 r.2]) []):=by
 refine Qc.walk 23 Tryz.func228 rfl Tryz.ntmps228 rfl fun C hC=>?_
 unfold QiX at h
 refine Qa hC [.n 16] rfl tt_ ?_
 refine AK.meetX (fun σ=>σ=⟨[(6,.i .i64 (w64 (a1+b2))),(21,.b (((decide (a1<0))==(decide (b2<0)))&&((decide ((w64 (a1+b2))<0)) != (decide (a1<0)))))],[]⟩) ?_ ?_
 ·refine Qa hC [.n 7] rfl tt_ ?_
  rcases QI ((decide (a1<0))==(decide (b2<0)))with hc8 | hc8
  ·refine Qa hC [.say 15 (.b true),.n 7,.say 21 (.b (((decide (a1<0))==(decide (b2<0)))&&((decide ((w64 (a1+b2))<0)) != (decide (a1<0))))),.keep [6,21] []] rfl ⟨⟨tt_,(congrArg V.b hc8)⟩,(congrArg V.b (andT hc8 rfl))⟩ ?_
   exact AK.met rfl
  ·refine Qa hC [.say 15 (.b false),.n 7,.say 21 (.b (((decide (a1<0))==(decide (b2<0)))&&((decide ((w64 (a1+b2))<0)) != (decide (a1<0))))),.keep [6,21] []] rfl ⟨⟨tt_,(congrArg V.b hc8)⟩,(congrArg V.b (andF hc8 rfl))⟩ ?_
   exact AK.met rfl
 ·rintro σ rfl
  refine Qa hC [.n 1] rfl tt_ ?_
  rcases bifE h with⟨hc9,h⟩|⟨hc9,h⟩
  ·refine Qa hC [.br true,.n 8,.keep [4,5] []] rfl ⟨tt_,hc9⟩ ?_
   cases h
   exact AK.done (ex_ [_,_] (an_ (an_ rfl (an_ rfl tt_)) (gives tt_)))
  ·refine Qa hC [.br false,.n 10,.keep [4,5] []] rfl ⟨tt_,hc9⟩ ?_
   cases h
   exact AK.done (ex_ [_,_] (an_ (an_ rfl (an_ rfl tt_)) (gives tt_)))
def QdJ (a1:Int)(b2:Int):Option (Int×Int):=
 bif (((decide (a1<0)) != (decide (b2<0)))&&((decide ((w64 (a1-b2))<0)) != (decide (a1<0))))then
 some (0,6)
 else
 some ((w64 (a1-b2)),0)
theorem Qmj (a1:Int)(b2:Int){r:(Int×Int)}(h:QdJ a1 b2=some r):Qc Tryz.prog 229 [.i .i64 a1,.i .i64 b2] [] (Qh (.tup [.i .i64 r.1,.i .i64 r.2]) []):=by
 refine Qc.walk 23 Tryz.func229 rfl Tryz.ntmps229 rfl fun C hC=>?_
 unfold QdJ at h
 refine Qa hC [.n 16] rfl tt_ ?_
 refine AK.meetX (fun σ=>σ=⟨[(6,.i .i64 (w64 (a1-b2))),(21,.b (((decide (a1<0)) != (decide (b2<0)))&&((decide ((w64 (a1-b2))<0)) != (decide (a1<0)))))],[]⟩) ?_ ?_
 ·refine Qa hC [.n 7] rfl tt_ ?_
  rcases QI ((decide (a1<0)) != (decide (b2<0)))with hc8 | hc8
  ·refine Qa hC [.say 15 (.b true),.n 7,.say 21 (.b (((decide (a1<0)) != (decide (b2<0)))&&((decide ((w64 (a1-b2))<0)) != (decide (a1<0))))),.keep [6,21] []] rfl ⟨⟨tt_,(congrArg V.b hc8)⟩,(congrArg V.b (andT hc8 rfl))⟩ ?_
   exact AK.met rfl
  ·refine Qa hC [.say 15 (.b false),.n 7,.say 21 (.b (((decide (a1<0)) != (decide (b2<0)))&&((decide ((w64 (a1-b2))<0)) != (decide (a1<0))))),.keep [6,21] []] rfl ⟨⟨tt_,(congrArg V.b hc8)⟩,(congrArg V.b (andF hc8 rfl))⟩ ?_
   exact AK.met rfl
 ·rintro σ rfl
  refine Qa hC [.n 1] rfl tt_ ?_
  rcases bifE h with⟨hc9,h⟩|⟨hc9,h⟩
  ·refine Qa hC [.br true,.n 8,.keep [4,5] []] rfl ⟨tt_,hc9⟩ ?_
   cases h
   exact AK.done (ex_ [_,_] (an_ (an_ rfl (an_ rfl tt_)) (gives tt_)))
  ·refine Qa hC [.br false,.n 10,.keep [4,5] []] rfl ⟨tt_,hc9⟩ ?_
   cases h
   exact AK.done (ex_ [_,_] (an_ (an_ rfl (an_ rfl tt_)) (gives tt_)))
def QgN (a1:Int):Option Int:=
 bif (decide (a1<0))then
 some (IntKind.u64.wrap (0-(IntKind.u64.wrap a1)))
 else
 some (IntKind.u64.wrap a1)
theorem QlL (a1:Int){r:Int}(h:QgN a1=some r):Qc Tryz.prog 235 [.i .i64 a1] [] (Qh (.i .u64 r) []):=by
 refine Qc.walk 10 Tryz.func235 rfl Tryz.ntmps235 rfl fun C hC=>?_
 unfold QgN at h
 refine Qa hC [.n 12] rfl tt_ ?_
 rcases bifE h with⟨hc4,h⟩|⟨hc4,h⟩
 ·refine Qa hC [.br true,.n 3,.o (.any (.i .u64 (IntKind.u64.wrap a1)) none),.n 6,.keep [2] []] rfl ⟨⟨tt_,hc4⟩,(fun σ h1 h2 _=>Stp.convI rfl rfl (bleN hC.n rfl) (h1 _ _ rfl) it_3 Qnf)⟩ ?_
  cases h
  exact AK.done (ex_ [_] (an_ (an_ rfl tt_) (gives tt_)))
 ·refine Qa hC [.br false,.n 5,.o (.any (.i .u64 (IntKind.u64.wrap a1)) none),.n 4,.keep [2] []] rfl ⟨⟨tt_,hc4⟩,(fun σ h1 h2 _=>Stp.convI rfl rfl (bleN hC.n rfl) (h1 _ _ rfl) it_3 Qnf)⟩ ?_
  cases h
  exact AK.done (ex_ [_] (an_ (an_ rfl tt_) (gives tt_)))
def QdK (p1:Int)(y2:Int):Option (Int×Int):=
 some ((IntKind.u64.wrap ((IntKind.u64.wrap ((IntKind.u64.wrap ((shrI .u64 p1 32)*(shrI .u64 y2 32)))+(shrI .u64 (IntKind.u64.wrap ((IntKind.u64.wrap ((shrI .u64 p1 32)*(andI .u64 y2 4294967295)))+(shrI .u64 (IntKind.u64.wrap ((andI .u64 p1 4294967295)*(andI .u64 y2 4294967295))) 32))) 32)))+(shrI .u64 (IntKind.u64.wrap ((andI .u64 (IntKind.u64.wrap ((IntKind.u64.wrap ((shrI .u64 p1 32)*(andI .u64 y2 4294967295)))+(shrI .u64 (IntKind.u64.wrap ((andI .u64 p1 4294967295)*(andI .u64 y2 4294967295))) 32))) 4294967295)+(IntKind.u64.wrap ((andI .u64 p1 4294967295)*(shrI .u64 y2 32))))) 32))),(IntKind.u64.wrap (p1*y2)))
theorem Qmk (p1:Int)(y2:Int){r:(Int×Int)}(h:QdK p1 y2=some r):Qc Tryz.prog 234 [.i .u64 p1,.i .u64 y2] [] (Qh (.tup [.i .u64 r.1,.i .u64 r.2]) []):=by
 refine Qc.walk 51 Tryz.func234 rfl Tryz.ntmps234 rfl fun C hC=>?_
 unfold QdK at h
 refine Qa hC [.n 9,.o (.any (.i .u64 (andI .u64 p1 4294967295)) none),.n 6,.o (.any (.i .u64 (shrI .u64 p1 32)) none),.n 6,.o (.any (.i .u64 (andI .u64 y2 4294967295)) none),.n 6,.o (.any (.i .u64 (shrI .u64 y2 32)) none),.n 17,.o (.any (.i .u64 (shrI .u64 (IntKind.u64.wrap ((andI .u64 p1 4294967295)*(andI .u64 y2 4294967295))) 32)) none),.n 7,.o (.any (.i .u64 (andI .u64 (IntKind.u64.wrap ((IntKind.u64.wrap ((shrI .u64 p1 32)*(andI .u64 y2 4294967295)))+(shrI .u64 (IntKind.u64.wrap ((andI .u64 p1 4294967295)*(andI .u64 y2 4294967295))) 32))) 4294967295)) none),.n 6,.o (.any (.i .u64 (shrI .u64 (IntKind.u64.wrap ((IntKind.u64.wrap ((shrI .u64 p1 32)*(andI .u64 y2 4294967295)))+(shrI .u64 (IntKind.u64.wrap ((andI .u64 p1 4294967295)*(andI .u64 y2 4294967295))) 32))) 32)) none),.n 21,.o (.any (.i .u64 (shrI .u64 (IntKind.u64.wrap ((andI .u64 (IntKind.u64.wrap ((IntKind.u64.wrap ((shrI .u64 p1 32)*(andI .u64 y2 4294967295)))+(shrI .u64 (IntKind.u64.wrap ((andI .u64 p1 4294967295)*(andI .u64 y2 4294967295))) 32))) 4294967295)+(IntKind.u64.wrap ((andI .u64 p1 4294967295)*(shrI .u64 y2 32))))) 32)) none),.n 13,.keep [4,5] []] rfl ⟨⟨⟨⟨⟨⟨⟨⟨tt_,(fun σ h1 h2 _=>Stp.andB rfl rfl (bleN hC.n rfl) (h1 _ _ rfl) (h1 _ _ rfl))⟩,(fun σ h1 h2 _=>Stp.shr rfl rfl (bleN hC.n rfl) (h1 _ _ rfl) (h1 _ _ rfl) (by decide))⟩,(fun σ h1 h2 _=>Stp.andB rfl rfl (bleN hC.n rfl) (h1 _ _ rfl) (h1 _ _ rfl))⟩,(fun σ h1 h2 _=>Stp.shr rfl rfl (bleN hC.n rfl) (h1 _ _ rfl) (h1 _ _ rfl) (by decide))⟩,(fun σ h1 h2 _=>Stp.shr rfl rfl (bleN hC.n rfl) (h1 _ _ rfl) (h1 _ _ rfl) (by decide))⟩,(fun σ h1 h2 _=>Stp.andB rfl rfl (bleN hC.n rfl) (h1 _ _ rfl) (h1 _ _ rfl))⟩,(fun σ h1 h2 _=>Stp.shr rfl rfl (bleN hC.n rfl) (h1 _ _ rfl) (h1 _ _ rfl) (by decide))⟩,(fun σ h1 h2 _=>Stp.shr rfl rfl (bleN hC.n rfl) (h1 _ _ rfl) (h1 _ _ rfl) (by decide))⟩ ?_
 cases h
 exact AK.done (ex_ [_,_] (an_ (an_ rfl (an_ rfl tt_)) (gives tt_)))
def QcB (x9:(Int×Int))(a1:Int)(b2:Int)(most10:Int):Option (Int×Int):=
 bif ((decide (0<x9.1))||(decide (most10<x9.2)))then
 some (0,6)
 else
 some ((w64 (a1*b2)),0)
def QfT (a1:Int)(b2:Int):Option (Int×Int):=
 (QgN a1).bind fun x7=>
 (QgN b2).bind fun x8=>
 (QdK x7 x8).bind fun x9=>
 bif ((decide (a1<0)) != (decide (b2<0)))then
 QcB x9 a1 b2 (IntKind.u64.wrap (9223372036854775807+1))
 else
 QcB x9 a1 b2 9223372036854775807
theorem Qn1 (a1:Int)(b2:Int){r:(Int×Int)}(h:QfT a1 b2=some r):Qc Tryz.prog 230 [.i .i64 a1,.i .i64 b2] [] (Qh (.tup [.i .i64 r.1,.i .i64 r.2]) []):=by
 refine Qc.walk 34 Tryz.func230 rfl Tryz.ntmps230 rfl fun C hC=>?_
 unfold QfT at h
 obtain⟨x7,hx7,h⟩:=Qb h
 obtain⟨x8,hx8,h⟩:=Qb h
 obtain⟨x9,hx9,h⟩:=Qb h
 refine Qa hC [.n 9,.o (.c false [.d] (.i .u64 x7)),.n 1,.o (.c false [.d] (.i .u64 x8)),.o (.c false [.d,.d] (.tup [.i .u64 x9.1,.i .u64 x9.2])),.n 12] rfl ⟨⟨⟨tt_,(QlL _ hx7)⟩,(QlL _ hx8)⟩,(Qmk _ _ hx9)⟩ ?_
 refine AK.meet (fun σ=>∃most10:Int,σ=⟨[(0,.i .i64 a1),(1,.i .i64 b2),(6,.i .u64 x9.1),(7,.i .u64 x9.2),(8,.i .u64 most10)],[]⟩∧QcB x9 a1 b2 most10=some r) ?_ ?_
 ·refine Qa hC [.n 9] rfl tt_ ?_
  rcases bifE h with⟨hc14,h⟩|⟨hc14,h⟩
  ·refine Qa hC [.br true,.n 5,.keep [0,1,6,7,8] []] rfl ⟨tt_,hc14⟩ ?_
   exact AK.met (ex_ _ (an_ rfl h))
  ·refine Qa hC [.br false,.n 1,.keep [0,1,6,7,8] []] rfl ⟨tt_,hc14⟩ ?_
   exact AK.met (ex_ _ (an_ rfl h))
 ·rintro σ ⟨most10,rfl,h⟩
  unfold QcB at h
  refine Qa hC [.n 2] rfl tt_ ?_
  refine AK.meetX (fun σ=>σ=⟨[(0,.i .i64 a1),(1,.i .i64 b2),(30,.b ((decide (0<x9.1))||(decide (most10<x9.2))))],[]⟩) ?_ ?_
  ·refine Qa hC [.n 4] rfl tt_ ?_
   rcases QI (decide (0<x9.1))with hc12 | hc12
   ·refine Qa hC [.say 26 (.b true),.n 5,.say 30 (.b ((decide (0<x9.1))||(decide (most10<x9.2)))),.keep [0,1,30] []] rfl ⟨⟨tt_,(congrArg V.b hc12)⟩,(congrArg V.b (orT hc12 rfl))⟩ ?_
    exact AK.met rfl
   ·refine Qa hC [.say 26 (.b false),.n 5,.say 30 (.b ((decide (0<x9.1))||(decide (most10<x9.2)))),.keep [0,1,30] []] rfl ⟨⟨tt_,(congrArg V.b hc12)⟩,(congrArg V.b (orF hc12 rfl))⟩ ?_
    exact AK.met rfl
  ·rintro σ rfl
   refine Qa hC [.n 1] rfl tt_ ?_
   rcases bifE h with⟨hc13,h⟩|⟨hc13,h⟩
   ·refine Qa hC [.br true,.n 8,.keep [4,5] []] rfl ⟨tt_,hc13⟩ ?_
    cases h
    exact AK.done (ex_ [_,_] (an_ (an_ rfl (an_ rfl tt_)) (gives tt_)))
   ·refine Qa hC [.br false,.n 12,.keep [4,5] []] rfl ⟨tt_,hc13⟩ ?_
    cases h
    exact AK.done (ex_ [_,_] (an_ (an_ rfl (an_ rfl tt_)) (gives tt_)))
def Qdq (a1:Int)(b2:Int):Option (Int×Int×Int):=
 bif (b2==0)then
 some (0,0,7)
 else
 bif ((a1==(-9223372036854775808))&&(b2==(-1)))then
 some (0,0,6)
 else
 (chk (b2 != 0)).bind fun _=>
 (chk (b2 != 0)).bind fun _=>
 some ((w64 (Int.tdiv a1 b2)),(Int.tmod a1 b2),0)
theorem QjW (a1:Int)(b2:Int){r:(Int×Int×Int)}(h:Qdq a1 b2=some r):Qc Tryz.prog 231 [.i .i64 a1,.i .i64 b2] [] (Qh (.tup [.i .i64 r.1,.i .i64 r.2.1,.i .i64 r.2.2]) []):=by
 refine Qc.walk 23 Tryz.func231 rfl Tryz.ntmps231 rfl fun C hC=>?_
 unfold Qdq at h
 refine Qa hC [.n 16] rfl tt_ ?_
 rcases bifE h with⟨hc9,h⟩|⟨hc9,h⟩
 ·refine Qa hC [.br true,.n 10,.keep [4,5,6] []] rfl ⟨tt_,hc9⟩ ?_
  cases h
  exact AK.done (ex_ [_,_,_] (an_ (an_ rfl (an_ rfl (an_ rfl tt_))) (gives tt_)))
 ·refine Qa hC [.br false,.n 1] rfl ⟨tt_,hc9⟩ ?_
  refine AK.meetX (fun σ=>σ=⟨[(0,.i .i64 a1),(1,.i .i64 b2),(10,.b ((a1==(-9223372036854775808))&&(b2==(-1))))],[]⟩) ?_ ?_
  ·refine Qa hC [.n 4] rfl tt_ ?_
   rcases QI (a1==(-9223372036854775808))with hc11 | hc11
   ·refine Qa hC [.say 13 (.b true),.n 5,.say 10 (.b ((a1==(-9223372036854775808))&&(b2==(-1)))),.keep [0,1,10] []] rfl ⟨⟨tt_,(congrArg V.b hc11)⟩,(congrArg V.b (andT hc11 rfl))⟩ ?_
    exact AK.met rfl
   ·refine Qa hC [.say 13 (.b false),.n 5,.say 10 (.b ((a1==(-9223372036854775808))&&(b2==(-1)))),.keep [0,1,10] []] rfl ⟨⟨tt_,(congrArg V.b hc11)⟩,(congrArg V.b (andF hc11 rfl))⟩ ?_
    exact AK.met rfl
  ·rintro σ rfl
   refine Qa hC [.n 1] rfl tt_ ?_
   rcases bifE h with⟨hc12,h⟩|⟨hc12,h⟩
   ·refine Qa hC [.br true,.n 10,.keep [4,5,6] []] rfl ⟨tt_,hc12⟩ ?_
    cases h
    exact AK.done (ex_ [_,_,_] (an_ (an_ rfl (an_ rfl (an_ rfl tt_))) (gives tt_)))
   ·obtain⟨_,hk13,h⟩:=Qb h
    replace hk13:=chkE hk13
    obtain⟨_,hk14,h⟩:=Qb h
    replace hk14:=chkE hk14
    refine Qa hC [.br false,.n 4,.keep [0,1] []] rfl ⟨tt_,hc12⟩ ?_
    refine AK.draw2 Qo hC mixed [.a .no none false,.a .no none false,.a .no none false,.a .no none false,.a .no none false,.a .no none false,.a .no none false,.a .no none false,.a .no none false] [] [] [4,5,6] [] rfl rfl rfl ⟨⟨tt_,(neZ hk13)⟩,(neZ hk14)⟩ rfl (by kernel_rfl) rfl rfl rfl ?_
    refine Qa hC [.n 2,.keep [4,5,6] []] rfl tt_ ?_
    cases h
    exact AK.done (ex_ [_,_,_] (an_ (an_ rfl (an_ rfl (an_ rfl tt_))) (gives tt_)))
def Qb4 (is1:Bool):Option (Int×Int):=
 bif is1 then
 some (1,0)
 else
 some (0,0)
theorem QcC (is1:Bool){r:(Int×Int)}(h:Qb4 is1=some r):Qc Tryz.prog 232 [.b is1] [] (Qh (.tup [.i .i64 r.1,.i .i64 r.2]) []):=by
 refine Qc.walk 5 Tryz.func232 rfl Tryz.ntmps232 rfl fun C hC=>?_
 unfold Qb4 at h
 refine Qa hC [.n 12] rfl tt_ ?_
 rcases bifE h with⟨hc5,h⟩|⟨hc5,h⟩
 ·refine Qa hC [.br true,.n 8,.keep [2,3] []] rfl ⟨tt_,hc5⟩ ?_
  cases h
  exact AK.done (ex_ [_,_] (an_ (an_ rfl (an_ rfl tt_)) (gives tt_)))
 ·refine Qa hC [.br false,.n 9,.keep [2,3] []] rfl ⟨tt_,hc5⟩ ?_
  cases h
  exact AK.done (ex_ [_,_] (an_ (an_ rfl (an_ rfl tt_)) (gives tt_)))
def QkF (a2:Int)(b3:Int):Option (Int×Int):=
 bif (a2 != 0)then
 (Qb4 (b3 != 0)).bind fun x31=>
 some (x31.1,x31.2)
 else
 (Qb4 false).bind fun x32=>
 some (x32.1,x32.2)
def Qhk (x27:Int)(x28:Int):Option (Int×Int):=
 some (x27,x28)
def QkG (a2:Int)(b3:Int):Option (Int×Int):=
 bif (a2 != 0)then
 (Qb4 true).bind fun x38=>
 some (x38.1,x38.2)
 else
 (Qb4 (b3 != 0)).bind fun x39=>
 some (x39.1,x39.2)
def Qhl (x34:Int)(x35:Int):Option (Int×Int):=
 some (x34,x35)
def Qgf (op1:Int)(a2:Int)(b3:Int):Option (Int×Int):=
 bif (op1==1)then
 (QiX a2 b3).bind fun x9=>
 some (x9.1,x9.2)
 else
 bif (op1==2)then
 (QdJ a2 b3).bind fun x11=>
 some (x11.1,x11.2)
 else
 bif (op1==3)then
 (QfT a2 b3).bind fun x13=>
 some (x13.1,x13.2)
 else
 bif (op1==4)then
 (Qdq a2 b3).bind fun x15=>
 some (x15.1,x15.2.2)
 else
 bif (op1==5)then
 (Qdq a2 b3).bind fun x17=>
 some (x17.2.1,x17.2.2)
 else
 bif (op1==6)then
 (Qb4 (a2==b3)).bind fun x19=>
 some (x19.1,x19.2)
 else
 bif (op1==7)then
 (Qb4 (a2 != b3)).bind fun x21=>
 some (x21.1,x21.2)
 else
 bif (op1==8)then
 (Qb4 (decide (a2<b3))).bind fun x23=>
 some (x23.1,x23.2)
 else
 bif (op1==9)then
 (Qb4 (decide (a2≤b3))).bind fun x25=>
 some (x25.1,x25.2)
 else
 bif (op1==10)then
 (QkF a2 b3).bind (fun v=>Qhk v.1 v.2)
 else
 bif (op1==11)then
 (QkG a2 b3).bind (fun v=>Qhl v.1 v.2)
 else
 some (0,1)
theorem QiY (op1:Int)(a2:Int)(b3:Int){r:(Int×Int)}(h:Qgf op1 a2 b3=some r):Qc Tryz.prog 224 [.i .i64 op1,.i .i64 a2,.i .i64 b3] [] (Qh (.tup [.i .i64 r.1,.i .i64 r.2]) []):=by
 refine Qc.walk 112 Tryz.func224 rfl Tryz.ntmps224 rfl fun C hC=>?_
 unfold Qgf at h
 refine Qa hC [.n 19] rfl tt_ ?_
 rcases bifE h with⟨hc8,h⟩|⟨hc8,h⟩
 ·obtain⟨x9,hx9,h⟩:=Qb h
  refine Qa hC [.br true,.n 4,.o (.c false [.d,.d] (.tup [.i .i64 x9.1,.i .i64 x9.2])),.n 9,.keep [6,7] []] rfl ⟨⟨tt_,hc8⟩,(Qqq _ _ hx9)⟩ ?_
  cases h
  exact AK.done (ex_ [_,_] (an_ (an_ rfl (an_ rfl tt_)) (gives tt_)))
 ·refine Qa hC [.br false,.n 6] rfl ⟨tt_,hc8⟩ ?_
  rcases bifE h with⟨hc10,h⟩|⟨hc10,h⟩
  ·obtain⟨x11,hx11,h⟩:=Qb h
   refine Qa hC [.br true,.n 4,.o (.c false [.d,.d] (.tup [.i .i64 x11.1,.i .i64 x11.2])),.n 9,.keep [6,7] []] rfl ⟨⟨tt_,hc10⟩,(Qmj _ _ hx11)⟩ ?_
   cases h
   exact AK.done (ex_ [_,_] (an_ (an_ rfl (an_ rfl tt_)) (gives tt_)))
  ·refine Qa hC [.br false,.n 6] rfl ⟨tt_,hc10⟩ ?_
   rcases bifE h with⟨hc12,h⟩|⟨hc12,h⟩
   ·obtain⟨x13,hx13,h⟩:=Qb h
    refine Qa hC [.br true,.n 4,.o (.c false [.d,.d] (.tup [.i .i64 x13.1,.i .i64 x13.2])),.n 9,.keep [6,7] []] rfl ⟨⟨tt_,hc12⟩,(Qn1 _ _ hx13)⟩ ?_
    cases h
    exact AK.done (ex_ [_,_] (an_ (an_ rfl (an_ rfl tt_)) (gives tt_)))
   ·refine Qa hC [.br false,.n 6] rfl ⟨tt_,hc12⟩ ?_
    rcases bifE h with⟨hc14,h⟩|⟨hc14,h⟩
    ·obtain⟨x15,hx15,h⟩:=Qb h
     refine Qa hC [.br true,.n 4,.o (.c false [.d,.d] (.tup [.i .i64 x15.1,.i .i64 x15.2.1,.i .i64 x15.2.2])),.n 20,.keep [6,7] []] rfl ⟨⟨tt_,hc14⟩,(QjW _ _ hx15)⟩ ?_
     cases h
     exact AK.done (ex_ [_,_] (an_ (an_ rfl (an_ rfl tt_)) (gives tt_)))
    ·refine Qa hC [.br false,.n 6] rfl ⟨tt_,hc14⟩ ?_
     rcases bifE h with⟨hc16,h⟩|⟨hc16,h⟩
     ·obtain⟨x17,hx17,h⟩:=Qb h
      refine Qa hC [.br true,.n 4,.o (.c false [.d,.d] (.tup [.i .i64 x17.1,.i .i64 x17.2.1,.i .i64 x17.2.2])),.n 20,.keep [6,7] []] rfl ⟨⟨tt_,hc16⟩,(QjW _ _ hx17)⟩ ?_
      cases h
      exact AK.done (ex_ [_,_] (an_ (an_ rfl (an_ rfl tt_)) (gives tt_)))
     ·refine Qa hC [.br false,.n 6] rfl ⟨tt_,hc16⟩ ?_
      rcases bifE h with⟨hc18,h⟩|⟨hc18,h⟩
      ·obtain⟨x19,hx19,h⟩:=Qb h
       refine Qa hC [.br true,.n 5,.o (.c false [.d] (.tup [.i .i64 x19.1,.i .i64 x19.2])),.n 9,.keep [6,7] []] rfl ⟨⟨tt_,hc18⟩,(QcC _ hx19)⟩ ?_
       cases h
       exact AK.done (ex_ [_,_] (an_ (an_ rfl (an_ rfl tt_)) (gives tt_)))
      ·refine Qa hC [.br false,.n 6] rfl ⟨tt_,hc18⟩ ?_
       rcases bifE h with⟨hc20,h⟩|⟨hc20,h⟩
       ·obtain⟨x21,hx21,h⟩:=Qb h
        refine Qa hC [.br true,.n 5,.o (.c false [.d] (.tup [.i .i64 x21.1,.i .i64 x21.2])),.n 9,.keep [6,7] []] rfl ⟨⟨tt_,hc20⟩,(QcC _ hx21)⟩ ?_
        cases h
        exact AK.done (ex_ [_,_] (an_ (an_ rfl (an_ rfl tt_)) (gives tt_)))
       ·refine Qa hC [.br false,.n 6] rfl ⟨tt_,hc20⟩ ?_
        rcases bifE h with⟨hc22,h⟩|⟨hc22,h⟩
        ·obtain⟨x23,hx23,h⟩:=Qb h
         refine Qa hC [.br true,.n 5,.o (.c false [.d] (.tup [.i .i64 x23.1,.i .i64 x23.2])),.n 9,.keep [6,7] []] rfl ⟨⟨tt_,hc22⟩,(QcC _ hx23)⟩ ?_
         cases h
         exact AK.done (ex_ [_,_] (an_ (an_ rfl (an_ rfl tt_)) (gives tt_)))
        ·refine Qa hC [.br false,.n 6] rfl ⟨tt_,hc22⟩ ?_
         rcases bifE h with⟨hc24,h⟩|⟨hc24,h⟩
         ·obtain⟨x25,hx25,h⟩:=Qb h
          refine Qa hC [.br true,.n 5,.o (.c false [.d] (.tup [.i .i64 x25.1,.i .i64 x25.2])),.n 9,.keep [6,7] []] rfl ⟨⟨tt_,hc24⟩,(QcC _ hx25)⟩ ?_
          cases h
          exact AK.done (ex_ [_,_] (an_ (an_ rfl (an_ rfl tt_)) (gives tt_)))
         ·refine Qa hC [.br false,.n 6] rfl ⟨tt_,hc24⟩ ?_
          rcases bifE h with⟨hc26,h⟩|⟨hc26,h⟩
          ·refine Qa hC [.br true,.n 1] rfl ⟨tt_,hc26⟩ ?_
           obtain⟨v,hv29,h⟩:=Qb h
           replace h:Qhk v.1 v.2=some r:=h
           refine AK.meetX (fun σ=>σ=⟨[(6,.i .i64 v.1),(7,.i .i64 v.2)],[]⟩) ?_ ?_
           ·replace h:=hv29
            unfold QkF at h
            refine Qa hC [.n 4] rfl tt_ ?_
            rcases bifE h with⟨hc30,h⟩|⟨hc30,h⟩
            ·obtain⟨x31,hx31,h⟩:=Qb h
             refine Qa hC [.say 94 (.b true),.n 3,.o (.c false [.d] (.tup [.i .i64 x31.1,.i .i64 x31.2])),.n 5,.keep [6,7] []] rfl ⟨⟨tt_,(congrArg V.b hc30)⟩,(QcC _ hx31)⟩ ?_
             cases h
             exact AK.met rfl
            ·obtain⟨x32,hx32,h⟩:=Qb h
             refine Qa hC [.say 94 (.b false),.n 3,.o (.c false [.d] (.tup [.i .i64 x32.1,.i .i64 x32.2])),.n 5,.keep [6,7] []] rfl ⟨⟨tt_,(congrArg V.b hc30)⟩,(QcC _ hx32)⟩ ?_
             cases h
             exact AK.met rfl
           ·rintro σ rfl
            obtain⟨x27,x28⟩:=v
            replace h:Qhk x27 x28=some r:=h
            unfold Qhk at h
            refine Qa hC [.n 4,.keep [6,7] []] rfl tt_ ?_
            cases h
            exact AK.done (ex_ [_,_] (an_ (an_ rfl (an_ rfl tt_)) (gives tt_)))
          ·refine Qa hC [.br false,.n 6] rfl ⟨tt_,hc26⟩ ?_
           rcases bifE h with⟨hc33,h⟩|⟨hc33,h⟩
           ·refine Qa hC [.br true,.n 1] rfl ⟨tt_,hc33⟩ ?_
            obtain⟨v,hv36,h⟩:=Qb h
            replace h:Qhl v.1 v.2=some r:=h
            refine AK.meetX (fun σ=>σ=⟨[(6,.i .i64 v.1),(7,.i .i64 v.2)],[]⟩) ?_ ?_
            ·replace h:=hv36
             unfold QkG at h
             refine Qa hC [.n 4] rfl tt_ ?_
             rcases bifE h with⟨hc37,h⟩|⟨hc37,h⟩
             ·obtain⟨x38,hx38,h⟩:=Qb h
              refine Qa hC [.say 105 (.b true),.n 3,.o (.c false [.d] (.tup [.i .i64 x38.1,.i .i64 x38.2])),.n 5,.keep [6,7] []] rfl ⟨⟨tt_,(congrArg V.b hc37)⟩,(QcC _ hx38)⟩ ?_
              cases h
              exact AK.met rfl
             ·obtain⟨x39,hx39,h⟩:=Qb h
              refine Qa hC [.say 105 (.b false),.n 3,.o (.c false [.d] (.tup [.i .i64 x39.1,.i .i64 x39.2])),.n 5,.keep [6,7] []] rfl ⟨⟨tt_,(congrArg V.b hc37)⟩,(QcC _ hx39)⟩ ?_
              cases h
              exact AK.met rfl
            ·rintro σ rfl
             obtain⟨x34,x35⟩:=v
             replace h:Qhl x34 x35=some r:=h
             unfold Qhl at h
             refine Qa hC [.n 4,.keep [6,7] []] rfl tt_ ?_
             cases h
             exact AK.done (ex_ [_,_] (an_ (an_ rfl (an_ rfl tt_)) (gives tt_)))
           ·refine Qa hC [.br false,.n 10,.keep [6,7] []] rfl ⟨tt_,hc33⟩ ?_
            cases h
            exact AK.done (ex_ [_,_] (an_ (an_ rfl (an_ rfl tt_)) (gives tt_)))
def QiZ (a1:Int):Option (Int×Int):=
 (Qgf 2 0 a1).bind fun x4=>
 some (x4.1,x4.2)
theorem Qqr (a1:Int){r:(Int×Int)}(h:QiZ a1=some r):Qc Tryz.prog 223 [.i .i64 a1] [] (Qh (.tup [.i .i64 r.1,.i .i64 r.2]) []):=by
 refine Qc.walk 8 Tryz.func223 rfl Tryz.ntmps223 rfl fun C hC=>?_
 unfold QiZ at h
 obtain⟨x4,hx4,h⟩:=Qb h
 refine Qa hC [.n 9,.o (.c false [.d,.d,.d] (.tup [.i .i64 x4.1,.i .i64 x4.2])),.n 7,.keep [2,3] []] rfl ⟨tt_,(QiY _ _ _ hx4)⟩ ?_
 cases h
 exact AK.done (ex_ [_,_] (an_ (an_ rfl (an_ rfl tt_)) (gives tt_)))
def QdL (rec_expr_env_eval:(List Int)→Qf→Option (Int×Int))(v1:(List Int))(e2:Qf):Option (Int×Int):=
 (idx e2.Kids 0).bind fun e7=>
 (rec_expr_env_eval v1 e7).bind fun x8=>
 bif (x8.2 != 0)then
 some (0,x8.2)
 else
 bif (e2.Kind==3)then
 (QiZ x8.1).bind fun x11=>
 some (x11.1,x11.2)
 else
 (Qgf 6 x8.1 0).bind fun x12=>
 some (x12.1,x12.2)
theorem Qml (rec_expr_env_eval:(List Int)→Qf→Option (Int×Int))(hrec_expr_env_eval:∀(v1:(List Int)) (e2:Qf) {r:(Int×Int)},rec_expr_env_eval v1 e2=some r→Qc Tryz.prog 125 [.sl 1 (v1.map Qe),.agg (Qk e2)] [] (Qh (.tup [.i .i64 r.1,.i .i64 r.2]) []))(v1:(List Int))(e2:Qf){r:(Int×Int)}(h:QdL rec_expr_env_eval v1 e2=some r):Qc Tryz.prog 204 [.sl 1 (v1.map Qe),.agg (Qk e2)] [] (Qh (.tup [.i .i64 r.1,.i .i64 r.2]) []):=by
 refine Qc.walk 33 Tryz.func204 rfl Tryz.ntmps204 rfl fun C hC=>?_
 unfold QdL at h
 obtain⟨e7,he7,h⟩:=Qb h
 obtain⟨x8,hx8,h⟩:=Qb h
 refine Qa hC [.n 12,.o (.row (Qk e7)),.v .no [] (.agg (Qk e7)),.o (.c false [.d,.d] (.tup [.i .i64 x8.1,.i .i64 x8.2])),.n 16] rfl ⟨⟨⟨tt_,(Qc2 he7)⟩,rfl⟩,(hrec_expr_env_eval _ _ hx8)⟩ ?_
 rcases bifE h with⟨hc9,h⟩|⟨hc9,h⟩
 ·refine Qa hC [.br true,.n 10,.keep [4,5] []] rfl ⟨tt_,hc9⟩ ?_
  cases h
  exact AK.done (ex_ [_,_] (an_ (an_ rfl (an_ rfl tt_)) (gives tt_)))
 ·refine Qa hC [.br false,.n 8] rfl ⟨tt_,hc9⟩ ?_
  rcases bifE h with⟨hc10,h⟩|⟨hc10,h⟩
  ·obtain⟨x11,hx11,h⟩:=Qb h
   refine Qa hC [.br true,.n 3,.o (.c false [.d] (.tup [.i .i64 x11.1,.i .i64 x11.2])),.n 9,.keep [4,5] []] rfl ⟨⟨tt_,hc10⟩,(Qqr _ hx11)⟩ ?_
   cases h
   exact AK.done (ex_ [_,_] (an_ (an_ rfl (an_ rfl tt_)) (gives tt_)))
  ·obtain⟨x12,hx12,h⟩:=Qb h
   refine Qa hC [.br false,.n 6,.o (.c false [.d,.d,.d] (.tup [.i .i64 x12.1,.i .i64 x12.2])),.n 7,.keep [4,5] []] rfl ⟨⟨tt_,hc10⟩,(QiY _ _ _ hx12)⟩ ?_
   cases h
   exact AK.done (ex_ [_,_] (an_ (an_ rfl (an_ rfl tt_)) (gives tt_)))
def QbR (x8:(Int×Int))(e2:Qf)(rec_expr_env_eval:(List Int)→Qf→Option (Int×Int))(v1:(List Int))(x10:Bool):Option (Int×Int):=
 bif x10 then
 (Qgf 7 x8.1 0).bind fun x12=>
 some (x12.1,x12.2)
 else
 (idx e2.Kids 1).bind fun e13=>
 (rec_expr_env_eval v1 e13).bind fun x14=>
 bif (x14.2 != 0)then
 some (0,x14.2)
 else
 (Qgf e2.Num x8.1 x14.1).bind fun x16=>
 some (x16.1,x16.2)
def QhK (rec_expr_env_eval:(List Int)→Qf→Option (Int×Int))(v1:(List Int))(e2:Qf):Option (Int×Int):=
 (idx e2.Kids 0).bind fun e7=>
 (rec_expr_env_eval v1 e7).bind fun x8=>
 bif (x8.2 != 0)then
 some (0,x8.2)
 else
 bif ((e2.Num==10)&&(x8.1==0))then
 QbR x8 e2 rec_expr_env_eval v1 ((e2.Num==10)&&(x8.1==0))
 else
 bif (e2.Num==11)then
 QbR x8 e2 rec_expr_env_eval v1 (x8.1 != 0)
 else
 QbR x8 e2 rec_expr_env_eval v1 false
theorem Qn2 (rec_expr_env_eval:(List Int)→Qf→Option (Int×Int))(hrec_expr_env_eval:∀(v1:(List Int)) (e2:Qf) {r:(Int×Int)},rec_expr_env_eval v1 e2=some r→Qc Tryz.prog 125 [.sl 1 (v1.map Qe),.agg (Qk e2)] [] (Qh (.tup [.i .i64 r.1,.i .i64 r.2]) []))(v1:(List Int))(e2:Qf){r:(Int×Int)}(h:QhK rec_expr_env_eval v1 e2=some r):Qc Tryz.prog 205 [.sl 1 (v1.map Qe),.agg (Qk e2)] [] (Qh (.tup [.i .i64 r.1,.i .i64 r.2]) []):=by
 refine Qc.walk 60 Tryz.func205 rfl Tryz.ntmps205 rfl fun C hC=>?_
 unfold QhK at h
 obtain⟨e7,he7,h⟩:=Qb h
 obtain⟨x8,hx8,h⟩:=Qb h
 refine Qa hC [.n 12,.o (.row (Qk e7)),.v .no [] (.agg (Qk e7)),.o (.c false [.d,.d] (.tup [.i .i64 x8.1,.i .i64 x8.2])),.n 16] rfl ⟨⟨⟨tt_,(Qc2 he7)⟩,rfl⟩,(hrec_expr_env_eval _ _ hx8)⟩ ?_
 rcases bifE h with⟨hc9,h⟩|⟨hc9,h⟩
 ·refine Qa hC [.br true,.n 10,.keep [4,5] []] rfl ⟨tt_,hc9⟩ ?_
  cases h
  exact AK.done (ex_ [_,_] (an_ (an_ rfl (an_ rfl tt_)) (gives tt_)))
 ·refine Qa hC [.br false] rfl ⟨tt_,hc9⟩ ?_
  refine AK.meet (fun σ=>∃x10:Bool,σ=⟨[(0,.sl 1 (v1.map Qe)),(3,.loc 3 0 0),(6,.i .i64 x8.1),(22,.b x10)],[(3,.var (Qk e2))]⟩∧QbR x8 e2 rec_expr_env_eval v1 x10=some r) ?_ ?_
  ·refine Qa hC [.n 1] rfl tt_ ?_
   refine AK.meetX (fun σ=>σ=⟨[(0,.sl 1 (v1.map Qe)),(3,.loc 3 0 0),(6,.i .i64 x8.1),(22,.b ((e2.Num==10)&&(x8.1==0)))],[(3,.var (Qk e2))]⟩) ?_ ?_
   ·refine Qa hC [.n 5] rfl tt_ ?_
    rcases QI (e2.Num==10)with hc18 | hc18
    ·refine Qa hC [.say 26 (.b true),.n 5,.say 22 (.b ((e2.Num==10)&&(x8.1==0))),.keep [0,3,6,22] [3]] rfl ⟨⟨tt_,(congrArg V.b hc18)⟩,(congrArg V.b (andT hc18 rfl))⟩ ?_
     exact AK.met rfl
    ·refine Qa hC [.say 26 (.b false),.n 5,.say 22 (.b ((e2.Num==10)&&(x8.1==0))),.keep [0,3,6,22] [3]] rfl ⟨⟨tt_,(congrArg V.b hc18)⟩,(congrArg V.b (andF hc18 rfl))⟩ ?_
     exact AK.met rfl
   ·rintro σ rfl
    refine Qa hC [.n 1] rfl tt_ ?_
    rcases bifE h with⟨hc19,h⟩|⟨hc19,h⟩
    ·refine Qa hC [.br true,.n 1,.keep [0,3,6,22] [3]] rfl ⟨tt_,hc19⟩ ?_
     exact AK.met (ex_ _ (an_ rfl h))
    ·refine Qa hC [.br false,.n 5] rfl ⟨tt_,hc19⟩ ?_
     rcases bifE h with⟨hc20,h⟩|⟨hc20,h⟩
     ·refine Qa hC [.say 33 (.b true),.n 5,.keep [0,3,6,22] [3]] rfl ⟨tt_,(congrArg V.b hc20)⟩ ?_
      exact AK.met (ex_ _ (an_ rfl h))
     ·refine Qa hC [.say 33 (.b false),.n 5,.keep [0,3,6,22] [3]] rfl ⟨tt_,(congrArg V.b hc20)⟩ ?_
      exact AK.met (ex_ _ (an_ rfl h))
  ·rintro σ ⟨x10,rfl,h⟩
   unfold QbR at h
   rcases bifE h with⟨hc11,h⟩|⟨hc11,h⟩
   ·obtain⟨x12,hx12,h⟩:=Qb h
    refine Qa hC [.br true,.n 3,.o (.c false [.d,.d,.d] (.tup [.i .i64 x12.1,.i .i64 x12.2])),.n 9,.keep [4,5] []] rfl ⟨⟨tt_,hc11⟩,(QiY _ _ _ hx12)⟩ ?_
    cases h
    exact AK.done (ex_ [_,_] (an_ (an_ rfl (an_ rfl tt_)) (gives tt_)))
   ·obtain⟨e13,he13,h⟩:=Qb h
    obtain⟨x14,hx14,h⟩:=Qb h
    refine Qa hC [.br false,.n 8,.o (.row (Qk e13)),.v .no [] (.agg (Qk e13)),.o (.c false [.d,.d] (.tup [.i .i64 x14.1,.i .i64 x14.2])),.n 14] rfl ⟨⟨⟨⟨tt_,hc11⟩,(Qc2 he13)⟩,rfl⟩,(hrec_expr_env_eval _ _ hx14)⟩ ?_
    rcases bifE h with⟨hc15,h⟩|⟨hc15,h⟩
    ·refine Qa hC [.br true,.n 9,.keep [4,5] []] rfl ⟨tt_,hc15⟩ ?_
     cases h
     exact AK.done (ex_ [_,_] (an_ (an_ rfl (an_ rfl tt_)) (gives tt_)))
    ·obtain⟨x16,hx16,h⟩:=Qb h
     refine Qa hC [.br false,.n 8,.o (.c false [.d,.d,.d] (.tup [.i .i64 x16.1,.i .i64 x16.2])),.n 7,.keep [4,5] []] rfl ⟨⟨tt_,hc15⟩,(QiY _ _ _ hx16)⟩ ?_
     cases h
     exact AK.done (ex_ [_,_] (an_ (an_ rfl (an_ rfl tt_)) (gives tt_)))
def QfM (rec_expr_env_eval:(List Int)→Qf→Option (Int×Int))(v1:(List Int))(e2:Qf):Option (Int×Int):=
 (idx e2.Kids 0).bind fun e7=>
 (rec_expr_env_eval v1 e7).bind fun x8=>
 bif (x8.2 != 0)then
 some (0,x8.2)
 else
 bif (x8.1 != 0)then
 (idx e2.Kids 1).bind fun e11=>
 (rec_expr_env_eval v1 e11).bind fun x12=>
 some (x12.1,x12.2)
 else
 (idx e2.Kids 2).bind fun e13=>
 (rec_expr_env_eval v1 e13).bind fun x14=>
 some (x14.1,x14.2)
theorem Qmm (rec_expr_env_eval:(List Int)→Qf→Option (Int×Int))(hrec_expr_env_eval:∀(v1:(List Int)) (e2:Qf) {r:(Int×Int)},rec_expr_env_eval v1 e2=some r→Qc Tryz.prog 125 [.sl 1 (v1.map Qe),.agg (Qk e2)] [] (Qh (.tup [.i .i64 r.1,.i .i64 r.2]) []))(v1:(List Int))(e2:Qf){r:(Int×Int)}(h:QfM rec_expr_env_eval v1 e2=some r):Qc Tryz.prog 206 [.sl 1 (v1.map Qe),.agg (Qk e2)] [] (Qh (.tup [.i .i64 r.1,.i .i64 r.2]) []):=by
 refine Qc.walk 40 Tryz.func206 rfl Tryz.ntmps206 rfl fun C hC=>?_
 unfold QfM at h
 obtain⟨e7,he7,h⟩:=Qb h
 obtain⟨x8,hx8,h⟩:=Qb h
 refine Qa hC [.n 12,.o (.row (Qk e7)),.v .no [] (.agg (Qk e7)),.o (.c false [.d,.d] (.tup [.i .i64 x8.1,.i .i64 x8.2])),.n 16] rfl ⟨⟨⟨tt_,(Qc2 he7)⟩,rfl⟩,(hrec_expr_env_eval _ _ hx8)⟩ ?_
 rcases bifE h with⟨hc9,h⟩|⟨hc9,h⟩
 ·refine Qa hC [.br true,.n 10,.keep [4,5] []] rfl ⟨tt_,hc9⟩ ?_
  cases h
  exact AK.done (ex_ [_,_] (an_ (an_ rfl (an_ rfl tt_)) (gives tt_)))
 ·refine Qa hC [.br false,.n 7] rfl ⟨tt_,hc9⟩ ?_
  rcases bifE h with⟨hc10,h⟩|⟨hc10,h⟩
  ·obtain⟨e11,he11,h⟩:=Qb h
   obtain⟨x12,hx12,h⟩:=Qb h
   refine Qa hC [.br true,.n 5,.o (.row (Qk e11)),.v .no [] (.agg (Qk e11)),.o (.c false [.d,.d] (.tup [.i .i64 x12.1,.i .i64 x12.2])),.n 9,.keep [4,5] []] rfl ⟨⟨⟨⟨tt_,hc10⟩,(Qc2 he11)⟩,rfl⟩,(hrec_expr_env_eval _ _ hx12)⟩ ?_
   cases h
   exact AK.done (ex_ [_,_] (an_ (an_ rfl (an_ rfl tt_)) (gives tt_)))
  ·obtain⟨e13,he13,h⟩:=Qb h
   obtain⟨x14,hx14,h⟩:=Qb h
   refine Qa hC [.br false,.n 8,.o (.row (Qk e13)),.v .no [] (.agg (Qk e13)),.o (.c false [.d,.d] (.tup [.i .i64 x14.1,.i .i64 x14.2])),.n 7,.keep [4,5] []] rfl ⟨⟨⟨⟨tt_,hc10⟩,(Qc2 he13)⟩,rfl⟩,(hrec_expr_env_eval _ _ hx14)⟩ ?_
   cases h
   exact AK.done (ex_ [_,_] (an_ (an_ rfl (an_ rfl tt_)) (gives tt_)))
def Qhm (e2:Qf)(a8:(List Int)):Option (Int×Int):=
 (QhX a8 e2).bind fun x13=>
 some (x13.1,x13.2)
def Qdc (e2:Qf)(a9:(List Int)):Option (Int×Int):=
 (QeJ a9 e2).bind fun x14=>
 some (x14.1,x14.2)
def Qbz (rec_expr_env_eval:(List Int)→Qf→Option (Int×Int))(e2:Qf)(a10:(List Int)):Option (Int×Int):=
 (QdL rec_expr_env_eval a10 e2).bind fun x15=>
 some (x15.1,x15.2)
def Qdd (rec_expr_env_eval:(List Int)→Qf→Option (Int×Int))(e2:Qf)(a11:(List Int)):Option (Int×Int):=
 (QhK rec_expr_env_eval a11 e2).bind fun x16=>
 some (x16.1,x16.2)
def Qde (rec_expr_env_eval:(List Int)→Qf→Option (Int×Int))(e2:Qf)(a12:(List Int)):Option (Int×Int):=
 (QfM rec_expr_env_eval a12 e2).bind fun x17=>
 some (x17.1,x17.2)
def QfN (rec_expr_env_eval:(List Int)→Qf→Option (Int×Int))(v1:(List Int))(e2:Qf):Option (Int×Int):=
 (Qbr v1 e2.Kind).bind fun x7=>
 (Sum.elim (fun q=>Qhm e2 q) (Sum.elim (fun q=>Qdc e2 q) (Sum.elim (fun q=>Qbz rec_expr_env_eval e2 q) (Sum.elim (fun q=>Qdd rec_expr_env_eval e2 q) (fun q=>Qde rec_expr_env_eval e2 q))))) x7
def Qah : Nat→(List Int)→Qf→Option (Int×Int)
 | 0,_,_=>none
 | n+1,v1,e2=>QfN (Qah n) v1 e2
def Qi0 (v1:(List Int))(e2:Qf):Option (Int×Int):=Qah (SizeOf.sizeOf e2) v1 e2
theorem Qmn (rec_expr_env_eval:(List Int)→Qf→Option (Int×Int))(hrec_expr_env_eval:∀(v1:(List Int)) (e2:Qf) {r:(Int×Int)},rec_expr_env_eval v1 e2=some r→Qc Tryz.prog 125 [.sl 1 (v1.map Qe),.agg (Qk e2)] [] (Qh (.tup [.i .i64 r.1,.i .i64 r.2]) []))(v1:(List Int))(e2:Qf){r:(Int×Int)}(h:QfN rec_expr_env_eval v1 e2=some r):Qc Tryz.prog 125 [.sl 1 (v1.map Qe),.agg (Qk e2)] [] (Qh (.tup [.i .i64 r.1,.i .i64 r.2]) []):=by
 refine Qc.walk 14 Tryz.func125 rfl Tryz.ntmps125 rfl fun C hC=>?_
 unfold QfN at h
 refine Qa hC [.n 8] rfl tt_ ?_
 obtain⟨x7,hx7,h⟩:=Qb h
 rcases x7 with(a8 | (a9 | (a10 | (a11 | a12))))
 ·replace h:Qhm e2 a8=some r:=h
  unfold Qhm at h
  obtain⟨x13,hx13,h⟩:=Qb h
  refine Qa hC [.keep [0,3,4,5] [3]] rfl tt_ ?_
  refine AK.draw2 Qo hC mixed [.a .no none false,.a .no none false,.a .no none false,.a (.any (.clo (.func 202) [.sl 1 (a8.map Qe)] []) none) none false,.a .no (some ([],.agg (Qk e2))) false,.a (.c false [.d,.d] (.tup [.i .i64 x13.1,.i .i64 x13.2])) none false,.a .no none false,.a .no none false,.m .s,.m .s] [] [] [4,5] [] rfl rfl rfl ⟨⟨⟨tt_,(fun σ h1 h2 _=>Stp.callSame (md:=.cm (.fn) [] [] [] [.d,.d] [] (.clo (.func 202) [.sl 1 (a8.map Qe)] []) []) Qo hC h1 h2 rfl ⟨tt_,(Qdb _ _ hx7)⟩)⟩,rfl⟩,(Qmi _ _ hx13)⟩ rfl (by kernel_rfl) rfl rfl rfl ?_
  refine Qa hC [.n 2,.keep [4,5] []] rfl tt_ ?_
  cases h
  exact AK.done (ex_ [_,_] (an_ (an_ rfl (an_ rfl tt_)) (gives tt_)))
 ·replace h:Qdc e2 a9=some r:=h
  unfold Qdc at h
  obtain⟨x14,hx14,h⟩:=Qb h
  refine Qa hC [.keep [0,3,4,5] [3]] rfl tt_ ?_
  refine AK.draw2 Qo hC mixed [.a .no none false,.a .no none false,.a .no none false,.a (.any (.clo (.func 203) [.sl 1 (a9.map Qe)] []) none) none false,.a .no (some ([],.agg (Qk e2))) false,.a (.c false [.d,.d] (.tup [.i .i64 x14.1,.i .i64 x14.2])) none false,.a .no none false,.a .no none false,.m .s,.m .s] [] [] [4,5] [] rfl rfl rfl ⟨⟨⟨tt_,(fun σ h1 h2 _=>Stp.callSame (md:=.cm (.fn) [] [] [] [.d,.d] [] (.clo (.func 203) [.sl 1 (a9.map Qe)] []) []) Qo hC h1 h2 rfl ⟨tt_,(Qdb _ _ hx7)⟩)⟩,rfl⟩,(Qlv _ _ hx14)⟩ rfl (by kernel_rfl) rfl rfl rfl ?_
  refine Qa hC [.n 2,.keep [4,5] []] rfl tt_ ?_
  cases h
  exact AK.done (ex_ [_,_] (an_ (an_ rfl (an_ rfl tt_)) (gives tt_)))
 ·replace h:Qbz rec_expr_env_eval e2 a10=some r:=h
  unfold Qbz at h
  obtain⟨x15,hx15,h⟩:=Qb h
  refine Qa hC [.keep [0,3,4,5] [3]] rfl tt_ ?_
  refine AK.draw2 Qo hC mixed [.a .no none false,.a .no none false,.a .no none false,.a (.any (.clo (.func 204) [.sl 1 (a10.map Qe)] []) none) none false,.a .no (some ([],.agg (Qk e2))) false,.a (.c false [.d,.d] (.tup [.i .i64 x15.1,.i .i64 x15.2])) none false,.a .no none false,.a .no none false,.m .s,.m .s] [] [] [4,5] [] rfl rfl rfl ⟨⟨⟨tt_,(fun σ h1 h2 _=>Stp.callSame (md:=.cm (.fn) [] [] [] [.d,.d] [] (.clo (.func 204) [.sl 1 (a10.map Qe)] []) []) Qo hC h1 h2 rfl ⟨tt_,(Qdb _ _ hx7)⟩)⟩,rfl⟩,(Qml rec_expr_env_eval hrec_expr_env_eval _ _ hx15)⟩ rfl (by kernel_rfl) rfl rfl rfl ?_
  refine Qa hC [.n 2,.keep [4,5] []] rfl tt_ ?_
  cases h
  exact AK.done (ex_ [_,_] (an_ (an_ rfl (an_ rfl tt_)) (gives tt_)))
 ·replace h:Qdd rec_expr_env_eval e2 a11=some r:=h
  unfold Qdd at h
  obtain⟨x16,hx16,h⟩:=Qb h
  refine Qa hC [.keep [0,3,4,5] [3]] rfl tt_ ?_
  refine AK.draw2 Qo hC mixed [.a .no none false,.a .no none false,.a .no none false,.a (.any (.clo (.func 205) [.sl 1 (a11.map Qe)] []) none) none false,.a .no (some ([],.agg (Qk e2))) false,.a (.c false [.d,.d] (.tup [.i .i64 x16.1,.i .i64 x16.2])) none false,.a .no none false,.a .no none false,.m .s,.m .s] [] [] [4,5] [] rfl rfl rfl ⟨⟨⟨tt_,(fun σ h1 h2 _=>Stp.callSame (md:=.cm (.fn) [] [] [] [.d,.d] [] (.clo (.func 205) [.sl 1 (a11.map Qe)] []) []) Qo hC h1 h2 rfl ⟨tt_,(Qdb _ _ hx7)⟩)⟩,rfl⟩,(Qn2 rec_expr_env_eval hrec_expr_env_eval _ _ hx16)⟩ rfl (by kernel_rfl) rfl rfl rfl ?_
  refine Qa hC [.n 2,.keep [4,5] []] rfl tt_ ?_
  cases h
  exact AK.done (ex_ [_,_] (an_ (an_ rfl (an_ rfl tt_)) (gives tt_)))
 ·replace h:Qde rec_expr_env_eval e2 a12=some r:=h
  unfold Qde at h
  obtain⟨x17,hx17,h⟩:=Qb h
  refine Qa hC [.keep [0,3,4,5] [3]] rfl tt_ ?_
  refine AK.draw2 Qo hC mixed [.a .no none false,.a .no none false,.a .no none false,.a (.any (.clo (.func 206) [.sl 1 (a12.map Qe)] []) none) none false,.a .no (some ([],.agg (Qk e2))) false,.a (.c false [.d,.d] (.tup [.i .i64 x17.1,.i .i64 x17.2])) none false,.a .no none false,.a .no none false,.m .s,.m .s] [] [] [4,5] [] rfl rfl rfl ⟨⟨⟨tt_,(fun σ h1 h2 _=>Stp.callSame (md:=.cm (.fn) [] [] [] [.d,.d] [] (.clo (.func 206) [.sl 1 (a12.map Qe)] []) []) Qo hC h1 h2 rfl ⟨tt_,(Qdb _ _ hx7)⟩)⟩,rfl⟩,(Qmm rec_expr_env_eval hrec_expr_env_eval _ _ hx17)⟩ rfl (by kernel_rfl) rfl rfl rfl ?_
  refine Qa hC [.n 2,.keep [4,5] []] rfl tt_ ?_
  cases h
  exact AK.done (ex_ [_,_] (an_ (an_ rfl (an_ rfl tt_)) (gives tt_)))
theorem Qi1 : ∀(fuel:Nat) (v1:(List Int)) (e2:Qf) {r:(Int×Int)},Qah fuel v1 e2=some r→Qc Tryz.prog 125 [.sl 1 (v1.map Qe),.agg (Qk e2)] [] (Qh (.tup [.i .i64 r.1,.i .i64 r.2]) [])
 | 0,_,_,_,h=>by cases h
 | n+1,v1,e2,_,h=>Qmn (Qah n) (fun _ _ _ h=>Qi1 n _ _ h) v1 e2 h
theorem Qni (v1:(List Int))(e2:Qf){r:(Int×Int)}(h:Qi0 v1 e2=some r):Qc Tryz.prog 125 [.sl 1 (v1.map Qe),.agg (Qk e2)] [] (Qh (.tup [.i .i64 r.1,.i .i64 r.2]) []):=Qi1 _ v1 e2 h
def QgO (e1:Qf)(vars2:(List Int)):Option (Int×Int):=
 (Qek e1 (vars2.length:Int)).bind fun x7=>
 bif (!x7)then
 some (0,1)
 else
 (Qi0 vars2 e1).bind fun x9=>
 some (x9.1,x9.2)
theorem QlM (e1:Qf)(vars2:(List Int)){r:(Int×Int)}(h:QgO e1 vars2=some r):Qc Tryz.prog 63 [.agg (Qk e1),.sl 1 (vars2.map Qe)] [] (Qh (.tup [.i .i64 r.1,.i .i64 r.2]) []):=by
 refine Qc.walk 16 Tryz.func63 rfl Tryz.ntmps63 rfl fun C hC=>?_
 unfold QgO at h
 obtain⟨x7,hx7,h⟩:=Qb h
 refine Qa hC [.n 10,.v .no [] (.agg (Qk e1)),.n 1,.o (.ln vars2.length),.o (.c false [.d,.d] (.b x7)),.n 3] rfl ⟨⟨⟨tt_,rfl⟩,Qj⟩,(QiW _ _ hx7)⟩ ?_
 rcases bifE h with⟨hc8,h⟩|⟨hc8,h⟩
 ·refine Qa hC [.br true,.n 8,.keep [4,5] []] rfl ⟨tt_,hc8⟩ ?_
  cases h
  exact AK.done (ex_ [_,_] (an_ (an_ rfl (an_ rfl tt_)) (gives tt_)))
 ·obtain⟨x9,hx9,h⟩:=Qb h
  refine Qa hC [.br false,.n 5,.v .no [] (.agg (Qk e1)),.o (.c false [.d,.d] (.tup [.i .i64 x9.1,.i .i64 x9.2])),.n 7,.keep [4,5] []] rfl ⟨⟨⟨tt_,hc8⟩,rfl⟩,(Qni _ _ hx9)⟩ ?_
  cases h
  exact AK.done (ex_ [_,_] (an_ (an_ rfl (an_ rfl tt_)) (gives tt_)))
def QU (b1:Qx):Option Int:=
 (QgO b1.task.Guard b1.env).bind fun x4=>
 bif (x4.2 != 0)then
 some x4.2
 else
 bif (x4.1==0)then
 some 9
 else
 some 0
theorem Qhn (b1:Qx){r:Int}(h:QU b1=some r):Qc Tryz.prog 28 [.agg (Qn b1)] [] (Qh (.i .i64 r) []):=by
 refine Qc.walk 21 Tryz.func28 rfl Tryz.ntmps28 rfl fun C hC=>?_
 unfold QU at h
 obtain⟨x4,hx4,h⟩:=Qb h
 refine Qa hC [.n 10,.v .no [] (.agg (Qk b1.task.Guard)),.n 2,.o (.c false [.d,.d] (.tup [.i .i64 x4.1,.i .i64 x4.2])),.n 16] rfl ⟨⟨tt_,rfl⟩,(QlM _ _ hx4)⟩ ?_
 rcases bifE h with⟨hc5,h⟩|⟨hc5,h⟩
 ·refine Qa hC [.br true,.n 9,.keep [2] []] rfl ⟨tt_,hc5⟩ ?_
  cases h
  exact AK.done (ex_ [_] (an_ (an_ rfl tt_) (gives tt_)))
 ·refine Qa hC [.br false,.n 7] rfl ⟨tt_,hc5⟩ ?_
  rcases bifE h with⟨hc6,h⟩|⟨hc6,h⟩
  ·refine Qa hC [.br true,.n 8,.keep [2] []] rfl ⟨tt_,hc6⟩ ?_
   cases h
   exact AK.done (ex_ [_] (an_ (an_ rfl tt_) (gives tt_)))
  ·refine Qa hC [.br false,.n 9,.keep [2] []] rfl ⟨tt_,hc6⟩ ?_
   cases h
   exact AK.done (ex_ [_] (an_ (an_ rfl tt_) (gives tt_)))
def Qcl (s1:(List (List Int))):Option (List (List Int)):=
 (chk (decide (([]:List (List Int)).length+s1.length≤4294967296))).bind fun _=>
 some (([]:List (List Int))++s1)
theorem Qjx (s1:(List (List Int))){r:(List (List Int))}(h:Qcl s1=some r):Qc Tryz.prog 30 [.sl 1 (s1.map Qu)] [] (Qh (.own 30000 r.length) [(30000,.arr 1 (r.map Qu))]):=by
 refine Qc.walk 8 Tryz.func30 rfl Tryz.ntmps30 rfl fun C hC=>?_
 unfold Qcl at h
 refine Qa hC [.n 9] rfl tt_ ?_
 refine AK.eqNil rfl rfl rfl (bleN hC.n rfl) rfl rfl Qul ?_ ?_
 ·intro hz4
  replace h:some ([]:List (List Int))=some r:=by simpa [chk,List.map_eq_nil_iff.1 hz4] using h
  refine Qa hC [.n 10,.adopt 2 30000 1,.sayO 30000 (.arr 1 (([]:List (List Int)).map Qu)),.say 2 (.own 30000 ([]:List (List Int)).length),.keep [2] [30000]] rfl ⟨⟨tt_,rfl⟩,rfl⟩ ?_
  cases h
  exact AK.done (ex_ [_] (an_ (an_ rfl tt_) (gives ⟨rfl,tt_⟩)))
 ·obtain⟨_,hk5,h⟩:=Qb h
  replace hk5:=chkE hk5
  refine Qa hC [.n 8,.sayO 5 (.arr 1 (([]:List (List Int)).map Qu)),.say 5 (.own 5 ([]:List (List Int)).length),.n 1,.app ((([]:List (List Int))++s1).map Qu) (([]:List (List Int))++s1).length,.n 4,.keep [2] [5],.ren 5 30000,.keep [2] [30000]] rfl ⟨⟨⟨tt_,rfl⟩,rfl⟩,⟨Qj,Qgx hk5 Qj,QeQ,Qih Qj⟩⟩ ?_
  cases h
  exact AK.done (ex_ [_] (an_ (an_ rfl tt_) (gives ⟨rfl,tt_⟩)))
def Qa9 (x8:(Bool×Q8))(n10:Int):Option (Int×Bool):=
 (Qb5 x8.2 n10).bind fun x11=>
 bif (!x11)then
 some (0,false)
 else
 some (n10,true)
def Qcq (l1:(List Qw))(k2:Int)(n3:Int):Option (Int×Bool):=
 (QdZ l1 k2).bind fun x8=>
 bif (!x8.1)then
 some (0,false)
 else
 (Qbp x8.2).bind fun x13=>
 bif (x13.Kind==1)then
 bif ((decide (n3<x13.Lo))||(decide (x13.Hi<n3)))then
 some (0,false)
 else
 Qa9 x8 (w64 (n3-x13.Lo))
 else
 Qa9 x8 n3
theorem Qnj (l1:(List Qw))(k2:Int)(n3:Int){r:(Int×Bool)}(h:Qcq l1 k2 n3=some r):Qc Tryz.prog 85 [.sl 7 (l1.map Qt),.i .i64 k2,.i .i64 n3] [] (Qh (.tup [.i .i64 r.1,.b r.2]) []):=by
 refine Qc.walk 43 Tryz.func85 rfl Tryz.ntmps85 rfl fun C hC=>?_
 unfold Qcq at h
 obtain⟨x8,hx8,h⟩:=Qb h
 refine Qa hC [.n 10,.o (.c false [.d,.d] (.tup [.agg (QJ x8.2),.b x8.1])),.n 5,.sayO 8 (.var (QJ x8.2)),.n 10] rfl ⟨⟨tt_,(Qjw _ _ hx8)⟩,rfl⟩ ?_
 rcases bifE h with⟨hc9,h⟩|⟨hc9,h⟩
 ·refine Qa hC [.br true,.n 8,.keep [6,7] []] rfl ⟨tt_,hc9⟩ ?_
  cases h
  exact AK.done (ex_ [_,_] (an_ (an_ rfl (an_ rfl tt_)) (gives tt_)))
 ·refine Qa hC [.br false,.n 2] rfl ⟨tt_,hc9⟩ ?_
  refine AK.meet (fun σ=>∃n10:Int,σ=⟨[(2,.i .i64 n10),(8,.loc 8 0 0)],[(8,.var (QJ x8.2))]⟩∧Qa9 x8 n10=some r) ?_ ?_
  ·obtain⟨x13,hx13,h⟩:=Qb h
   refine Qa hC [.n 2,.v .no [] (.agg (QJ x8.2)),.o (.c false [.d] (.agg (Qt x13))),.n 2,.sayO 10 (.var (Qt x13)),.n 9] rfl ⟨⟨⟨tt_,rfl⟩,(Qfr _ hx13)⟩,rfl⟩ ?_
   rcases bifE h with⟨hc14,h⟩|⟨hc14,h⟩
   ·refine Qa hC [.br true,.n 2] rfl ⟨tt_,hc14⟩ ?_
    refine AK.meetX (fun σ=>σ=⟨[(2,.i .i64 n3),(8,.loc 8 0 0),(10,.loc 10 0 0),(33,.b ((decide (n3<x13.Lo))||(decide (x13.Hi<n3))))],[(8,.var (QJ x8.2)),(10,.var (Qt x13))]⟩) ?_ ?_
    ·refine Qa hC [.n 6] rfl tt_ ?_
     rcases QI (decide (n3<x13.Lo))with hc16 | hc16
     ·refine Qa hC [.say 28 (.b true),.n 6,.say 33 (.b ((decide (n3<x13.Lo))||(decide (x13.Hi<n3)))),.keep [2,8,10,33] [8,10]] rfl ⟨⟨tt_,(congrArg V.b hc16)⟩,(congrArg V.b (orT hc16 rfl))⟩ ?_
      exact AK.met rfl
     ·refine Qa hC [.say 28 (.b false),.n 6,.say 33 (.b ((decide (n3<x13.Lo))||(decide (x13.Hi<n3)))),.keep [2,8,10,33] [8,10]] rfl ⟨⟨tt_,(congrArg V.b hc16)⟩,(congrArg V.b (orF hc16 rfl))⟩ ?_
      exact AK.met rfl
    ·rintro σ rfl
     refine Qa hC [.n 1] rfl tt_ ?_
     rcases bifE h with⟨hc17,h⟩|⟨hc17,h⟩
     ·refine Qa hC [.br true,.n 9,.keep [6,7] []] rfl ⟨tt_,hc17⟩ ?_
      cases h
      exact AK.done (ex_ [_,_] (an_ (an_ rfl (an_ rfl tt_)) (gives tt_)))
     ·refine Qa hC [.br false,.n 9,.keep [2,8] [8]] rfl ⟨tt_,hc17⟩ ?_
      exact AK.met (ex_ _ (an_ rfl h))
   ·refine Qa hC [.br false,.n 1,.keep [2,8] [8]] rfl ⟨tt_,hc14⟩ ?_
    exact AK.met (ex_ _ (an_ rfl h))
  ·rintro σ ⟨n10,rfl,h⟩
   unfold Qa9 at h
   obtain⟨x11,hx11,h⟩:=Qb h
   refine Qa hC [.n 3,.v .no [] (.agg (QJ x8.2)),.n 1,.o (.c false [.d,.d] (.b x11)),.n 3] rfl ⟨⟨tt_,rfl⟩,(Qjt _ _ hx11)⟩ ?_
   rcases bifE h with⟨hc12,h⟩|⟨hc12,h⟩
   ·refine Qa hC [.br true,.n 8,.keep [6,7] []] rfl ⟨tt_,hc12⟩ ?_
    cases h
    exact AK.done (ex_ [_,_] (an_ (an_ rfl (an_ rfl tt_)) (gives tt_)))
   ·refine Qa hC [.br false,.n 10,.keep [6,7] []] rfl ⟨tt_,hc12⟩ ?_
    cases h
    exact AK.done (ex_ [_,_] (an_ (an_ rfl (an_ rfl tt_)) (gives tt_)))
def Qbs (m1:(List (Int×Int))):Option Unit:=
 some ()
theorem Qh6 (m1:(List (Int×Int))){r:Unit}(h:Qbs m1=some r):Qc Tryz.prog 81 [.map 200000] [(200000,.map (mapV (V.i .i64) (V.i .i64) m1))] (Qh (.clo (.func 140) [] [.loc 1 0 0]) [(1,.var [.map 200000]),(200000,.map (mapV (V.i .i64) (V.i .i64) m1))]):=by
 refine Qc.walk 4 Tryz.func81 rfl Tryz.ntmps81 rfl fun C hC=>?_
 unfold Qbs at h
 refine Qa hC [.n 13,.keep [2] [1,200000]] rfl tt_ ?_
 cases h
 exact AK.done (ex_ [_] (an_ (an_ rfl tt_) (gives ⟨rfl,rfl,tt_⟩)))
def QaQ (l1:(List Int))(p2:Int):Option (List Int):=
 (chk (decide (l1.length+([p2]:List Int).length≤4294967296))).bind fun _=>
 some (l1++([p2]:List Int))
theorem QgR (lpl lpf:Nat)(l1:(List Int))(p2:Int){r:(List Int)}(h:QaQ l1 p2=some r):QjT Tryz.prog lpl (Qef lpf) [.J,.J,.loc 200001 0 0,.J,.J,.J,.J,.i .i64 p2,.J,.J,.J,.J,.J] [(200000,.lp lpl (Qef lpf) [.J,.J,.loc 200001 0 0,.J,.J,.J,.J,.J,.J,.J,.J,.J,.J] 0),(200001,.var [.own 100000 l1.length]),(100000,.arr 1 (l1.map Qe))] (Qh (.b true) [(100000,.arr 1 (r.map Qe)),(200000,.lp lpl (Qef lpf) [.J,.J,.loc 200001 0 0,.J,.J,.J,.J,.J,.J,.J,.J,.J,.J] 0),(200001,.var [.own 100000 r.length])]):=by
 refine QjT.walk (b:=200000) 13 rfl rfl fun C hC=>?_
 unfold QaQ at h
 refine Qa hC [.n 3] rfl tt_ ?_
 refine AK.done (an_ rfl (ex_ _ (an_ rfl ?_)))
 obtain⟨_,hk4,h⟩:=Qb h
 replace hk4:=chkE hk4
 refine Qa hC [.n 4,.v (.bd []) [] (.sl 1 (([p2]:List Int).map Qe)),.app ((l1++([p2]:List Int)).map Qe) (l1++([p2]:List Int)).length,.n 1,.sayO 200001 (.var [.own 100000 (l1++([p2]:List Int)).length]),.n 2,.keep [] [100000,200000,200001]] rfl ⟨⟨⟨tt_,rfl⟩,⟨Qj,Qgx hk4 Qj,QeQ,Qih Qj⟩⟩,rfl⟩ ?_
 cases h
 refine AK.done ?_
 exact ex_ _ (an_ rfl (gives ⟨rfl,rfl,rfl,tt_⟩))
theorem QhL (lpl lpf:Nat)(l1:(List Int))(m2:(List (Int×Int)))(hlen:l1.length+m2.length≤4294967296):Qc Tryz.prog 140 [.clo (.yield lpl) [] [],.loc 200002 0 0] [(200000,.lp lpl (Qef lpf) [.J,.J,.loc 200001 0 0,.J,.J,.J,.J,.J,.J,.J,.J,.J,.J] 0),(200001,.var [.own 100000 l1.length]),(100000,.arr 1 (l1.map Qe)),(200002,.var [.map 200003]),(200003,.map (mapV (V.i .i64) (V.i .i64) m2))] (fun v hs=>∃r:List Int,r.Perm (l1++m2.map Prod.fst)∧Qh (.tup []) [(100000,.arr 1 (r.map Qe)),(200000,.lp lpl (Qef lpf) [.J,.J,.loc 200001 0 0,.J,.J,.J,.J,.J,.J,.J,.J,.J,.J] 0),(200001,.var [.own 100000 r.length]),(200002,.var [.map 200003]),(200003,.map (mapV (V.i .i64) (V.i .i64) m2))] v hs):=by
 refine Qc.walk 14 Tryz.func140 rfl Tryz.ntmps140 rfl fun C hC=>?_
 refine Qa hC [.n 3] rfl tt_ ?_
 refine AK.openMap (b:=200003) ky_3 rfl fun bm4 cl4 L4 hbn4 hpm4=>?_
 refine Qa hC [.x (fun σ=>(σ.set 5 (.itr bm4 cl4 #[] none)).put 5 (.loc 5 0 0)),.n 3,.keep [0,5] [5,100000,200000,200001,200002,200003]] rfl ⟨tt_,(Stp.range (b:=200003) rfl rfl (bleN hC.n rfl) rfl rfl Qii rfl)⟩ ?_
 have hL0:QaM L4 #[]=L4:=by simp [QaM]
 have hp0:(l1++(QaM L4 #[]).map (fun q=>q.2.1)).Perm (l1++m2.map Prod.fst):=by
  rw [hL0]
  refine List.Perm.append_left l1 ?_
  have:=hpm4.map Prod.fst
  rwa [List.map_map]at this
 refine AK.range (body:=cntM) (fun (_:Nat) seen σ=>∃(cur:Option MapEntry) (st:List Int),(st++(QaM L4 seen).map (fun q=>q.2.1)).Perm (l1++m2.map Prod.fst)∧σ=⟨[(0,.clo (.yield lpl) [] []),(5,.loc 5 0 0)],[(5,.itr bm4 cl4 seen cur),(100000,.arr 1 (st.map Qe)),(200000,.lp lpl (Qef lpf) [.J,.J,.loc 200001 0 0,.J,.J,.J,.J,.J,.J,.J,.J,.J,.J] 0),(200001,.var [.own 100000 st.length]),(200002,.var [.map 200003]),(200003,.mapX bm4 cl4 (typV (V.i .i64) (V.i .i64) L4) (mapV (V.i .i64) (V.i .i64) m2))]⟩) (fun (q:Empty) _ _=>False) (fun _ e σ=>∃st:List Int,st.Perm (l1++m2.map Prod.fst)∧e=.exit 0∧σ=⟨[],[(100000,.arr 1 (st.map Qe)),(200000,.lp lpl (Qef lpf) [.J,.J,.loc 200001 0 0,.J,.J,.J,.J,.J,.J,.J,.J,.J,.J] 0),(200001,.var [.own 100000 st.length]),(200002,.var [.map 200003]),(200003,.mapX bm4 cl4 (typV (V.i .i64) (V.i .i64) L4) (mapV (V.i .i64) (V.i .i64) m2))]⟩) hbn4 hpm4 (QsA m2 0) (ex_ _ (ex_ l1 (an_ hp0 rfl))) ?_ ?_
 ·rintro n0 seen σ ⟨cur,l6,hpp,rfl⟩ hex
  refine Qa hC [.n 2] rfl tt_ ?_
  refine AK.nextT (b:=5) (m:=200003) rfl rfl rfl (bleN hC.n rfl) rfl rfl rfl rfl ?_ ?_
  ·intro hleft
   refine Qa hC [.n 7,.keep [] [100000,200000,200001,200002,200003]] rfl tt_ ?_
   exact AK.done (Or.inl (an_ hleft (an_ (fun h=>(by cases h)) (ex_ l6 (an_ (by simpa [hleft] using hpp) (an_ rfl rfl))))))
  ·intro xk8 k8 v9 hq5
   have hpk:=(Qmb hbn4 hq5).map (fun q=>q.2.1)
   have hp2:((l6++[k8])++(QaM L4 (seen.push xk8.born)).map (fun q=>q.2.1)).Perm (l1++m2.map Prod.fst):=List.Perm.trans (by simpa using (List.Perm.append_left l6 hpk).symm) hpp
   have hl2:l6.length+([k8]:List Int).length≤4294967296:=by
    have:=hp2.length_eq
    simp at this ⊢
    omega
   have hx10:QaQ l6 k8=some (l6++[k8]):=by
    unfold QaQ
    rw [decide_eq_true hl2];rfl
   obtain⟨x10,hxe⟩:∃x,x=l6++[k8]:=⟨_,rfl⟩
   rw [←hxe]at hx10 hp2
   refine Qa hC [.n 10,.x (fun σ=>σ.put 8 (.tup [.i .i64 k8,.i .i64 v9])),.n 8,.x (fun σ=>(σ.after [100000] [(100000,.arr 1 (x10.map Qe)),(200000,.lp lpl (Qef lpf) [.J,.J,.loc 200001 0 0,.J,.J,.J,.J,.J,.J,.J,.J,.J,.J] 0),(200001,.var [.own 100000 x10.length])]).put 12 (.b true)),.n 6,.keep [0,5] [5,100000,200000,200001,200002,200003]] rfl ⟨⟨tt_,(Stp.entryT (b:=5) (m:=200003) rfl rfl (bleN hC.n rfl) rfl hq5 rfl rfl)⟩,(Stp.yieldV (b:=200000) (M:=[(200000,200000),(200001,200001),(100000,100000)]) (N:=[(100000,100000),(200000,200000),(200001,200001)]) (dead:=[100000]) (ms:=[.d,.d,.d,.d,.d,.d,.d,.d,.d,.d,.d,.d,.d]) (outs:=[(100000,.arr 1 (x10.map Qe)),(200000,.lp lpl (Qef lpf) [.J,.J,.loc 200001 0 0,.J,.J,.J,.J,.J,.J,.J,.J,.J,.J] 0),(200001,.var [.own 100000 x10.length])]) (r:=.b true) rfl rfl rfl rfl rfl rfl rfl (bleN hC.n rfl) hC.g rfl rfl (QgR _ _ _ _ hx10))⟩ ?_
   exact AK.done (Or.inr (ex_ _ (an_ hq5 (Or.inl (ex_ (n0+1) (an_ rfl (an_ rfl (ex_ _ (ex_ x10 (an_ hp2 rfl))))))))))
 ·rintro e σ ⟨l6,hpp,rfl,rfl⟩
  refine Qa hC [.n 1] rfl tt_ ?_
  refine AK.closeMap (b:=200003) rfl ?_
  refine Qa hC [.keep [] [100000,200000,200001,200002,200003]] rfl tt_ ?_
  refine AK.done ?_
  exact ex_ [] (an_ tt_ (ex_ l6 (an_ hpp (gives ⟨rfl,rfl,rfl,rfl,rfl,tt_⟩))))
theorem Qjs (m1:(List (Int×Int)))(hlen:m1.length≤4294967296):Qc Tryz.prog 192 [.lit (.slice none 0 0),.clo (.func 140) [] [.loc 200000 0 0]] [(200000,.var [.map 200001]),(200001,.map (mapV (V.i .i64) (V.i .i64) m1))] (fun v hs=>∃r:List Int,r.Perm (m1.map Prod.fst)∧Qh (.own 30000 r.length) [(30000,.arr 1 (r.map Qe)),(200000,.var [.map 200001]),(200001,.map (mapV (V.i .i64) (V.i .i64) m1))] v hs):=by
 refine Qc.walkR 13 Tryz.func192 rfl Tryz.ntmps192 rfl fun C hC hR=>?_
 refine Qa hC [.n 13,.keep [2,4,6] [2,200000,200001]] rfl tt_ ?_
 refine Qa hC [.adoptO 2 0 45040 1,.sayO 45040 (.arr 1 (([]:List Int).map Qe)),.sayO 2 (.var [.own 45040 ([]:List Int).length])] rfl ⟨⟨tt_,rfl⟩,rfl⟩ ?_
 refine AK.rangeFE (ι:=List Int) (Φ:=fun x=>x.Perm (m1.map Prod.fst)) 60000 [2] [(200000,60000),(200001,2),(100000,45040),(200002,200000),(200003,200001)] [(45040,100000),(60000,200000),(2,200001),(200000,200002),(200001,200003)] [45040] [.d,.d] Qef hC hR (fun _=>rfl) rfl rfl rfl rfl fun lpl lpf=>?_
 refine ex_ (fun x3:List Int=>[(100000,.arr 1 (x3.map Qe)),(200000,.lp lpl (Qef lpf) [.J,.J,.loc 200001 0 0,.J,.J,.J,.J,.J,.J,.J,.J,.J,.J] 0),(200001,.var [.own 100000 x3.length]),(200002,.var [.map 200003]),(200003,.map (mapV (V.i .i64) (V.i .i64) m1))]) (ex_ (fun _=>.tup []) (ex_ (fun x3=>_) (ex_ _ (ex_ _ (an_ rfl (an_ rfl (an_ (QhL _ _ ([]:List Int) m1 (by simpa using hlen)) fun x3=>ex_ _ (ex_ [.J,.J,.loc 2 0 0,.J,.J,.J,.J,.J,.J,.J,.J,.J,.J] (ex_ 0 (an_ rfl (an_ rfl (an_ (bne_iff_ne.1 (show(0 != 1)=true from rfl)) fun hpp=>?_))))))))))))
 refine atJ0 rfl ?_
 refine Qa hC [.n 9,.keep [4] [45040,200000,200001],.ren 45040 30000,.keep [4] [30000,200000,200001]] rfl tt_ ?_
 exact AK.done (ex_ [_] (an_ (an_ rfl tt_) (ex_ x3 (an_ hpp (gives ⟨rfl,rfl,rfl,tt_⟩)))))
theorem Qk5 (m1:(List (Int×Int)))(hlen:m1.length≤4294967296):Qc Tryz.prog 139 [.clo (.func 140) [] [.loc 200000 0 0]] [(200000,.var [.map 200001]),(200001,.map (mapV (V.i .i64) (V.i .i64) m1))] (fun v hs=>∃r:List Int,r.Perm (m1.map Prod.fst)∧Qh (.own 30000 r.length) [(30000,.arr 1 (r.map Qe)),(200000,.var [.map 200001]),(200001,.map (mapV (V.i .i64) (V.i .i64) m1))] v hs):=by
 refine Qc.walk 5 Tryz.func139 rfl Tryz.ntmps139 rfl fun C hC=>?_
 refine Qa hC [.n 8] rfl tt_ ?_
 refine AK.callE (ι:=List Int) (Φ:=fun x=>x.Perm (m1.map Prod.fst)) [(200000,200000),(200001,200001)] [(4,30000),(200000,200000),(200001,200001)] [] [.d,.d] (fun x3=>[(30000,.arr 1 (x3.map Qe)),(200000,.var [.map 200001]),(200001,.map (mapV (V.i .i64) (V.i .i64) m1))]) (fun x3=>(.own 30000 x3.length)) (fun x3=>_) rfl hC (QaW.fn rfl rfl rfl) rfl (bleN hC.n rfl) rfl rfl (Qjs m1 hlen) (fun x3=>ex_ _ rfl) fun x3 hpp=>?_
 refine Qa hC [.n 4,.keep [2] [4,200000,200001],.ren 4 30000,.keep [2] [30000,200000,200001]] rfl tt_ ?_
 exact AK.done (ex_ [_] (an_ (an_ rfl tt_) (ex_ x3 (an_ hpp (gives ⟨rfl,rfl,rfl,tt_⟩)))))
def QaZ (l:List Int):Option (List Int):=(chk (decide (l.length<4611686018427387904))).bind fun _=>some (QbT l)
theorem Qho (l:List Int){r:List Int}(h:QaZ l=some r):Qc Tryz.prog 67 [.own 200000 l.length] [(200000,.arr 1 (l.map Qe))] (Qh (.tup []) [(200000,.arr 1 (r.map Qe))]):=by
 unfold QaZ at h
 obtain⟨_,h1,h⟩:=Qb h
 cases h
 exact Qrn QsE l (of_decide_eq_true (chkE h1))
def QeK (m1:(List (Int×Int))):Option (List Int):=
 (chk (decide (m1.length≤4294967296))).bind fun _=>
 some (QbT (m1.map Prod.fst))
theorem Qlw (m1:(List (Int×Int))){r:(List Int)}(h:QeK m1=some r):Qc Tryz.prog 80 [.clo (.func 140) [] [.loc 200000 0 0]] [(200000,.var [.map 200001]),(200001,.map (mapV (V.i .i64) (V.i .i64) m1))] (Qh (.own 30000 r.length) [(30000,.arr 1 (r.map Qe)),(200000,.var [.map 200001]),(200001,.map (mapV (V.i .i64) (V.i .i64) m1))]):=by
 refine Qc.walk 9 Tryz.func80 rfl Tryz.ntmps80 rfl fun C hC=>?_
 unfold QeK at h
 obtain⟨_,hlen,h⟩:=Qb h
 replace hlen:=of_decide_eq_true (chkE hlen)
 cases h
 refine Qa hC [.n 8] rfl tt_ ?_
 refine AK.callE (ι:=List Int) (Φ:=fun x=>x.Perm (m1.map Prod.fst)) [(200000,200000),(200001,200001)] [(5,30000),(200000,200000),(200001,200001)] [] [.d] (fun x3=>[(30000,.arr 1 (x3.map Qe)),(200000,.var [.map 200001]),(200001,.map (mapV (V.i .i64) (V.i .i64) m1))]) (fun x3=>(.own 30000 x3.length)) (fun x3=>_) rfl hC (QaW.fn rfl rfl rfl) rfl (bleN hC.n rfl) rfl rfl (Qk5 m1 hlen) (fun x3=>ex_ _ rfl) fun x3 hpp=>?_
 have hx4:QaZ x3=some (QbT (m1.map Prod.fst)):=by
  unfold QaZ
  rw [decide_eq_true (by have:=hpp.length_eq;simp at this;omega),Qr2 hpp];rfl
 have hk5:(QbT (m1.map Prod.fst)).length=x3.length:=by rw [QiI,hpp.length_eq]
 refine Qa hC [.n 6,.cm (.fn) [(200000,5)] [(5,200000)] [] [.d] [(200000,.arr 1 (((QbT (m1.map Prod.fst))).map Qe))] (.tup []),.say 3 (.own 5 (QbT (m1.map Prod.fst)).length),.say 5 (.own 5 (QbT (m1.map Prod.fst)).length),.say 6 (.own 5 (QbT (m1.map Prod.fst)).length),.n 9,.keep [2] [5,200000,200001],.ren 5 30000,.keep [2] [30000,200000,200001]] rfl ⟨⟨⟨⟨tt_,(Qho _ hx4)⟩,(by simp [hk5])⟩,(by simp [hk5])⟩,(by simp [hk5])⟩ ?_
 exact AK.done (ex_ [_] (an_ (an_ rfl tt_) (gives ⟨rfl,rfl,rfl,tt_⟩)))
def QbU (x6:Int)(l12:(List (Int×Int))):Option ((Int×(List (Int×Int)))⊕(List (Int×Int))):=
 some (.inl ((w64 (x6+1)),l12))
def QaE (x4:(List Int))(m1:(List (Int×Int)))(x6:Int)(l7:(List (Int×Int))):Option ((Int×(List (Int×Int)))⊕(List (Int×Int))):=
 bif (decide (x6<(x4.length:Int)))then
 (idx x4 x6).bind fun e13=>
 bif (decide (0<((mget m1 e13).getD 0)))then
 (chk (decide (l7.length+([(e13,((mget m1 e13).getD 0))]:List (Int×Int)).length≤4294967296))).bind fun _=>
 QbU x6 (l7++([(e13,((mget m1 e13).getD 0))]:List (Int×Int)))
 else
 QbU x6 l7
 else
 some (.inr l7)
def QgS (l10:(List (Int×Int))):Option (List (Int×Int)):=
 some l10
def QcX (m1:(List (Int×Int))):Option (List (Int×Int)):=
 (Qbs m1).bind fun x3=>
 (QeK m1).bind fun x4=>
 (QF (fun st=>QaE x4 m1 st.1 st.2) (0,([]:List (Int×Int)))).bind (fun q=>QgS q)
theorem Qju (m1:(List (Int×Int))){r:(List (Int×Int))}(h:QcX m1=some r):Qc Tryz.prog 40 [.map 200000] [(200000,.map (mapV (V.i .i64) (V.i .i64) m1))] (Qh (.own 30000 r.length) [(30000,.arr 2 (r.map QC)),(200000,.map (mapV (V.i .i64) (V.i .i64) m1))]):=by
 refine Qc.walk 28 Tryz.func40 rfl Tryz.ntmps40 rfl fun C hC=>?_
 unfold QcX at h
 obtain⟨x3,hx3,h⟩:=Qb h
 obtain⟨x4,hx4,h⟩:=Qb h
 refine Qa hC [.n 14,.cm (.fn) [(200000,200000)] [(7,1),(200000,200000)] [] [.d] [(1,.var [.map 200000]),(200000,.map (mapV (V.i .i64) (V.i .i64) m1))] (.clo (.func 140) [] [.loc 1 0 0]),.cm (.fn) [(200000,7),(200001,200000)] [(8,30000),(7,200000),(200000,200001)] [] [.d] [(30000,.arr 1 (x4.map Qe)),(200000,.var [.map 200001]),(200001,.map (mapV (V.i .i64) (V.i .i64) m1))] (.own 30000 x4.length),.n 5,.adopt 3 18 2,.sayO 18 (.arr 2 (([]:List (Int×Int)).map QC)),.say 3 (.own 18 ([]:List (Int×Int)).length),.keep [0,3,8,9,10] [8,18,200000]] rfl ⟨⟨⟨⟨tt_,(Qh6 _ hx3)⟩,(Qlw _ hx4)⟩,rfl⟩,(congrArg (fun n=>V.own 18 n) (by simp))⟩ ?_
 obtain⟨l10,hl16,h⟩:=Qb h
 refine AK.loop (body:=(fun st=>QaE x4 m1 st.1 st.2)) (fun st σ=>σ=⟨[(0,.map 200000),(3,.own 18 st.2.length),(8,.own 8 x4.length),(9,.i .i64 (x4.length:Int)),(10,.i .i64 st.1)],[(8,.arr 1 (x4.map Qe)),(18,.arr 2 (st.2.map QC)),(200000,.map (mapV (V.i .i64) (V.i .i64) m1))]⟩) (fun q e σ=>e=.exit 0∧σ=⟨[(3,.own 18 q.length)],[(18,.arr 2 (q.map QC)),(200000,.map (mapV (V.i .i64) (V.i .i64) m1))]⟩) hl16 rfl ?_ ?_
 ·rintro ⟨x6,l7⟩ o σ rfl h
  replace h:QaE x4 m1 x6 l7=some o:=h
  unfold QaE at h
  refine Qa hC [.n 6] rfl tt_ ?_
  rcases bifE h with⟨hc11,h⟩|⟨hc11,h⟩
  ·refine Qa hC [.br true,.n 2] rfl ⟨tt_,hc11⟩ ?_
   refine AK.meet (fun σ=>∃l12:(List (Int×Int)),σ=⟨[(0,.map 200000),(3,.own 18 l12.length),(8,.own 8 x4.length),(9,.i .i64 (x4.length:Int)),(10,.i .i64 x6)],[(8,.arr 1 (x4.map Qe)),(18,.arr 2 (l12.map QC)),(200000,.map (mapV (V.i .i64) (V.i .i64) m1))]⟩∧QbU x6 l12=some o) ?_ ?_
   ·obtain⟨e13,he13,h⟩:=Qb h
    refine Qa hC [.n 4,.o (.row (Qe e13)),.n 7,.o (.any (.i .i64 ((mget m1 e13).getD 0)) none),.n 3] rfl ⟨⟨⟨tt_,(QfF he13 rfl)⟩,(Qc8 (idxE he13).2)⟩,(fun σ h1 h2 _=>Stp.lookup (e:=(V.i .i64)) (f:=(V.i .i64)) (l:=m1) (k:=e13) (z:=0) rfl rfl (bleN hC.n rfl) (h1 _ _ rfl) (h2 _ _ rfl) (h1 _ _ rfl) Qii ky_3 zi_3 rfl)⟩ ?_
    rcases bifE h with⟨hc14,h⟩|⟨hc14,h⟩
    ·obtain⟨_,hk15,h⟩:=Qb h
     replace hk15:=chkE hk15
     refine Qa hC [.br true,.n 5,.o (.any (.i .i64 ((mget m1 e13).getD 0)) none),.v .no [] (.agg (QC (e13,((mget m1 e13).getD 0)))),.v (.bd []) [] (.sl 2 (([(e13,((mget m1 e13).getD 0))]:List (Int×Int)).map QC)),.app ((l7++([(e13,((mget m1 e13).getD 0))]:List (Int×Int))).map QC) (l7++([(e13,((mget m1 e13).getD 0))]:List (Int×Int))).length,.n 3,.keep [0,3,8,9,10] [8,18,200000]] rfl ⟨⟨⟨⟨⟨tt_,hc14⟩,(fun σ h1 h2 _=>Stp.lookup (e:=(V.i .i64)) (f:=(V.i .i64)) (l:=m1) (k:=e13) (z:=0) rfl rfl (bleN hC.n rfl) (h1 _ _ rfl) (h2 _ _ rfl) (h1 _ _ rfl) Qii ky_3 zi_3 rfl)⟩,rfl⟩,rfl⟩,⟨Qj,Qgx hk15 Qj,QeQ,Qih Qj⟩⟩ ?_
     exact AK.met (ex_ _ (an_ rfl h))
    ·refine Qa hC [.br false,.n 2,.keep [0,3,8,9,10] [8,18,200000]] rfl ⟨tt_,hc14⟩ ?_
     exact AK.met (ex_ _ (an_ rfl h))
   ·rintro σ ⟨l12,rfl,h⟩
    unfold QbU at h
    refine Qa hC [.n 4,.keep [0,3,8,9,10] [8,18,200000]] rfl tt_ ?_
    cases h
    exact rndN rfl rfl
  ·refine Qa hC [.br false,.n 2,.keep [3] [18,200000]] rfl ⟨tt_,hc11⟩ ?_
   cases h
   exact rndX rfl (an_ rfl rfl)
 ·replace h:QgS l10=some r:=h
  unfold QgS at h
  rintro e σ ⟨rfl,rfl⟩
  refine Qa hC [.n 9,.keep [2] [18,200000],.ren 18 30000,.keep [2] [30000,200000]] rfl tt_ ?_
  cases h
  exact AK.done (ex_ [_] (an_ (an_ rfl tt_) (gives ⟨rfl,rfl,tt_⟩)))
def Qh7 (x4:Int)(m10:(List (Int×Int))):Option ((Int×(List (Int×Int)))⊕(List (Int×Int))):=
 some (.inl ((w64 (x4+1)),m10))
def Qco (l1:(List Int))(x4:Int)(m5:(List (Int×Int))):Option ((Int×(List (Int×Int)))⊕(List (Int×Int))):=
 bif (decide (x4<(l1.length:Int)))then
 (idx l1 x4).bind fun e11=>
 bif (decide (0≤e11))then
 Qh7 x4 (mset ltI m5 e11 (min2 (w64 (((mget m5 e11).getD 0)+1)) 1048576))
 else
 Qh7 x4 m5
 else
 some (.inr m5)
def Qh8 (m8:(List (Int×Int))):Option (List (Int×Int)):=
 (QcX m8).bind fun x14=>
 some x14
def QkH (l1:(List Int)):Option (List (Int×Int)):=
 (QF (fun st=>Qco l1 st.1 st.2) (0,([]:(List (Int×Int))))).bind (fun q=>Qh8 q)
theorem Qrq (l1:(List Int)){r:(List (Int×Int))}(h:QkH l1=some r):Qc Tryz.prog 86 [.sl 1 (l1.map Qe)] [] (Qh (.own 30000 r.length) [(30000,.arr 2 (r.map QC))]):=by
 refine Qc.walk 25 Tryz.func86 rfl Tryz.ntmps86 rfl fun C hC=>?_
 unfold QkH at h
 refine Qa hC [.n 8,.sayO 6 (.map (mapV (V.i .i64) (V.i .i64) ([]:(List (Int×Int))))),.n 7,.o (.ln l1.length),.n 4,.keep [3,7,8,9] [6]] rfl ⟨⟨tt_,rfl⟩,Qj⟩ ?_
 obtain⟨m8,hl13,h⟩:=Qb h
 refine AK.loop (body:=(fun st=>Qco l1 st.1 st.2)) (fun st σ=>σ=⟨[(3,.map 6),(7,.sl 1 (l1.map Qe)),(8,.i .i64 (l1.length:Int)),(9,.i .i64 st.1)],[(6,.map (mapV (V.i .i64) (V.i .i64) st.2))]⟩) (fun q e σ=>e=.exit 0∧σ=⟨[(3,.map 6)],[(6,.map (mapV (V.i .i64) (V.i .i64) q))]⟩) hl13 rfl ?_ ?_
 ·rintro ⟨x4,m5⟩ o σ rfl h
  replace h:Qco l1 x4 m5=some o:=h
  unfold Qco at h
  refine Qa hC [.n 6] rfl tt_ ?_
  rcases bifE h with⟨hc9,h⟩|⟨hc9,h⟩
  ·refine Qa hC [.br true,.n 2] rfl ⟨tt_,hc9⟩ ?_
   refine AK.meet (fun σ=>∃m10:(List (Int×Int)),σ=⟨[(3,.map 6),(7,.sl 1 (l1.map Qe)),(8,.i .i64 (l1.length:Int)),(9,.i .i64 x4)],[(6,.map (mapV (V.i .i64) (V.i .i64) m10))]⟩∧Qh7 x4 m10=some o) ?_ ?_
   ·obtain⟨e11,he11,h⟩:=Qb h
    refine Qa hC [.n 3,.o (.row (Qe e11)),.n 10] rfl ⟨tt_,(idxM he11)⟩ ?_
    rcases bifE h with⟨hc12,h⟩|⟨hc12,h⟩
    ·refine Qa hC [.br true,.n 5,.o (.any (.i .i64 ((mget m5 e11).getD 0)) none),.n 2,.x (fun σ=>σ.set 6 (.map (mapV (V.i .i64) (V.i .i64) (mset ltI m5 e11 (min2 (w64 (((mget m5 e11).getD 0)+1)) 1048576))))),.n 2,.keep [3,7,8,9] [6]] rfl ⟨⟨⟨tt_,hc12⟩,(fun σ h1 h2 _=>Stp.lookup (e:=(V.i .i64)) (f:=(V.i .i64)) (l:=m5) (k:=e11) (z:=0) rfl rfl (bleN hC.n rfl) (h1 _ _ rfl) (h2 _ _ rfl) (h1 _ _ rfl) Qii ky_3 zi_3 rfl)⟩,(Stp.mapUpdate (e:=(V.i .i64)) (f:=(V.i .i64)) (l:=m5) (k:=e11) (v:=(min2 (w64 (((mget m5 e11).getD 0)+1)) 1048576)) ltI rfl rfl rfl rfl rfl rfl Qii ky_3 rfl)⟩ ?_
     exact AK.met (ex_ _ (an_ rfl h))
    ·refine Qa hC [.br false,.n 2,.keep [3,7,8,9] [6]] rfl ⟨tt_,hc12⟩ ?_
     exact AK.met (ex_ _ (an_ rfl h))
   ·rintro σ ⟨m10,rfl,h⟩
    unfold Qh7 at h
    refine Qa hC [.n 4,.keep [3,7,8,9] [6]] rfl tt_ ?_
    cases h
    exact rndN rfl rfl
  ·refine Qa hC [.br false,.n 2,.keep [3] [6]] rfl ⟨tt_,hc9⟩ ?_
   cases h
   exact rndX rfl (an_ rfl rfl)
 ·replace h:Qh8 m8=some r:=h
  unfold Qh8 at h
  rintro e σ ⟨rfl,rfl⟩
  obtain⟨x14,hx14,h⟩:=Qb h
  refine Qa hC [.n 5,.cm (.fn) [(200000,6)] [(24,30000),(6,200000)] [] [.d] [(30000,.arr 2 (x14.map QC)),(200000,.map (mapV (V.i .i64) (V.i .i64) m8))] (.own 30000 x14.length),.n 4,.keep [2] [24],.ren 24 30000,.keep [2] [30000]] rfl ⟨tt_,(Qju _ hx14)⟩ ?_
  cases h
  exact AK.done (ex_ [_] (an_ (an_ rfl tt_) (gives ⟨rfl,tt_⟩)))
def Qa0 (b1:(List (Int×Int)))(last4:Int)(x5:Int):Option ((Int×Int)⊕(Unit⊕Unit)):=
 bif (decide (x5<(b1.length:Int)))then
 (idx b1 x5).bind fun e9=>
 bif ((decide (e9.1≤last4))||((decide (e9.2<1))||(decide (1048576<e9.2))))then
 some (.inr (.inl ()))
 else
 some (.inl (e9.1,(w64 (x5+1))))
 else
 some (.inr (.inr ()))
def QfU : Option Bool:=
 some false
def QfV : Option Bool:=
 some true
def Qc3 (b1:(List (Int×Int))):Option Bool:=
 (QF (fun st=>Qa0 b1 st.1 st.2) ((-1),0)).bind (Sum.elim (fun q=>QfU) (fun q=>QfV))
theorem Qjy (b1:(List (Int×Int))){r:Bool}(h:Qc3 b1=some r):Qc Tryz.prog 60 [.sl 2 (b1.map QC)] [] (Qh (.b r) []):=by
 refine Qc.walk 29 Tryz.func60 rfl Tryz.ntmps60 rfl fun C hC=>?_
 unfold Qc3 at h
 refine Qa hC [.n 14,.o (.ln b1.length),.n 4,.keep [3,6,7,8] []] rfl ⟨tt_,Qj⟩ ?_
 obtain⟨o14,hl14,h⟩:=Qb h
 refine AK.loop (body:=(fun st=>Qa0 b1 st.1 st.2)) (fun st σ=>σ=⟨[(3,.i .i64 st.1),(6,.sl 2 (b1.map QC)),(7,.i .i64 (b1.length:Int)),(8,.i .i64 st.2)],[]⟩) (Sum.elim (fun q e σ=>e=.ret∧σ=⟨[(2,.b false)],[]⟩) (fun q e σ=>e=.exit 0∧σ=⟨[],[]⟩)) hl14 rfl ?_ ?_
 ·rintro ⟨last4,x5⟩ o σ rfl h
  replace h:Qa0 b1 last4 x5=some o:=h
  unfold Qa0 at h
  refine Qa hC [.n 6] rfl tt_ ?_
  rcases bifE h with⟨hc8,h⟩|⟨hc8,h⟩
  ·obtain⟨e9,he9,h⟩:=Qb h
   refine Qa hC [.br true,.n 6,.o (.row (QC e9)),.v .no [] (.agg (QC e9)),.n 2,.sayO 5 (.var (QC e9)),.n 4] rfl ⟨⟨⟨⟨tt_,hc8⟩,(idxM he9)⟩,rfl⟩,rfl⟩ ?_
   refine AK.meetX (fun σ=>σ=⟨[(5,.loc 5 0 0),(6,.sl 2 (b1.map QC)),(7,.i .i64 (b1.length:Int)),(8,.i .i64 x5),(25,.b ((decide (e9.1≤last4))||((decide (e9.2<1))||(decide (1048576<e9.2)))))],[(5,.var (QC e9))]⟩) ?_ ?_
   ·refine Qa hC [.n 6] rfl tt_ ?_
    rcases QI (decide (e9.1≤last4))with hc11 | hc11
    ·refine Qa hC [.say 16 (.b true),.n 10,.say 25 (.b ((decide (e9.1≤last4))||((decide (e9.2<1))||(decide (1048576<e9.2))))),.keep [5,6,7,8,25] [5]] rfl ⟨⟨tt_,(congrArg V.b hc11)⟩,(congrArg V.b (orT hc11 rfl))⟩ ?_
     exact AK.met rfl
    ·refine Qa hC [.say 16 (.b false),.n 5] rfl ⟨tt_,(congrArg V.b hc11)⟩ ?_
     rcases QI (decide (e9.2<1))with hc12 | hc12
     ·refine Qa hC [.say 21 (.b true),.n 5,.say 25 (.b ((decide (e9.1≤last4))||((decide (e9.2<1))||(decide (1048576<e9.2))))),.keep [5,6,7,8,25] [5]] rfl ⟨⟨tt_,(congrArg V.b hc12)⟩,(congrArg V.b (orF hc11 (orT hc12 rfl)))⟩ ?_
      exact AK.met rfl
     ·refine Qa hC [.say 21 (.b false),.n 5,.say 25 (.b ((decide (e9.1≤last4))||((decide (e9.2<1))||(decide (1048576<e9.2))))),.keep [5,6,7,8,25] [5]] rfl ⟨⟨tt_,(congrArg V.b hc12)⟩,(congrArg V.b (orF hc11 (orF hc12 rfl)))⟩ ?_
      exact AK.met rfl
   ·rintro σ rfl
    refine Qa hC [.n 1] rfl tt_ ?_
    rcases bifE h with⟨hc13,h⟩|⟨hc13,h⟩
    ·refine Qa hC [.br true,.n 9,.keep [2] []] rfl ⟨tt_,hc13⟩ ?_
     cases h
     exact rndR rfl (an_ rfl rfl)
    ·refine Qa hC [.br false,.n 13,.keep [3,6,7,8] []] rfl ⟨tt_,hc13⟩ ?_
     cases h
     exact rndN rfl rfl
  ·refine Qa hC [.br false,.n 2,.keep [] []] rfl ⟨tt_,hc8⟩ ?_
   cases h
   exact rndX rfl (an_ rfl rfl)
 ·rcases o14 with(_ | _)
  ·replace h:QfU=some r:=h
   unfold QfU at h
   rintro e σ ⟨rfl,rfl⟩
   refine Qa hC [.n 2,.keep [2] []] rfl tt_ ?_
   cases h
   exact AK.done (ex_ [_] (an_ (an_ rfl tt_) (gives tt_)))
  ·replace h:QfV=some r:=h
   unfold QfV at h
   rintro e σ ⟨rfl,rfl⟩
   refine Qa hC [.n 8,.keep [2] []] rfl tt_ ?_
   cases h
   exact AK.done (ex_ [_] (an_ (an_ rfl tt_) (gives tt_)))
def Qc4 (b1:(List (Int×Int)))(x6:Int)(m7:(List (Int×Int))):Option ((Int×(List (Int×Int)))⊕(List (Int×Int))):=
 bif (decide (x6<(b1.length:Int)))then
 (idx b1 x6).bind fun e12=>
 some (.inl ((w64 (x6+1)),(mset ltI m7 e12.1 e12.2)))
 else
 some (.inr m7)
def Qlx (m10:(List (Int×Int))):Option (Unit⊕(List (Int×Int))):=
 some (.inr m10)
def Qiv (b1:(List (Int×Int))):Option (Unit⊕(List (Int×Int))):=
 (Qc3 b1).bind fun x3=>
 bif (!x3)then
 some (.inl ())
 else
 (QF (fun st=>Qc4 b1 st.1 st.2) (0,([]:(List (Int×Int))))).bind (fun q=>Qlx q)
theorem QgP (b1:(List (Int×Int))){r:(Unit⊕(List (Int×Int)))}(h:Qiv b1=some r):Qc Tryz.prog 79 [.sl 2 (b1.map QC)] [] ((Sum.elim (fun q=>(Qh (.tup [.lit (.map none),.b false]) [])) (fun q=>(Qh (.tup [.map 30002,.b true]) [(30002,.map (mapV (V.i .i64) (V.i .i64) q))]))) r):=by
 refine Qc.walk 24 Tryz.func79 rfl Tryz.ntmps79 rfl fun C hC=>?_
 unfold Qiv at h
 obtain⟨x3,hx3,h⟩:=Qb h
 refine Qa hC [.n 10,.o (.c false [.d] (.b x3)),.n 3] rfl ⟨tt_,(Qjy _ hx3)⟩ ?_
 rcases bifE h with⟨hc4,h⟩|⟨hc4,h⟩
 ·refine Qa hC [.br true,.n 8,.keep [2,3] []] rfl ⟨tt_,hc4⟩ ?_
  cases h
  exact AK.done (ex_ [_,_] (an_ (an_ rfl (an_ rfl tt_)) (gives tt_)))
 ·refine Qa hC [.br false,.n 5,.sayO 10 (.map (mapV (V.i .i64) (V.i .i64) ([]:(List (Int×Int))))),.n 7,.o (.ln b1.length),.n 4,.keep [4,11,12,13] [10]] rfl ⟨⟨⟨tt_,hc4⟩,rfl⟩,Qj⟩ ?_
  obtain⟨m10,hl13,h⟩:=Qb h
  refine AK.loop (body:=(fun st=>Qc4 b1 st.1 st.2)) (fun st σ=>σ=⟨[(4,.map 10),(11,.sl 2 (b1.map QC)),(12,.i .i64 (b1.length:Int)),(13,.i .i64 st.1)],[(10,.map (mapV (V.i .i64) (V.i .i64) st.2))]⟩) (fun q e σ=>e=.exit 0∧σ=⟨[(4,.map 10)],[(10,.map (mapV (V.i .i64) (V.i .i64) q))]⟩) hl13 rfl ?_ ?_
  ·rintro ⟨x6,m7⟩ o σ rfl h
   replace h:Qc4 b1 x6 m7=some o:=h
   unfold Qc4 at h
   refine Qa hC [.n 6] rfl tt_ ?_
   rcases bifE h with⟨hc11,h⟩|⟨hc11,h⟩
   ·obtain⟨e12,he12,h⟩:=Qb h
    refine Qa hC [.br true,.n 6,.o (.row (QC e12)),.v .no [] (.agg (QC e12)),.n 2,.sayO 6 (.var (QC e12)),.n 8,.x (fun σ=>σ.set 10 (.map (mapV (V.i .i64) (V.i .i64) (mset ltI m7 e12.1 e12.2)))),.n 7,.keep [4,11,12,13] [10]] rfl ⟨⟨⟨⟨⟨tt_,hc11⟩,(idxM he12)⟩,rfl⟩,rfl⟩,(Stp.mapUpdate (e:=(V.i .i64)) (f:=(V.i .i64)) (l:=m7) (k:=e12.1) (v:=e12.2) ltI rfl rfl rfl rfl rfl rfl Qii ky_3 rfl)⟩ ?_
    cases h
    exact rndN rfl rfl
   ·refine Qa hC [.br false,.n 2,.keep [4] [10]] rfl ⟨tt_,hc11⟩ ?_
    cases h
    exact rndX rfl (an_ rfl rfl)
  ·replace h:Qlx m10=some r:=h
   unfold Qlx at h
   rintro e σ ⟨rfl,rfl⟩
   refine Qa hC [.n 10,.keep [2,3] [10],.ren 10 30002,.keep [2,3] [30002]] rfl tt_ ?_
   cases h
   exact AK.done (ex_ [_,_] (an_ (an_ rfl (an_ rfl tt_)) (gives ⟨rfl,tt_⟩)))
def Qj4 (a11:Unit):Option (Unit⊕((List (Int×Int))⊕((List (Int×Int))⊕((List (Int×Int))×(List (Int×Int)))))):=
 some (.inl ())
def Qj5 (a12:(List (Int×Int))):Option (Unit⊕((List (Int×Int))⊕((List (Int×Int))⊕((List (Int×Int))×(List (Int×Int)))))):=
 some (.inr (.inl a12))
def Qik (b2:(List (Int×Int)))(a8:Unit):Option (Unit⊕((List (Int×Int))⊕((List (Int×Int))⊕((List (Int×Int))×(List (Int×Int)))))):=
 (Qiv b2).bind (Sum.elim (fun q=>Qj4 q) (fun q=>Qj5 q))
def Qj6 (a9:(List (Int×Int)))(a14:Unit):Option (Unit⊕((List (Int×Int))⊕((List (Int×Int))⊕((List (Int×Int))×(List (Int×Int)))))):=
 some (.inr (.inr (.inl a9)))
def Qj7 (a9:(List (Int×Int)))(a15:(List (Int×Int))):Option (Unit⊕((List (Int×Int))⊕((List (Int×Int))⊕((List (Int×Int))×(List (Int×Int)))))):=
 some (.inr (.inr (.inr (a9,a15))))
def Qil (b2:(List (Int×Int)))(a9:(List (Int×Int))):Option (Unit⊕((List (Int×Int))⊕((List (Int×Int))⊕((List (Int×Int))×(List (Int×Int)))))):=
 (Qiv b2).bind (Sum.elim (fun q=>Qj6 a9 q) (fun q=>Qj7 a9 q))
def QhM (a1:(List (Int×Int)))(b2:(List (Int×Int))):Option (Unit⊕((List (Int×Int))⊕((List (Int×Int))⊕((List (Int×Int))×(List (Int×Int)))))):=
 (Qiv a1).bind (Sum.elim (fun q=>Qik b2 q) (fun q=>Qil b2 q))
theorem QcD (a1:(List (Int×Int)))(b2:(List (Int×Int))){r:(Unit⊕((List (Int×Int))⊕((List (Int×Int))⊕((List (Int×Int))×(List (Int×Int))))))}(h:QhM a1 b2=some r):Qc Tryz.prog 39 [.sl 2 (a1.map QC),.sl 2 (b2.map QC)] [] ((Sum.elim (fun q=>(Qh (.tup [.lit (.map none),.lit (.map none),.b false]) [])) (Sum.elim (fun q=>(Qh (.tup [.lit (.map none),.map 30005,.b false]) [(30005,.map (mapV (V.i .i64) (V.i .i64) q))])) (Sum.elim (fun q=>(Qh (.tup [.map 30004,.lit (.map none),.b false]) [(30004,.map (mapV (V.i .i64) (V.i .i64) q))])) (fun q=>(Qh (.tup [.map 30004,.map 30005,.b true]) [(30004,.map (mapV (V.i .i64) (V.i .i64) q.1)),(30005,.map (mapV (V.i .i64) (V.i .i64) q.2))]))))) r):=by
 refine Qc.walk 25 Tryz.func39 rfl Tryz.ntmps39 rfl fun C hC=>?_
 unfold QhM at h
 obtain⟨x7,hx7,h⟩:=Qb h
 refine Qa hC [.n 10] rfl tt_ ?_
 rcases x7 with(a8 | a9)
 ·replace h:Qik b2 a8=some r:=h
  unfold Qik at h
  obtain⟨x10,hx10,h⟩:=Qb h
  refine Qa hC [.cm (.fn) [] [] [] [.d] [] (.tup [.lit (.map none),.b false]),.n 10] rfl ⟨tt_,(QgP _ hx7)⟩ ?_
  rcases x10 with(a11 | a12)
  ·replace h:Qj4 a11=some r:=h
   unfold Qj4 at h
   refine Qa hC [.cm (.fn) [] [] [] [.d] [] (.tup [.lit (.map none),.b false]),.n 21,.keep [4,5,6] []] rfl ⟨tt_,(QgP _ hx10)⟩ ?_
   cases h
   exact AK.done (ex_ [_,_,_] (an_ (an_ rfl (an_ rfl (an_ rfl tt_))) (gives tt_)))
  ·replace h:Qj5 a12=some r:=h
   unfold Qj5 at h
   refine Qa hC [.cm (.fn) [] [(16,30002)] [] [.d] [(30002,.map (mapV (V.i .i64) (V.i .i64) a12))] (.tup [.map 30002,.b true]),.n 21,.keep [4,5,6] [16],.ren 16 30005,.keep [4,5,6] [30005]] rfl ⟨tt_,(QgP _ hx10)⟩ ?_
   cases h
   exact AK.done (ex_ [_,_,_] (an_ (an_ rfl (an_ rfl (an_ rfl tt_))) (gives ⟨rfl,tt_⟩)))
 ·replace h:Qil b2 a9=some r:=h
  unfold Qil at h
  obtain⟨x13,hx13,h⟩:=Qb h
  refine Qa hC [.cm (.fn) [] [(11,30002)] [] [.d] [(30002,.map (mapV (V.i .i64) (V.i .i64) a9))] (.tup [.map 30002,.b true]),.n 10] rfl ⟨tt_,(QgP _ hx7)⟩ ?_
  rcases x13 with(a14 | a15)
  ·replace h:Qj6 a9 a14=some r:=h
   unfold Qj6 at h
   refine Qa hC [.cm (.fn) [] [] [] [.d] [] (.tup [.lit (.map none),.b false]),.n 21,.keep [4,5,6] [11],.ren 11 30004,.keep [4,5,6] [30004]] rfl ⟨tt_,(QgP _ hx13)⟩ ?_
   cases h
   exact AK.done (ex_ [_,_,_] (an_ (an_ rfl (an_ rfl (an_ rfl tt_))) (gives ⟨rfl,tt_⟩)))
  ·replace h:Qj7 a9 a15=some r:=h
   unfold Qj7 at h
   refine Qa hC [.cm (.fn) [] [(16,30002)] [] [.d] [(30002,.map (mapV (V.i .i64) (V.i .i64) a15))] (.tup [.map 30002,.b true]),.n 21,.keep [4,5,6] [11,16],.ren 11 30004,.keep [4,5,6] [16,30004],.ren 16 30005,.keep [4,5,6] [30004,30005]] rfl ⟨tt_,(QgP _ hx13)⟩ ?_
   cases h
   exact AK.done (ex_ [_,_,_] (an_ (an_ rfl (an_ rfl (an_ rfl tt_))) (gives ⟨rfl,rfl,tt_⟩)))
def QkI (a8:Unit):Option ((List (Int×Int))×Int):=
 some (([]:List (Int×Int)),1)
def QkJ (a9:(List (Int×Int))):Option ((List (Int×Int))×Int):=
 some (([]:List (Int×Int)),1)
def QkK (a10:(List (Int×Int))):Option ((List (Int×Int))×Int):=
 some (([]:List (Int×Int)),1)
def Qel (m14:(List (Int×Int)))(k16:Int)(v17:Int):Option ((List (Int×Int))⊕Unit):=
 bif (decide (1048576<((mget (mset ltI m14 k16 (w64 (((mget m14 k16).getD 0)+v17))) k16).getD 0)))then
 some (.inr ())
 else
 some (.inl (mset ltI m14 k16 (w64 (((mget m14 k16).getD 0)+v17))))
def Qi2 (m14:(List (Int×Int))):Option ((List (Int×Int))×Int):=
 (QcX m14).bind fun x20=>
 some (x20,0)
def QkL : Option ((List (Int×Int))×Int):=
 some (([]:List (Int×Int)),2)
def Qi3 (a11:((List (Int×Int))×(List (Int×Int)))):Option ((List (Int×Int))×Int):=
 (QiQ (fun st p=>Qel st p.1 p.2) a11.1 a11.2).bind (Sum.elim (fun q=>Qi2 q) (fun q=>QkL))
def Qgg (a1:(List (Int×Int)))(b2:(List (Int×Int))):Option ((List (Int×Int))×Int):=
 (QhM a1 b2).bind (Sum.elim (fun q=>QkI q) (Sum.elim (fun q=>QkJ q) (Sum.elim (fun q=>QkK q) (fun q=>Qi3 q))))
theorem Qq3 (a1:(List (Int×Int)))(b2:(List (Int×Int))){r:((List (Int×Int))×Int)}(h:Qgg a1 b2=some r):Qc Tryz.prog 14 [.sl 2 (a1.map QC),.sl 2 (b2.map QC)] [] (Qh (.tup [.sl 2 (r.1.map QC),.i .i64 r.2]) []):=by
 refine Qc.walk 38 Tryz.func14 rfl Tryz.ntmps14 rfl fun C hC=>?_
 unfold Qgg at h
 obtain⟨x7,hx7,h⟩:=Qb h
 refine Qa hC [.n 10] rfl tt_ ?_
 rcases x7 with(a8 | (a9 | (a10 | a11)))
 ·replace h:QkI a8=some r:=h
  unfold QkI at h
  refine Qa hC [.cm (.fn) [] [] [] [.d,.d] [] (.tup [.lit (.map none),.lit (.map none),.b false]),.n 25,.denil 4 [some 2],.keep [4,5] []] rfl ⟨tt_,(QcD _ _ hx7)⟩ ?_
  cases h
  exact AK.done (ex_ [_,_] (an_ (an_ rfl (an_ rfl tt_)) (gives tt_)))
 ·replace h:QkJ a9=some r:=h
  unfold QkJ at h
  refine Qa hC [.cm (.fn) [] [(14,30005)] [] [.d,.d] [(30005,.map (mapV (V.i .i64) (V.i .i64) a9))] (.tup [.lit (.map none),.map 30005,.b false]),.n 25,.denil 4 [some 2],.keep [4,5] []] rfl ⟨tt_,(QcD _ _ hx7)⟩ ?_
  cases h
  exact AK.done (ex_ [_,_] (an_ (an_ rfl (an_ rfl tt_)) (gives tt_)))
 ·replace h:QkK a10=some r:=h
  unfold QkK at h
  refine Qa hC [.cm (.fn) [] [(14,30004)] [] [.d,.d] [(30004,.map (mapV (V.i .i64) (V.i .i64) a10))] (.tup [.map 30004,.lit (.map none),.b false]),.n 25,.denil 4 [some 2],.keep [4,5] []] rfl ⟨tt_,(QcD _ _ hx7)⟩ ?_
  cases h
  exact AK.done (ex_ [_,_] (an_ (an_ rfl (an_ rfl tt_)) (gives tt_)))
 ·replace h:Qi3 a11=some r:=h
  unfold Qi3 at h
  refine Qa hC [.cm (.fn) [] [(14,30004),(50000,30005)] [] [.d,.d] [(30004,.map (mapV (V.i .i64) (V.i .i64) a11.1)),(30005,.map (mapV (V.i .i64) (V.i .i64) a11.2))] (.tup [.map 30004,.map 30005,.b true]),.n 23] rfl ⟨tt_,(QcD _ _ hx7)⟩ ?_
  refine AK.openMap (b:=50000) ky_3 rfl fun bm12 cl12 L12 hbn12 hpm12=>?_
  refine Qa hC [.x (fun σ=>(σ.set 21 (.itr bm12 cl12 #[] none)).put 21 (.loc 21 0 0)),.n 3,.keep [6,21] [14,21,50000]] rfl ⟨tt_,(Stp.range (b:=50000) rfl rfl (bleN hC.n rfl) rfl rfl Qii rfl)⟩ ?_
  obtain⟨o19,hl19,h⟩:=Qb h
  refine AK.range (body:=(fun st p=>Qel st p.1 p.2)) (fun st seen σ=>∃cur:Option MapEntry,σ=⟨[(6,.map 14),(21,.loc 21 0 0)],[(14,.map (mapV (V.i .i64) (V.i .i64) st)),(21,.itr bm12 cl12 seen cur),(50000,.mapX bm12 cl12 (typV (V.i .i64) (V.i .i64) L12) (mapV (V.i .i64) (V.i .i64) a11.2))]⟩) (fun q e σ=>e=.ret∧σ=⟨[(4,.lit (.slice none 0 0)),(5,.i .i64 2)],[]⟩) (fun st e σ=>e=.exit 0∧σ=⟨[(6,.map 14)],[(14,.map (mapV (V.i .i64) (V.i .i64) st))]⟩) hbn12 hpm12 hl19 (ex_ _ rfl) ?_ ?_
  ·rintro m14 seen σ ⟨cur,rfl⟩ hex
   refine Qa hC [.n 2] rfl tt_ ?_
   refine AK.nextT (b:=21) (m:=50000) rfl rfl rfl (bleN hC.n rfl) rfl rfl rfl rfl ?_ ?_
   ·intro hleft
    refine Qa hC [.n 7,.keep [6] [14]] rfl tt_ ?_
    exact AK.done (Or.inl (an_ hleft (an_ (fun h=>(by cases h)) (an_ rfl rfl))))
   ·intro xk16 k16 v17 hq13
    obtain⟨o,h⟩:=hex _ hq13
    have ho:=h
    replace h:Qel m14 k16 v17=some o:=h
    unfold Qel at h
    refine Qa hC [.n 10,.x (fun σ=>σ.put 24 (.tup [.i .i64 k16,.i .i64 v17])),.n 10,.o (.any (.i .i64 ((mget m14 k16).getD 0)) none),.n 2,.x (fun σ=>σ.set 14 (.map (mapV (V.i .i64) (V.i .i64) (mset ltI m14 k16 (w64 (((mget m14 k16).getD 0)+v17)))))),.n 6,.o (.any (.i .i64 ((mget (mset ltI m14 k16 (w64 (((mget m14 k16).getD 0)+v17))) k16).getD 0)) none),.n 3] rfl ⟨⟨⟨⟨tt_,(Stp.entryT (b:=21) (m:=50000) rfl rfl (bleN hC.n rfl) rfl hq13 rfl rfl)⟩,(fun σ h1 h2 _=>Stp.lookup (e:=(V.i .i64)) (f:=(V.i .i64)) (l:=m14) (k:=k16) (z:=0) rfl rfl (bleN hC.n rfl) (h1 _ _ rfl) (h2 _ _ rfl) (h1 _ _ rfl) Qii ky_3 zi_3 rfl)⟩,(Stp.mapUpdate (e:=(V.i .i64)) (f:=(V.i .i64)) (l:=m14) (k:=k16) (v:=(w64 (((mget m14 k16).getD 0)+v17))) ltI rfl rfl rfl rfl rfl rfl Qii ky_3 rfl)⟩,(fun σ h1 h2 _=>Stp.lookup (e:=(V.i .i64)) (f:=(V.i .i64)) (l:=(mset ltI m14 k16 (w64 (((mget m14 k16).getD 0)+v17)))) (k:=k16) (z:=0) rfl rfl (bleN hC.n rfl) (h1 _ _ rfl) (h2 _ _ rfl) (h1 _ _ rfl) Qii ky_3 zi_3 rfl)⟩ ?_
    rcases bifE h with⟨hc18,h⟩|⟨hc18,h⟩
    ·refine Qa hC [.br true,.n 8,.keep [4,5] []] rfl ⟨tt_,hc18⟩ ?_
     cases h
     exact AK.done (Or.inr (ex_ _ (an_ hq13 (Or.inr (ex_ _ (an_ ho (an_ (fun h=>(by cases h)) (an_ rfl rfl))))))))
    ·refine Qa hC [.br false,.n 2,.keep [6,21] [14,21,50000]] rfl ⟨tt_,hc18⟩ ?_
     cases h
     exact AK.done (Or.inr (ex_ _ (an_ hq13 (Or.inl (ex_ _ (an_ ho (an_ rfl (ex_ _ rfl))))))))
  ·rcases o19 with(m14 | _)
   ·replace h:Qi2 m14=some r:=h
    unfold Qi2 at h
    rintro e σ ⟨rfl,rfl⟩
    obtain⟨x20,hx20,h⟩:=Qb h
    refine Qa hC [.n 5,.cm (.fn) [(200000,14)] [(37,30000),(14,200000)] [] [.d] [(30000,.arr 2 (x20.map QC)),(200000,.map (mapV (V.i .i64) (V.i .i64) m14))] (.own 30000 x20.length),.n 5,.frz 37 (x20.map QC) [4] [],.keep [4,5] []] rfl ⟨⟨tt_,(Qju _ hx20)⟩,⟨tt_,(frzL Qj)⟩⟩ ?_
    cases h
    exact AK.done (ex_ [_,_] (an_ (an_ rfl (an_ rfl tt_)) (gives tt_)))
   ·replace h:QkL=some r:=h
    unfold QkL at h
    rintro e σ ⟨rfl,rfl⟩
    refine Qa hC [.n 2,.denil 4 [some 2],.keep [4,5] []] rfl tt_ ?_
    cases h
    exact AK.done (ex_ [_,_] (an_ (an_ rfl (an_ rfl tt_)) (gives tt_)))
def QcY (which3:(List Int))(l2:(List TArc))(env4:(List Int))(n1:TNet)(x11:Int)(l12:(List (List (Int×Int)))):Option ((Int×(List (List (Int×Int))))⊕(Int⊕(List (List (Int×Int))))):=
 bif (decide (x11<(which3.length:Int)))then
 (idx which3 x11).bind fun e18=>
 bif ((decide (e18<0))||(decide ((l2.length:Int)≤e18)))then
 some (.inr (.inl 11))
 else
 (idx l2 e18).bind fun e22=>
 (QgO e22.Expr env4).bind fun x23=>
 bif (x23.2 != 0)then
 some (.inr (.inl x23.2))
 else
 (idx l2 e18).bind fun e25=>
 bif ((decide (e25.Place<0))||(decide ((n1.Places.length:Int)≤e25.Place)))then
 some (.inr (.inl 3))
 else
 (idx n1.Places e25.Place).bind fun e29=>
 (Qcq n1.Colours e29.Colour x23.1).bind fun x30=>
 bif (!x30.2)then
 some (.inr (.inl 8))
 else
 (idx l12 e25.Place).bind fun e32=>
 (QkH ([x30.1]:List Int)).bind fun x33=>
 (Qgg e32 x33).bind fun x34=>
 (idx l12 e25.Place).bind fun e35=>
 bif (x34.2 != 0)then
 some (.inr (.inl x34.2))
 else
 some (.inl ((w64 (x11+1)),(l12.set e25.Place.toNat x34.1)))
 else
 some (.inr (.inr l12))
def Qiw (x15:Int):Option ((List (List (Int×Int)))×Int):=
 some (([]:List (List (Int×Int))),x15)
def Qix (l16:(List (List (Int×Int)))):Option ((List (List (Int×Int)))×Int):=
 some (l16,0)
def QcE (n1:TNet)(l2:(List TArc))(which3:(List Int))(env4:(List Int)):Option ((List (List (Int×Int)))×Int):=
 (chk (decide (0≤(n1.Places.length:Int))&&decide ((n1.Places.length:Int)≤(n1.Places.length:Int))&&decide ((n1.Places.length:Int)≤4294967296))).bind fun _=>
 (QF (fun st=>QcY which3 l2 env4 n1 st.1 st.2) (0,(List.replicate (n1.Places.length:Int).toNat (([]:(List (Int×Int))):(List (Int×Int)))))).bind (Sum.elim (fun q=>Qiw q) (fun q=>Qix q))
theorem Qgl (n1:TNet)(l2:(List TArc))(which3:(List Int))(env4:(List Int)){r:((List (List (Int×Int)))×Int)}(h:QcE n1 l2 which3 env4=some r):Qc Tryz.prog 44 [.agg (Qd n1),.sl 4 (l2.map QM),.sl 1 (which3.map Qe),.sl 1 (env4.map Qe)] [] (Qh (.tup [.sl 1 (r.1.map Qv),.i .i64 r.2]) []):=by
 refine Qc.walk 97 Tryz.func44 rfl Tryz.ntmps44 rfl fun C hC=>?_
 unfold QcE at h
 obtain⟨_,hk9,h⟩:=Qb h
 replace hk9:=chkE hk9
 refine Qa hC [.n 11,.o (.ln n1.Places.length),.o (.rows (List.replicate (n1.Places.length:Int).toNat [.lit (.slice none 0 0)]))] rfl ⟨⟨tt_,Qj⟩,⟨hk9,rfl⟩⟩ ?_
 refine AK.denilA (b:=21) [some 2] rfl (Qt1 (f:=Qv) (x:=([]:(List (Int×Int)))) rfl) ?_
 refine Qa hC [.say 21 (.own 21 (List.replicate (n1.Places.length:Int).toNat (([]:(List (Int×Int))):(List (Int×Int)))).length),.n 7,.o (.ln which3.length),.n 4,.keep [1,3,4,10,22,23,24] [4,21]] rfl ⟨⟨tt_,(by simp)⟩,Qj⟩ ?_
 obtain⟨o37,hl37,h⟩:=Qb h
 refine AK.loop (body:=(fun st=>QcY which3 l2 env4 n1 st.1 st.2)) (fun st σ=>σ=⟨[(1,.sl 4 (l2.map QM)),(3,.sl 1 (env4.map Qe)),(4,.loc 4 0 0),(10,.own 21 st.2.length),(22,.sl 1 (which3.map Qe)),(23,.i .i64 (which3.length:Int)),(24,.i .i64 st.1)],[(4,.var (Qd n1)),(21,.arr 1 (st.2.map Qv))]⟩) (Sum.elim (fun q e σ=>e=.ret∧σ=⟨[(8,.lit (.slice none 0 0)),(9,.i .i64 q)],[]⟩) (fun q e σ=>e=.exit 0∧σ=⟨[(10,.own 21 q.length)],[(21,.arr 1 (q.map Qv))]⟩)) hl37 rfl ?_ ?_
 ·rintro ⟨x11,l12⟩ o σ rfl h
  replace h:QcY which3 l2 env4 n1 x11 l12=some o:=h
  unfold QcY at h
  refine Qa hC [.n 6] rfl tt_ ?_
  rcases bifE h with⟨hc17,h⟩|⟨hc17,h⟩
  ·obtain⟨e18,he18,h⟩:=Qb h
   refine Qa hC [.br true,.n 6,.o (.row (Qe e18)),.n 6] rfl ⟨⟨tt_,hc17⟩,(idxM he18)⟩ ?_
   refine AK.meetX (fun σ=>σ=⟨[(1,.sl 4 (l2.map QM)),(3,.sl 1 (env4.map Qe)),(4,.loc 4 0 0),(10,.own 21 l12.length),(12,.i .i64 e18),(22,.sl 1 (which3.map Qe)),(23,.i .i64 (which3.length:Int)),(24,.i .i64 x11),(35,.b ((decide (e18<0))||(decide ((l2.length:Int)≤e18))))],[(4,.var (Qd n1)),(21,.arr 1 (l12.map Qv))]⟩) ?_ ?_
   ·refine Qa hC [.n 4] rfl tt_ ?_
    rcases QI (decide (e18<0))with hc20 | hc20
    ·refine Qa hC [.say 30 (.b true),.n 6,.say 35 (.b ((decide (e18<0))||(decide ((l2.length:Int)≤e18)))),.keep [1,3,4,10,12,22,23,24,35] [4,21]] rfl ⟨⟨tt_,(congrArg V.b hc20)⟩,(congrArg V.b (orT hc20 rfl))⟩ ?_
     exact AK.met rfl
    ·refine Qa hC [.say 30 (.b false),.n 2,.o (.ln l2.length),.n 3,.say 35 (.b ((decide (e18<0))||(decide ((l2.length:Int)≤e18)))),.keep [1,3,4,10,12,22,23,24,35] [4,21]] rfl ⟨⟨⟨tt_,(congrArg V.b hc20)⟩,Qj⟩,(congrArg V.b (orF hc20 rfl))⟩ ?_
     exact AK.met rfl
   ·rintro σ rfl
    refine Qa hC [.n 1] rfl tt_ ?_
    rcases bifE h with⟨hc21,h⟩|⟨hc21,h⟩
    ·refine Qa hC [.br true,.n 10,.keep [8,9] []] rfl ⟨tt_,hc21⟩ ?_
     cases h
     exact rndR rfl (an_ rfl rfl)
    ·obtain⟨e22,he22,h⟩:=Qb h
     obtain⟨x23,hx23,h⟩:=Qb h
     refine Qa hC [.br false,.n 6,.o (.row (QM e22)),.n 1,.v .no [] (.agg (Qk e22.Expr)),.n 1,.o (.c false [.d,.d] (.tup [.i .i64 x23.1,.i .i64 x23.2])),.n 14] rfl ⟨⟨⟨⟨tt_,hc21⟩,(idxM he22)⟩,rfl⟩,(QlM _ _ hx23)⟩ ?_
     rcases bifE h with⟨hc24,h⟩|⟨hc24,h⟩
     ·refine Qa hC [.br true,.n 11,.keep [8,9] []] rfl ⟨tt_,hc24⟩ ?_
      cases h
      exact rndR rfl (an_ rfl rfl)
     ·obtain⟨e25,he25,h⟩:=Qb h
      refine Qa hC [.br false,.n 6,.o (.row (QM e25)),.n 7] rfl ⟨⟨tt_,hc24⟩,(idxM he25)⟩ ?_
      refine AK.meetX (fun σ=>σ=⟨[(1,.sl 4 (l2.map QM)),(3,.sl 1 (env4.map Qe)),(4,.loc 4 0 0),(10,.own 21 l12.length),(13,.i .i64 x23.1),(15,.i .i64 e25.Place),(22,.sl 1 (which3.map Qe)),(23,.i .i64 (which3.length:Int)),(24,.i .i64 x11),(62,.b ((decide (e25.Place<0))||(decide ((n1.Places.length:Int)≤e25.Place))))],[(4,.var (Qd n1)),(21,.arr 1 (l12.map Qv))]⟩) ?_ ?_
      ·refine Qa hC [.n 4] rfl tt_ ?_
       rcases QI (decide (e25.Place<0))with hc27 | hc27
       ·refine Qa hC [.say 56 (.b true),.n 7,.say 62 (.b ((decide (e25.Place<0))||(decide ((n1.Places.length:Int)≤e25.Place)))),.keep [1,3,4,10,13,15,22,23,24,62] [4,21]] rfl ⟨⟨tt_,(congrArg V.b hc27)⟩,(congrArg V.b (orT hc27 rfl))⟩ ?_
        exact AK.met rfl
       ·refine Qa hC [.say 56 (.b false),.n 3,.o (.ln n1.Places.length),.n 3,.say 62 (.b ((decide (e25.Place<0))||(decide ((n1.Places.length:Int)≤e25.Place)))),.keep [1,3,4,10,13,15,22,23,24,62] [4,21]] rfl ⟨⟨⟨tt_,(congrArg V.b hc27)⟩,Qj⟩,(congrArg V.b (orF hc27 rfl))⟩ ?_
        exact AK.met rfl
      ·rintro σ rfl
       refine Qa hC [.n 1] rfl tt_ ?_
       rcases bifE h with⟨hc28,h⟩|⟨hc28,h⟩
       ·refine Qa hC [.br true,.n 10,.keep [8,9] []] rfl ⟨tt_,hc28⟩ ?_
        cases h
        exact rndR rfl (an_ rfl rfl)
       ·obtain⟨e29,he29,h⟩:=Qb h
        obtain⟨x30,hx30,h⟩:=Qb h
        refine Qa hC [.br false,.n 3,.keep [1,3,4,10,13,15,22,23,24] [4,21]] rfl ⟨tt_,hc28⟩ ?_
        refine AK.draw2 Qo hC mixed [.a .no none false,.a .no none false,.a .no none false,.a .no none false,.a .no none false,.a (.row (Qs e29)) none false,.a .no none false,.a .no none false,.a .no none false,.a (.c false [.d,.d,.d] (.tup [.i .i64 x30.1,.b x30.2])) none false,.a .no none false,.a .no none false,.a .no none false,.a .no none false,.a .no none false] [] [] [1,3,4,10,15,16,17,22,23,24] [4,21] rfl rfl rfl ⟨⟨tt_,(idxM he29)⟩,(Qnj _ _ _ hx30)⟩ rfl (by kernel_rfl) rfl rfl rfl ?_
        refine Qa hC [.n 8] rfl tt_ ?_
        rcases bifE h with⟨hc31,h⟩|⟨hc31,h⟩
        ·refine Qa hC [.br true,.n 10,.keep [8,9] []] rfl ⟨tt_,hc31⟩ ?_
         cases h
         exact rndR rfl (an_ rfl rfl)
        ·obtain⟨e32,he32,h⟩:=Qb h
         obtain⟨x33,hx33,h⟩:=Qb h
         obtain⟨x34,hx34,h⟩:=Qb h
         obtain⟨e35,he35,h⟩:=Qb h
         refine Qa hC [.br false,.n 3,.keep [1,3,4,10,15,16,22,23,24] [4,21]] rfl ⟨tt_,hc31⟩ ?_
         refine AK.draw2 Qo hC mixed [.a .no none false,.a .no none false,.a .no none false,.a .no none false,.a .no none false,.a (.row (Qv e32)) none false,.a .no none false,.a (.bd []) (some ([],.sl 1 (([x30.1]:List Int).map Qe))) false,.a (.cd false [.d] 2 (x33.map QC) x33.length) none false,.a (.c false [.d,.d] (.tup [.sl 2 (x34.1.map QC),.i .i64 x34.2])) none false,.a .no none true true,.a .no none false,.a .no none true,.a .no none false,.m (.st (Qv e35) ((l12.set e25.Place.toNat x34.1).map Qv)),.a .no none false] [1,3,4,10,15,16,22,23,24] [4] [1,3,4,10,14,22,23,24] [4,21] rfl rfl rfl ⟨⟨⟨⟨⟨⟨⟨tt_,(QfF he32 rfl)⟩,(Qc8 (idxE he32).2)⟩,rfl⟩,⟨(Qrq _ hx33),Qj⟩⟩,(Qq3 _ _ hx34)⟩,(QfF he35 rfl)⟩,⟨(Qc8 (idxE he35).2),QmZ rfl⟩⟩ rfl (by kernel_rfl) rfl rfl rfl ?_
         refine Qa hC [.n 7] rfl tt_ ?_
         rcases bifE h with⟨hc36,h⟩|⟨hc36,h⟩
         ·refine Qa hC [.br true,.n 10,.keep [8,9] []] rfl ⟨tt_,hc36⟩ ?_
          cases h
          exact rndR rfl (an_ rfl rfl)
         ·refine Qa hC [.br false,.n 7,.say 10 (.own 21 (l12.set e25.Place.toNat x34.1).length),.keep [1,3,4,10,22,23,24] [4,21]] rfl ⟨⟨tt_,hc36⟩,(congrArg (fun n=>V.own 21 n) (by simp))⟩ ?_
          cases h
          exact rndN rfl rfl
  ·refine Qa hC [.br false,.n 2,.keep [10] [21]] rfl ⟨tt_,hc17⟩ ?_
   cases h
   exact rndX rfl (an_ rfl rfl)
 ·rcases o37 with(x15 | l16)
  ·replace h:Qiw x15=some r:=h
   unfold Qiw at h
   rintro e σ ⟨rfl,rfl⟩
   refine Qa hC [.n 2,.denil 8 [some 1],.keep [8,9] []] rfl tt_ ?_
   cases h
   exact AK.done (ex_ [_,_] (an_ (an_ rfl (an_ rfl tt_)) (gives tt_)))
  ·replace h:Qix l16=some r:=h
   unfold Qix at h
   rintro e σ ⟨rfl,rfl⟩
   refine Qa hC [.n 10,.frz 21 (l16.map Qv) [8] [],.keep [8,9] []] rfl ⟨tt_,⟨tt_,(frzL Qj)⟩⟩ ?_
   cases h
   exact AK.done (ex_ [_,_] (an_ (an_ rfl (an_ rfl tt_)) (gives tt_)))
def QaF (b1:Qx)(outs2:(List Int)):Option Int:=
 (QcE b1.net b1.task.Outs outs2 b1.env).bind fun x4=>
 some x4.2
theorem Qh9 (b1:Qx)(outs2:(List Int)){r:Int}(h:QaF b1 outs2=some r):Qc Tryz.prog 32 [.agg (Qn b1),.sl 1 (outs2.map Qe)] [] (Qh (.i .i64 r) []):=by
 refine Qc.walk 20 Tryz.func32 rfl Tryz.ntmps32 rfl fun C hC=>?_
 unfold QaF at h
 obtain⟨x4,hx4,h⟩:=Qb h
 refine Qa hC [.n 9,.v .no [] (.agg (Qd b1.net)),.n 6,.o (.c false [.d,.d,.d,.d] (.tup [.sl 1 (x4.1.map Qv),.i .i64 x4.2])),.n 14,.keep [4] []] rfl ⟨⟨tt_,rfl⟩,(Qgl _ _ _ _ hx4)⟩ ?_
 cases h
 exact AK.done (ex_ [_] (an_ (an_ rfl tt_) (gives tt_)))
def Qd5 (row1:(List Int))(v2:Qx):Option Bool:=
 (QaF v2 row1).bind fun x4=>
 some (x4 != 0)
theorem Qkf (row1:(List Int))(v2:Qx){r:Bool}(h:Qd5 row1 v2=some r):Qc Tryz.prog 31 [.sl 1 (row1.map Qe),.loc 200000 0 0] [(200000,.var (Qn v2))] (Qh (.b r) [(200000,.var (Qn v2))]):=by
 refine Qc.walk 8 Tryz.func31 rfl Tryz.ntmps31 rfl fun C hC=>?_
 unfold Qd5 at h
 obtain⟨x4,hx4,h⟩:=Qb h
 refine Qa hC [.n 7,.v .no [] (.agg (Qn v2)),.n 1,.o (.c false [.d,.d] (.i .i64 x4)),.n 5,.keep [3] [200000]] rfl ⟨⟨tt_,rfl⟩,(Qh9 _ _ hx4)⟩ ?_
 cases h
 exact AK.done (ex_ [_] (an_ (an_ rfl tt_) (gives ⟨rfl,tt_⟩)))
def Qac (l1:(List (List Int)))(v2:Qx)(x5:Int):Option (Int⊕(Int⊕Unit)):=
 bif (decide (x5<(l1.length:Int)))then
 (idx l1 x5).bind fun e9=>
 (Qd5 e9 v2).bind fun x10=>
 bif x10 then
 some (.inr (.inl x5))
 else
 some (.inl (w64 (x5+1)))
 else
 some (.inr (.inr ()))
def Qb6 (x7:Int):Option Int:=
 some x7
def Qb7 : Option Int:=
 some (-1)
def QaU (l1:(List (List Int)))(v2:Qx):Option Int:=
 (QF (fun st=>Qac l1 v2 st) 0).bind (Sum.elim (fun q=>Qb6 q) (fun q=>Qb7))
theorem Qiy (l1:(List (List Int)))(v2:Qx){r:Int}(h:QaU l1 v2=some r):Qc Tryz.prog 64 [.own 200000 l1.length,.clo (.func 31) [] [.loc 200001 0 0]] [(200000,.arr 1 (l1.map Qu)),(200001,.var (Qn v2))] (Qh (.i .i64 r) [(200000,.arr 1 (l1.map Qu)),(200001,.var (Qn v2))]):=by
 refine Qc.walk 19 Tryz.func64 rfl Tryz.ntmps64 rfl fun C hC=>?_
 unfold QaU at h
 refine Qa hC [.n 14,.keep [0,1,7,8] [200000,200001]] rfl tt_ ?_
 obtain⟨o12,hl12,h⟩:=Qb h
 refine AK.loop (body:=(fun st=>Qac l1 v2 st)) (fun st σ=>σ=⟨[(0,.own 200000 l1.length),(1,.clo (.func 31) [] [.loc 200001 0 0]),(7,.i .i64 (l1.length:Int)),(8,.i .i64 st)],[(200000,.arr 1 (l1.map Qu)),(200001,.var (Qn v2))]⟩) (Sum.elim (fun q e σ=>e=.ret∧σ=⟨[(4,.i .i64 q)],[(200000,.arr 1 (l1.map Qu)),(200001,.var (Qn v2))]⟩) (fun q e σ=>e=.exit 0∧σ=⟨[],[(200000,.arr 1 (l1.map Qu)),(200001,.var (Qn v2))]⟩)) hl12 rfl ?_ ?_
 ·rintro x5 o σ rfl h
  replace h:Qac l1 v2 x5=some o:=h
  unfold Qac at h
  refine Qa hC [.n 6] rfl tt_ ?_
  rcases bifE h with⟨hc8,h⟩|⟨hc8,h⟩
  ·obtain⟨e9,he9,h⟩:=Qb h
   obtain⟨x10,hx10,h⟩:=Qb h
   refine Qa hC [.br true,.n 16,.o (.row (Qu e9)),.cm (.clo) [(200000,200001)] [(200001,200000)] [] [.d,.d] [(200000,.var (Qn v2))] (.b x10),.n 2] rfl ⟨⟨⟨⟨tt_,hc8⟩,(QfF he9 rfl)⟩,(Qc8 (idxE he9).2)⟩,(Qkf _ _ hx10)⟩ ?_
   rcases bifE h with⟨hc11,h⟩|⟨hc11,h⟩
   ·refine Qa hC [.br true,.n 9,.keep [4] [200000,200001]] rfl ⟨tt_,hc11⟩ ?_
    cases h
    exact rndR rfl (an_ rfl rfl)
   ·refine Qa hC [.br false,.n 7,.keep [0,1,7,8] [200000,200001]] rfl ⟨tt_,hc11⟩ ?_
    cases h
    exact rndN rfl rfl
  ·refine Qa hC [.br false,.n 2,.keep [] [200000,200001]] rfl ⟨tt_,hc8⟩ ?_
   cases h
   exact rndX rfl (an_ rfl rfl)
 ·rcases o12 with(x7 | _)
  ·replace h:Qb6 x7=some r:=h
   unfold Qb6 at h
   rintro e σ ⟨rfl,rfl⟩
   refine Qa hC [.n 2,.keep [4] [200000,200001]] rfl tt_ ?_
   cases h
   exact AK.done (ex_ [_] (an_ (an_ rfl tt_) (gives ⟨rfl,rfl,tt_⟩)))
  ·replace h:Qb7=some r:=h
   unfold Qb7 at h
   rintro e σ ⟨rfl,rfl⟩
   refine Qa hC [.n 8,.keep [4] [200000,200001]] rfl tt_ ?_
   cases h
   exact AK.done (ex_ [_] (an_ (an_ rfl tt_) (gives ⟨rfl,rfl,tt_⟩)))
def Qa7 (j10:Int)(i18:Int)(l19:(List (List Int))):Option ((Int×Int×(List (List Int)))⊕(Int×(List (List Int)))):=
 some (.inl (i18,(w64 (j10+1)),l19))
def Q9 (v2:Qx)(i9:Int)(j10:Int)(l11:(List (List Int))):Option ((Int×Int×(List (List Int)))⊕(Int×(List (List Int)))):=
 bif (decide (j10<(l11.length:Int)))then
 (idx l11 j10).bind fun e20=>
 (Qd5 e20 v2).bind fun x21=>
 bif (!x21)then
 (idx l11 i9).bind fun e23=>
 Qa7 j10 (w64 (i9+1)) (l11.set i9.toNat e20)
 else
 Qa7 j10 i9 l11
 else
 some (.inr (i9,l11))
def Qaz (i15:Int)(l16:(List (List Int))):Option (List (List Int)):=
 (chk (decide (0≤i15)&&decide (i15.toNat≤l16.length))).bind fun _=>
 (chk (decide (0≤i15)&&decide (i15.toNat≤(l16.take i15.toNat++List.replicate (l16.length-i15.toNat) (([]:(List Int)):(List Int))).length))).bind fun _=>
 some ((l16.take i15.toNat++List.replicate (l16.length-i15.toNat) (([]:(List Int)):(List Int))).take i15.toNat)
def QaP (l1:(List (List Int)))(v2:Qx):Option (List (List Int)):=
 (QaU l1 v2).bind fun x5=>
 bif (x5==(-1))then
 some l1
 else
 (QF (fun st=>Q9 v2 st.1 st.2.1 st.2.2) (x5,(w64 (x5+1)),l1)).bind (fun q=>Qaz q.1 q.2)
theorem Qia (l1:(List (List Int)))(v2:Qx){r:(List (List Int))}(h:QaP l1 v2=some r):Qc Tryz.prog 29 [.own 200000 l1.length,.clo (.func 31) [] [.loc 200001 0 0]] [(200000,.arr 1 (l1.map Qu)),(200001,.var (Qn v2))] (Qh (.own 200000 r.length) [(200000,.arr 1 (r.map Qu)),(200001,.var (Qn v2))]):=by
 refine Qc.walk 42 Tryz.func29 rfl Tryz.ntmps29 rfl fun C hC=>?_
 unfold QaP at h
 obtain⟨x5,hx5,h⟩:=Qb h
 refine Qa hC [.n 9,.cm (.fn) [(200000,200000),(200001,200001)] [(200000,200000),(200001,200001)] [] [.d,.d] [(200000,.arr 1 (l1.map Qu)),(200001,.var (Qn v2))] (.i .i64 x5),.n 10] rfl ⟨tt_,(Qiy _ _ hx5)⟩ ?_
 rcases bifE h with⟨hc6,h⟩|⟨hc6,h⟩
 ·refine Qa hC [.br true,.n 8,.keep [4] [200000,200001]] rfl ⟨tt_,hc6⟩ ?_
  cases h
  exact AK.done (ex_ [_] (an_ (an_ rfl tt_) (gives ⟨rfl,rfl,tt_⟩)))
 ·refine Qa hC [.br false,.n 11,.keep [0,1,5,6] [200000,200001]] rfl ⟨tt_,hc6⟩ ?_
  obtain⟨o24,hl24,h⟩:=Qb h
  refine AK.loop (body:=(fun st=>Q9 v2 st.1 st.2.1 st.2.2)) (fun st σ=>σ=⟨[(0,.own 200000 st.2.2.length),(1,.clo (.func 31) [] [.loc 200001 0 0]),(5,.i .i64 st.1),(6,.i .i64 st.2.1)],[(200000,.arr 1 (st.2.2.map Qu)),(200001,.var (Qn v2))]⟩) (fun q e σ=>e=.exit 0∧σ=⟨[(0,.own 200000 q.2.length),(5,.i .i64 q.1)],[(200000,.arr 1 (q.2.map Qu)),(200001,.var (Qn v2))]⟩) hl24 rfl ?_ ?_
  ·rintro ⟨i9,j10,l11⟩ o σ rfl h
   replace h:Q9 v2 i9 j10 l11=some o:=h
   unfold Q9 at h
   refine Qa hC [.n 9] rfl tt_ ?_
   rcases bifE h with⟨hc17,h⟩|⟨hc17,h⟩
   ·refine Qa hC [.br true,.n 2] rfl ⟨tt_,hc17⟩ ?_
    refine AK.meet (fun σ=>∃i18:Int,∃l19:(List (List Int)),σ=⟨[(0,.own 200000 l19.length),(1,.clo (.func 31) [] [.loc 200001 0 0]),(5,.i .i64 i18),(6,.i .i64 j10)],[(200000,.arr 1 (l19.map Qu)),(200001,.var (Qn v2))]⟩∧Qa7 j10 i18 l19=some o) ?_ ?_
    ·obtain⟨e20,he20,h⟩:=Qb h
     obtain⟨x21,hx21,h⟩:=Qb h
     refine Qa hC [.n 6,.o (.row (Qu e20)),.n 7,.cm (.clo) [(200000,200001)] [(200001,200000)] [] [.d,.d] [(200000,.var (Qn v2))] (.b x21),.n 3] rfl ⟨⟨⟨tt_,(QfF he20 rfl)⟩,(Qc8 (idxE he20).2)⟩,(Qkf _ _ hx21)⟩ ?_
     rcases bifE h with⟨hc22,h⟩|⟨hc22,h⟩
     ·obtain⟨e23,he23,h⟩:=Qb h
      refine Qa hC [.br true,.n 6,.st (Qu e23) ((l11.set i9.toNat e20).map Qu),.n 8,.say 0 (.own 200000 (l11.set i9.toNat e20).length),.keep [0,1,5,6] [200000,200001]] rfl ⟨⟨⟨⟨tt_,hc22⟩,(QfF he23 rfl)⟩,⟨(Qc8 (idxE he23).2),QmZ rfl⟩⟩,(congrArg (fun n=>V.own 200000 n) (by simp))⟩ ?_
      exact AK.met (ex_ _ (ex_ _ (an_ rfl h)))
     ·refine Qa hC [.br false,.n 2,.keep [0,1,5,6] [200000,200001]] rfl ⟨tt_,hc22⟩ ?_
      exact AK.met (ex_ _ (ex_ _ (an_ rfl h)))
    ·rintro σ ⟨i18,l19,rfl,h⟩
     unfold Qa7 at h
     refine Qa hC [.n 5,.keep [0,1,5,6] [200000,200001]] rfl tt_ ?_
     cases h
     exact rndN rfl rfl
   ·refine Qa hC [.br false,.n 2,.keep [0,5] [200000,200001]] rfl ⟨tt_,hc17⟩ ?_
    cases h
    exact rndX rfl (an_ rfl rfl)
  ·obtain⟨i15,l16⟩:=o24
   replace h:Qaz i15 l16=some r:=h
   unfold Qaz at h
   rintro e σ ⟨rfl,rfl⟩
   refine Qa hC [.n 6] rfl tt_ ?_
   obtain⟨_,hk25,h⟩:=Qb h
   replace hk25:=chkE hk25
   refine AK.clearTail (b:=200000) (l:=i15.toNat) (n:=l16.length) rfl rfl rfl rfl rfl rfl (bleN hC.n rfl) rfl rfl Qj (Qo.es rfl) Qtz rfl rfl rfl (Bnd.val rfl (of_decide_eq_true (Qm8 hk25)) rfl) (of_decide_eq_true (QjS hk25)) rfl ?_
   refine AK.denilA (b:=200000) [some 1] rfl (Qt2 (f:=Qu) (x:=(([]:(List Int)):(List Int))) (fun _=>rfl) rfl) ?_
   obtain⟨_,hk26,h⟩:=Qb h
   replace hk26:=chkE hk26
   refine Qa hC [.say 0 (.own 200000 (l16.take i15.toNat++List.replicate (l16.length-i15.toNat) (([]:(List Int)):(List Int))).length),.say 36 (.own 200000 (l16.take i15.toNat++List.replicate (l16.length-i15.toNat) (([]:(List Int)):(List Int))).length),.n 6] rfl ⟨⟨tt_,(Qsz (of_decide_eq_true (QjS hk25)))⟩,(Qsz (of_decide_eq_true (QjS hk25)))⟩ ?_
   have hl27:i15.toNat=((l16.take i15.toNat++List.replicate (l16.length-i15.toNat) (([]:(List Int)):(List Int))).take i15.toNat).length:=by rw [List.length_take,Nat.min_eq_left (of_decide_eq_true (QjS hk26))]
   refine Qa hC [.x (fun σ=>(σ.set 200000 (.arr 1 (((l16.take i15.toNat++List.replicate (l16.length-i15.toNat) (([]:(List Int)):(List Int))).take i15.toNat).map Qu))).put 41 (.own 200000 i15.toNat)),.say 41 (.own 200000 ((l16.take i15.toNat++List.replicate (l16.length-i15.toNat) (([]:(List Int)):(List Int))).take i15.toNat).length),.n 4,.keep [4] [200000,200001]] rfl ⟨⟨tt_,(Stp.sliceO rfl rfl (bleN hC.n rfl) rfl rfl (Qo.es rfl) Bnd.no (Bnd.val rfl (of_decide_eq_true (Qm8 hk26)) rfl) (of_decide_eq_true (QjS hk26)) (by simp))⟩,(QtX (of_decide_eq_true (QjS hk26)))⟩ ?_
   cases h
   exact AK.done (ex_ [_] (an_ (an_ rfl tt_) (gives ⟨rfl,rfl,tt_⟩)))
def Qbl (m2:(List (Int×Int)))(k7:Int)(v8:Int):Option (Unit⊕Unit):=
 bif (decide (((mget m2 k7).getD 0)<v8))then
 some (.inr ())
 else
 some (.inl ())
def Qfs : Option Bool:=
 some true
def Qft : Option Bool:=
 some false
def QcI (m1:(List (Int×Int)))(m2:(List (Int×Int))):Option Bool:=
 (QiQ (fun st p=>Qbl m2 p.1 p.2) () m1).bind (Sum.elim (fun q=>Qfs) (fun q=>Qft))
theorem Qly (m1:(List (Int×Int)))(m2:(List (Int×Int))){r:Bool}(h:QcI m1 m2=some r):Qc Tryz.prog 171 [.map 200000,.map 200001] [(200000,.map (mapV (V.i .i64) (V.i .i64) m1)),(200001,.map (mapV (V.i .i64) (V.i .i64) m2))] (Qh (.b r) [(200000,.map (mapV (V.i .i64) (V.i .i64) m1)),(200001,.map (mapV (V.i .i64) (V.i .i64) m2))]):=by
 refine Qc.walk 19 Tryz.func171 rfl Tryz.ntmps171 rfl fun C hC=>?_
 unfold QcI at h
 refine Qa hC [.n 9] rfl tt_ ?_
 refine AK.openMap (b:=200000) ky_3 rfl fun bm5 cl5 L5 hbn5 hpm5=>?_
 refine Qa hC [.x (fun σ=>(σ.set 8 (.itr bm5 cl5 #[] none)).put 8 (.loc 8 0 0)),.n 3,.keep [1,8] [8,200000,200001]] rfl ⟨tt_,(Stp.range (b:=200000) rfl rfl (bleN hC.n rfl) rfl rfl Qii rfl)⟩ ?_
 obtain⟨o10,hl10,h⟩:=Qb h
 refine AK.range (body:=(fun st p=>Qbl m2 p.1 p.2)) (fun st seen σ=>∃cur:Option MapEntry,σ=⟨[(1,.map 200001),(8,.loc 8 0 0)],[(8,.itr bm5 cl5 seen cur),(200000,.mapX bm5 cl5 (typV (V.i .i64) (V.i .i64) L5) (mapV (V.i .i64) (V.i .i64) m1)),(200001,.map (mapV (V.i .i64) (V.i .i64) m2))]⟩) (fun q e σ=>e=.ret∧σ=⟨[(4,.b false)],[(200000,.mapX bm5 cl5 (typV (V.i .i64) (V.i .i64) L5) (mapV (V.i .i64) (V.i .i64) m1)),(200001,.map (mapV (V.i .i64) (V.i .i64) m2))]⟩) (fun st e σ=>e=.exit 0∧σ=⟨[],[(200000,.mapX bm5 cl5 (typV (V.i .i64) (V.i .i64) L5) (mapV (V.i .i64) (V.i .i64) m1)),(200001,.map (mapV (V.i .i64) (V.i .i64) m2))]⟩) hbn5 hpm5 hl10 (ex_ _ rfl) ?_ ?_
 ·rintro _ seen σ ⟨cur,rfl⟩ hex
  refine Qa hC [.n 2] rfl tt_ ?_
  refine AK.nextT (b:=8) (m:=200000) rfl rfl rfl (bleN hC.n rfl) rfl rfl rfl rfl ?_ ?_
  ·intro hleft
   refine Qa hC [.n 7,.keep [] [200000,200001]] rfl tt_ ?_
   exact AK.done (Or.inl (an_ hleft (an_ (fun h=>(by cases h)) (an_ rfl rfl))))
  ·intro xk7 k7 v8 hq6
   obtain⟨o,h⟩:=hex _ hq6
   have ho:=h
   replace h:Qbl m2 k7 v8=some o:=h
   unfold Qbl at h
   refine Qa hC [.n 10,.x (fun σ=>σ.put 11 (.tup [.i .i64 k7,.i .i64 v8])),.n 11,.o (.any (.i .i64 ((mget m2 k7).getD 0)) none),.n 3] rfl ⟨⟨tt_,(Stp.entryT (b:=8) (m:=200000) rfl rfl (bleN hC.n rfl) rfl hq6 rfl rfl)⟩,(fun σ h1 h2 _=>Stp.lookup (e:=(V.i .i64)) (f:=(V.i .i64)) (l:=m2) (k:=k7) (z:=0) rfl rfl (bleN hC.n rfl) (h1 _ _ rfl) (h2 _ _ rfl) (h1 _ _ rfl) Qii ky_3 zi_3 rfl)⟩ ?_
   rcases bifE h with⟨hc9,h⟩|⟨hc9,h⟩
   ·refine Qa hC [.br true,.n 7,.keep [4] [200000,200001]] rfl ⟨tt_,hc9⟩ ?_
    cases h
    exact AK.done (Or.inr (ex_ _ (an_ hq6 (Or.inr (ex_ _ (an_ ho (an_ (fun h=>(by cases h)) (an_ rfl rfl))))))))
   ·refine Qa hC [.br false,.n 2,.keep [1,8] [8,200000,200001]] rfl ⟨tt_,hc9⟩ ?_
    cases h
    exact AK.done (Or.inr (ex_ _ (an_ hq6 (Or.inl (ex_ _ (an_ ho (an_ rfl (ex_ _ rfl))))))))
 ·rcases o10 with(_ | _)
  ·replace h:Qfs=some r:=h
   unfold Qfs at h
   rintro e σ ⟨rfl,rfl⟩
   refine Qa hC [.n 8] rfl tt_ ?_
   refine AK.closeMap (b:=200000) rfl ?_
   refine Qa hC [.keep [4] [200000,200001]] rfl tt_ ?_
   cases h
   exact AK.done (ex_ [_] (an_ (an_ rfl tt_) (gives ⟨rfl,rfl,tt_⟩)))
  ·replace h:Qft=some r:=h
   unfold Qft at h
   rintro e σ ⟨rfl,rfl⟩
   refine Qa hC [.n 2] rfl tt_ ?_
   refine AK.closeMap (b:=200000) rfl ?_
   refine Qa hC [.keep [4] [200000,200001]] rfl tt_ ?_
   cases h
   exact AK.done (ex_ [_] (an_ (an_ rfl tt_) (gives ⟨rfl,rfl,tt_⟩)))
def Qi4 (a6:Unit):Option Bool:=
 some false
def Qi5 (a7:(List (Int×Int))):Option Bool:=
 some false
def Qi6 (a8:(List (Int×Int))):Option Bool:=
 some false
def Qg4 (a9:((List (Int×Int))×(List (Int×Int)))):Option Bool:=
 (QcI a9.1 a9.2).bind fun x10=>
 some x10
def Qhp (a1:(List (Int×Int)))(b2:(List (Int×Int))):Option Bool:=
 (QhM a1 b2).bind (Sum.elim (fun q=>Qi4 q) (Sum.elim (fun q=>Qi5 q) (Sum.elim (fun q=>Qi6 q) (fun q=>Qg4 q))))
theorem Qpo (a1:(List (Int×Int)))(b2:(List (Int×Int))){r:Bool}(h:Qhp a1 b2=some r):Qc Tryz.prog 127 [.sl 2 (a1.map QC),.sl 2 (b2.map QC)] [] (Qh (.b r) []):=by
 refine Qc.walk 21 Tryz.func127 rfl Tryz.ntmps127 rfl fun C hC=>?_
 unfold Qhp at h
 obtain⟨x5,hx5,h⟩:=Qb h
 refine Qa hC [.n 9] rfl tt_ ?_
 rcases x5 with(a6 | (a7 | (a8 | a9)))
 ·replace h:Qi4 a6=some r:=h
  unfold Qi4 at h
  refine Qa hC [.cm (.fn) [] [] [] [.d,.d] [] (.tup [.lit (.map none),.lit (.map none),.b false]),.n 21,.keep [4] []] rfl ⟨tt_,(QcD _ _ hx5)⟩ ?_
  cases h
  exact AK.done (ex_ [_] (an_ (an_ rfl tt_) (gives tt_)))
 ·replace h:Qi5 a7=some r:=h
  unfold Qi5 at h
  refine Qa hC [.cm (.fn) [] [(11,30005)] [] [.d,.d] [(30005,.map (mapV (V.i .i64) (V.i .i64) a7))] (.tup [.lit (.map none),.map 30005,.b false]),.n 21,.keep [4] []] rfl ⟨tt_,(QcD _ _ hx5)⟩ ?_
  cases h
  exact AK.done (ex_ [_] (an_ (an_ rfl tt_) (gives tt_)))
 ·replace h:Qi6 a8=some r:=h
  unfold Qi6 at h
  refine Qa hC [.cm (.fn) [] [(11,30004)] [] [.d,.d] [(30004,.map (mapV (V.i .i64) (V.i .i64) a8))] (.tup [.map 30004,.lit (.map none),.b false]),.n 21,.keep [4] []] rfl ⟨tt_,(QcD _ _ hx5)⟩ ?_
  cases h
  exact AK.done (ex_ [_] (an_ (an_ rfl tt_) (gives tt_)))
 ·replace h:Qg4 a9=some r:=h
  unfold Qg4 at h
  obtain⟨x10,hx10,h⟩:=Qb h
  refine Qa hC [.cm (.fn) [] [(11,30004),(50000,30005)] [] [.d,.d] [(30004,.map (mapV (V.i .i64) (V.i .i64) a9.1)),(30005,.map (mapV (V.i .i64) (V.i .i64) a9.2))] (.tup [.map 30004,.map 30005,.b true]),.n 15,.cm (.fn) [(200000,11),(200001,50000)] [(11,200000),(50000,200001)] [] [.d,.d] [(200000,.map (mapV (V.i .i64) (V.i .i64) a9.1)),(200001,.map (mapV (V.i .i64) (V.i .i64) a9.2))] (.b x10),.n 5,.keep [4] []] rfl ⟨⟨tt_,(QcD _ _ hx5)⟩,(Qly _ _ hx10)⟩ ?_
  cases h
  exact AK.done (ex_ [_] (an_ (an_ rfl tt_) (gives tt_)))
def QA (s1:(List (List (Int×Int))))(s2:(List (List (Int×Int))))(x6:Int):Option (Int⊕(Unit⊕Unit)):=
 bif (decide (x6<(s1.length:Int)))then
 (idx s1 x6).bind fun e9=>
 (idx s2 x6).bind fun e10=>
 (Qhp e9 e10).bind fun x11=>
 bif (!x11)then
 some (.inr (.inl ()))
 else
 some (.inl (w64 (x6+1)))
 else
 some (.inr (.inr ()))
def Q1 : Option Bool:=
 some false
def Q2 : Option Bool:=
 some true
def QN (s1:(List (List (Int×Int))))(s2:(List (List (Int×Int)))):Option Bool:=
 bif ((s1.length:Int) != (s2.length:Int))then
 some false
 else
 (QF (fun st=>QA s1 s2 st) 0).bind (Sum.elim (fun q=>Q1) (fun q=>Q2))
theorem Qcn (s1:(List (List (Int×Int))))(s2:(List (List (Int×Int)))){r:Bool}(h:QN s1 s2=some r):Qc Tryz.prog 126 [.sl 1 (s1.map Qv),.sl 1 (s2.map Qv),.clo (.func 127) [] []] [] (Qh (.b r) []):=by
 refine Qc.walk 32 Tryz.func126 rfl Tryz.ntmps126 rfl fun C hC=>?_
 unfold QN at h
 refine Qa hC [.n 9,.o (.ln s1.length),.n 1,.o (.ln s2.length),.n 3] rfl ⟨⟨tt_,Qj⟩,Qj⟩ ?_
 rcases bifE h with⟨hc5,h⟩|⟨hc5,h⟩
 ·refine Qa hC [.br true,.n 7,.keep [6] []] rfl ⟨tt_,hc5⟩ ?_
  cases h
  exact AK.done (ex_ [_] (an_ (an_ rfl tt_) (gives tt_)))
 ·refine Qa hC [.br false,.n 6,.o (.ln s1.length),.n 4,.keep [1,2,15,16,17] []] rfl ⟨⟨tt_,hc5⟩,Qj⟩ ?_
  obtain⟨o13,hl13,h⟩:=Qb h
  refine AK.loop (body:=(fun st=>QA s1 s2 st)) (fun st σ=>σ=⟨[(1,.sl 1 (s2.map Qv)),(2,.clo (.func 127) [] []),(15,.sl 1 (s1.map Qv)),(16,.i .i64 (s1.length:Int)),(17,.i .i64 st)],[]⟩) (Sum.elim (fun q e σ=>e=.ret∧σ=⟨[(6,.b false)],[]⟩) (fun q e σ=>e=.exit 0∧σ=⟨[],[]⟩)) hl13 rfl ?_ ?_
  ·rintro x6 o σ rfl h
   replace h:QA s1 s2 x6=some o:=h
   unfold QA at h
   refine Qa hC [.n 6] rfl tt_ ?_
   rcases bifE h with⟨hc8,h⟩|⟨hc8,h⟩
   ·obtain⟨e9,he9,h⟩:=Qb h
    obtain⟨e10,he10,h⟩:=Qb h
    obtain⟨x11,hx11,h⟩:=Qb h
    refine Qa hC [.br true,.n 7,.o (.row (Qv e9)),.n 9,.o (.row (Qv e10)),.n 9,.o (.c false [.d,.d] (.b x11)),.n 3] rfl ⟨⟨⟨⟨tt_,hc8⟩,(idxM he9)⟩,(idxM he10)⟩,(Qpo _ _ hx11)⟩ ?_
    rcases bifE h with⟨hc12,h⟩|⟨hc12,h⟩
    ·refine Qa hC [.br true,.n 8,.keep [6] []] rfl ⟨tt_,hc12⟩ ?_
     cases h
     exact rndR rfl (an_ rfl rfl)
    ·refine Qa hC [.br false,.n 7,.keep [1,2,15,16,17] []] rfl ⟨tt_,hc12⟩ ?_
     cases h
     exact rndN rfl rfl
   ·refine Qa hC [.br false,.n 2,.keep [] []] rfl ⟨tt_,hc8⟩ ?_
    cases h
    exact rndX rfl (an_ rfl rfl)
  ·rcases o13 with(_ | _)
   ·replace h:Q1=some r:=h
    unfold Q1 at h
    rintro e σ ⟨rfl,rfl⟩
    refine Qa hC [.n 2,.keep [6] []] rfl tt_ ?_
    cases h
    exact AK.done (ex_ [_] (an_ (an_ rfl tt_) (gives tt_)))
   ·replace h:Q2=some r:=h
    unfold Q2 at h
    rintro e σ ⟨rfl,rfl⟩
    refine Qa hC [.n 8,.keep [6] []] rfl tt_ ?_
    cases h
    exact AK.done (ex_ [_] (an_ (an_ rfl tt_) (gives tt_)))
def QeV (need1:(List (List (Int×Int))))(m2:(List (List (Int×Int)))):Option Bool:=
 (QN need1 m2).bind fun x4=>
 some x4
theorem QkM (need1:(List (List (Int×Int))))(m2:(List (List (Int×Int)))){r:Bool}(h:QeV need1 m2=some r):Qc Tryz.prog 65 [.sl 1 (need1.map Qv),.sl 1 (m2.map Qv)] [] (Qh (.b r) []):=by
 refine Qc.walk 8 Tryz.func65 rfl Tryz.ntmps65 rfl fun C hC=>?_
 unfold QeV at h
 obtain⟨x4,hx4,h⟩:=Qb h
 refine Qa hC [.n 9,.cm (.fn) [] [] [] [.d,.d,.d] [] (.b x4),.n 4,.keep [4] []] rfl ⟨tt_,(Qcn _ _ hx4)⟩ ?_
 cases h
 exact AK.done (ex_ [_] (an_ (an_ rfl tt_) (gives tt_)))
def QaR (s1:(List Int))(v2:Int)(x5:Int):Option (Int⊕(Int⊕Unit)):=
 bif (decide (x5<(s1.length:Int)))then
 (idx s1 x5).bind fun e9=>
 bif (v2==e9)then
 some (.inr (.inl x5))
 else
 some (.inl (w64 (x5+1)))
 else
 some (.inr (.inr ()))
def Qbt (x7:Int):Option Int:=
 some x7
def Qbu : Option Int:=
 some (-1)
def QbY (s1:(List Int))(v2:Int):Option Int:=
 (QF (fun st=>QaR s1 v2 st) 0).bind (Sum.elim (fun q=>Qbt q) (fun q=>Qbu))
theorem Qkn (s1:(List Int))(v2:Int){r:Int}(h:QbY s1 v2=some r):Qc Tryz.prog 128 [.sl 1 (s1.map Qe),.i .i64 v2] [] (Qh (.i .i64 r) []):=by
 refine Qc.walk 19 Tryz.func128 rfl Tryz.ntmps128 rfl fun C hC=>?_
 unfold QbY at h
 refine Qa hC [.n 9,.o (.ln s1.length),.n 4,.keep [0,1,7,8] []] rfl ⟨tt_,Qj⟩ ?_
 obtain⟨o11,hl11,h⟩:=Qb h
 refine AK.loop (body:=(fun st=>QaR s1 v2 st)) (fun st σ=>σ=⟨[(0,.sl 1 (s1.map Qe)),(1,.i .i64 v2),(7,.i .i64 (s1.length:Int)),(8,.i .i64 st)],[]⟩) (Sum.elim (fun q e σ=>e=.ret∧σ=⟨[(4,.i .i64 q)],[]⟩) (fun q e σ=>e=.exit 0∧σ=⟨[],[]⟩)) hl11 rfl ?_ ?_
 ·rintro x5 o σ rfl h
  replace h:QaR s1 v2 x5=some o:=h
  unfold QaR at h
  refine Qa hC [.n 6] rfl tt_ ?_
  rcases bifE h with⟨hc8,h⟩|⟨hc8,h⟩
  ·obtain⟨e9,he9,h⟩:=Qb h
   refine Qa hC [.br true,.n 15,.o (.row (Qe e9)),.n 4] rfl ⟨⟨tt_,hc8⟩,(idxM he9)⟩ ?_
   rcases bifE h with⟨hc10,h⟩|⟨hc10,h⟩
   ·refine Qa hC [.br true,.n 9,.keep [4] []] rfl ⟨tt_,hc10⟩ ?_
    cases h
    exact rndR rfl (an_ rfl rfl)
   ·refine Qa hC [.br false,.n 7,.keep [0,1,7,8] []] rfl ⟨tt_,hc10⟩ ?_
    cases h
    exact rndN rfl rfl
  ·refine Qa hC [.br false,.n 2,.keep [] []] rfl ⟨tt_,hc8⟩ ?_
   cases h
   exact rndX rfl (an_ rfl rfl)
 ·rcases o11 with(x7 | _)
  ·replace h:Qbt x7=some r:=h
   unfold Qbt at h
   rintro e σ ⟨rfl,rfl⟩
   refine Qa hC [.n 2,.keep [4] []] rfl tt_ ?_
   cases h
   exact AK.done (ex_ [_] (an_ (an_ rfl tt_) (gives tt_)))
  ·replace h:Qbu=some r:=h
   unfold Qbu at h
   rintro e σ ⟨rfl,rfl⟩
   refine Qa hC [.n 8,.keep [4] []] rfl tt_ ?_
   cases h
   exact AK.done (ex_ [_] (an_ (an_ rfl tt_) (gives tt_)))
def Qay (s1:(List Int))(v2:Int):Option Bool:=
 (QbY s1 v2).bind fun x4=>
 some (decide (0≤x4))
theorem QfW (s1:(List Int))(v2:Int){r:Bool}(h:Qay s1 v2=some r):Qc Tryz.prog 66 [.sl 1 (s1.map Qe),.i .i64 v2] [] (Qh (.b r) []):=by
 refine Qc.walk 9 Tryz.func66 rfl Tryz.ntmps66 rfl fun C hC=>?_
 unfold Qay at h
 obtain⟨x4,hx4,h⟩:=Qb h
 refine Qa hC [.n 9,.o (.c false [.d,.d] (.i .i64 x4)),.n 5,.keep [4] []] rfl ⟨tt_,(Qkn _ _ hx4)⟩ ?_
 cases h
 exact AK.done (ex_ [_] (an_ (an_ rfl tt_) (gives tt_)))
def QbZ (x10:Int):Option (Int⊕(Unit⊕Unit)):=
 some (.inl (w64 (x10+1)))
def Qfu (x19:((List (List (Int×Int)))×Int))(b1:Qx):Option Bool:=
 bif (x19.2==0)then
 (QeV x19.1 b1.m).bind fun x23=>
 some x23
 else
 some false
def Qb0 (x10:Int)(x20:Bool):Option (Int⊕(Unit⊕Unit)):=
 bif x20 then
 some (.inr (.inl ()))
 else
 QbZ x10
def Qbm (b1:Qx)(ins2:(List Int))(x10:Int):Option (Int⊕(Unit⊕Unit)):=
 bif (decide (x10<(b1.task.Ins.length:Int)))then
 (Qay ins2 x10).bind fun x13=>
 bif x13 then
 QbZ x10
 else
 (Qaj ins2).bind fun x15=>
 (chk (decide (x15.length+([x10]:List Int).length≤4294967296))).bind fun _=>
 (QaZ (x15++([x10]:List Int))).bind fun x17=>
 (chk (decide (x17.length=(x15++([x10]:List Int)).length))).bind fun _=>
 (QcE b1.net b1.task.Ins x17 b1.env).bind fun x19=>
 (Qfu x19 b1).bind (fun x20=>Qb0 x10 x20)
 else
 some (.inr (.inr ()))
def Qfv : Option Int:=
 some 11
def Qfw : Option Int:=
 some 0
def QV (b1:Qx)(ins2:(List Int)):Option Int:=
 (QcE b1.net b1.task.Ins ins2 b1.env).bind fun x5=>
 bif (x5.2 != 0)then
 some x5.2
 else
 (QeV x5.1 b1.m).bind fun x7=>
 bif (!x7)then
 some 10
 else
 bif (b1.task.Join != 3)then
 some 0
 else
 (QF (fun st=>Qbm b1 ins2 st) 0).bind (Sum.elim (fun q=>Qfv) (fun q=>Qfw))
theorem Qib (b1:Qx)(ins2:(List Int)){r:Int}(h:QV b1 ins2=some r):Qc Tryz.prog 33 [.agg (Qn b1),.sl 1 (ins2.map Qe)] [] (Qh (.i .i64 r) []):=by
 refine Qc.walk 76 Tryz.func33 rfl Tryz.ntmps33 rfl fun C hC=>?_
 unfold QV at h
 obtain⟨x5,hx5,h⟩:=Qb h
 refine Qa hC [.n 9,.v .no [] (.agg (Qd b1.net)),.n 6,.o (.c false [.d,.d,.d,.d] (.tup [.sl 1 (x5.1.map Qv),.i .i64 x5.2])),.n 16] rfl ⟨⟨tt_,rfl⟩,(Qgl _ _ _ _ hx5)⟩ ?_
 rcases bifE h with⟨hc6,h⟩|⟨hc6,h⟩
 ·refine Qa hC [.br true,.n 9,.keep [4] []] rfl ⟨tt_,hc6⟩ ?_
  cases h
  exact AK.done (ex_ [_] (an_ (an_ rfl tt_) (gives tt_)))
 ·obtain⟨x7,hx7,h⟩:=Qb h
  refine Qa hC [.br false,.n 5,.o (.c false [.d,.d] (.b x7)),.n 4] rfl ⟨⟨tt_,hc6⟩,(QkM _ _ hx7)⟩ ?_
  rcases bifE h with⟨hc8,h⟩|⟨hc8,h⟩
  ·refine Qa hC [.br true,.n 8,.keep [4] []] rfl ⟨tt_,hc8⟩ ?_
   cases h
   exact AK.done (ex_ [_] (an_ (an_ rfl tt_) (gives tt_)))
  ·refine Qa hC [.br false,.n 9] rfl ⟨tt_,hc8⟩ ?_
   rcases bifE h with⟨hc9,h⟩|⟨hc9,h⟩
   ·refine Qa hC [.br true,.n 8,.keep [4] []] rfl ⟨tt_,hc9⟩ ?_
    cases h
    exact AK.done (ex_ [_] (an_ (an_ rfl tt_) (gives tt_)))
   ·refine Qa hC [.br false,.n 9,.o (.ln b1.task.Ins.length),.n 4,.keep [1,2,41,42] [2]] rfl ⟨⟨tt_,hc9⟩,Qj⟩ ?_
    obtain⟨o25,hl25,h⟩:=Qb h
    refine AK.loop (body:=(fun st=>Qbm b1 ins2 st)) (fun st σ=>σ=⟨[(1,.sl 1 (ins2.map Qe)),(2,.loc 2 0 0),(41,.i .i64 (b1.task.Ins.length:Int)),(42,.i .i64 st)],[(2,.var (Qn b1))]⟩) (Sum.elim (fun q e σ=>e=.ret∧σ=⟨[(4,.i .i64 11)],[]⟩) (fun q e σ=>e=.exit 1∧σ=⟨[],[]⟩)) hl25 rfl ?_ ?_
    ·rintro x10 o σ rfl h
     replace h:Qbm b1 ins2 x10=some o:=h
     unfold Qbm at h
     refine Qa hC [.n 6] rfl tt_ ?_
     rcases bifE h with⟨hc12,h⟩|⟨hc12,h⟩
     ·refine Qa hC [.br true,.n 2] rfl ⟨tt_,hc12⟩ ?_
      refine AK.meet (fun σ=>σ=⟨[(1,.sl 1 (ins2.map Qe)),(2,.loc 2 0 0),(41,.i .i64 (b1.task.Ins.length:Int)),(42,.i .i64 x10)],[(2,.var (Qn b1))]⟩∧QbZ x10=some o) ?_ ?_
      ·obtain⟨x13,hx13,h⟩:=Qb h
       refine Qa hC [.n 12,.o (.c false [.d,.d] (.b x13)),.n 2] rfl ⟨tt_,(QfW _ _ hx13)⟩ ?_
       rcases bifE h with⟨hc14,h⟩|⟨hc14,h⟩
       ·refine Qa hC [.br true,.n 3,.keep [1,2,41,42] [2]] rfl ⟨tt_,hc14⟩ ?_
        exact AK.met (an_ rfl h)
       ·obtain⟨x15,hx15,h⟩:=Qb h
        obtain⟨_,hk16,h⟩:=Qb h
        replace hk16:=chkE hk16
        obtain⟨x17,hx17,h⟩:=Qb h
        obtain⟨_,hk18,h⟩:=Qb h
        replace hk18:=chkE hk18
        obtain⟨x19,hx19,h⟩:=Qb h
        refine Qa hC [.br false,.n 5,.o (.co false [.d] 1 (x15.map Qe) x15.length),.n 1,.v (.bd []) [] (.sl 1 (([x10]:List Int).map Qe)),.app ((x15++([x10]:List Int)).map Qe) (x15++([x10]:List Int)).length,.n 6,.cm (.fn) [(200000,49)] [(49,200000)] [] [.d] [(200000,.arr 1 (x17.map Qe))] (.tup []),.say 8 (.own 49 x17.length),.say 52 (.own 49 x17.length),.say 53 (.own 49 x17.length),.n 5,.v .no [] (.agg (Qd b1.net)),.n 6,.frz 49 (x17.map Qe) [8,52,53,61] [],.o (.c false [.d,.d,.d,.d] (.tup [.sl 1 (x19.1.map Qv),.i .i64 x19.2])),.n 8] rfl ⟨⟨⟨⟨⟨⟨⟨⟨⟨⟨⟨tt_,hc14⟩,⟨(Qbq _ hx15),Qj,.inl rfl⟩⟩,rfl⟩,⟨Qj,Qgx hk16 Qj,QeQ,Qih Qj⟩⟩,(Qho _ hx17)⟩,(by simp [of_decide_eq_true hk18])⟩,(by simp [of_decide_eq_true hk18])⟩,(by simp [of_decide_eq_true hk18])⟩,rfl⟩,⟨⟨⟨⟨tt_,(frzL Qj)⟩,(frzL Qj)⟩,(frzL Qj)⟩,(frzL Qj)⟩⟩,(Qgl _ _ _ _ hx19)⟩ ?_
        obtain⟨x20,hv21,h⟩:=Qb h
        replace h:Qb0 x10 x20=some o:=h
        refine AK.meetX (fun σ=>σ=⟨[(1,.sl 1 (ins2.map Qe)),(2,.loc 2 0 0),(41,.i .i64 (b1.task.Ins.length:Int)),(42,.i .i64 x10),(74,.b x20)],[(2,.var (Qn b1))]⟩) ?_ ?_
        ·replace h:=hv21
         unfold Qfu at h
         refine Qa hC [.n 4] rfl tt_ ?_
         rcases bifE h with⟨hc22,h⟩|⟨hc22,h⟩
         ·obtain⟨x23,hx23,h⟩:=Qb h
          refine Qa hC [.say 69 (.b true),.n 3,.o (.c false [.d,.d] (.b x23)),.n 2,.keep [1,2,41,42,74] [2]] rfl ⟨⟨tt_,(congrArg V.b hc22)⟩,(QkM _ _ hx23)⟩ ?_
          cases h
          exact AK.met rfl
         ·refine Qa hC [.say 69 (.b false),.n 6,.keep [1,2,41,42,74] [2]] rfl ⟨tt_,(congrArg V.b hc22)⟩ ?_
          cases h
          exact AK.met rfl
        ·rintro σ rfl
         replace h:Qb0 x10 x20=some o:=h
         unfold Qb0 at h
         refine Qa hC [.n 1] rfl tt_ ?_
         rcases bifE h with⟨hc24,h⟩|⟨hc24,h⟩
         ·refine Qa hC [.br true,.n 8,.keep [4] []] rfl ⟨tt_,hc24⟩ ?_
          cases h
          exact rndR rfl (an_ rfl rfl)
         ·refine Qa hC [.br false,.n 2,.keep [1,2,41,42] [2]] rfl ⟨tt_,hc24⟩ ?_
          exact AK.met (an_ rfl h)
      ·rintro σ ⟨rfl,h⟩
       unfold QbZ at h
       refine Qa hC [.n 4,.keep [1,2,41,42] [2]] rfl tt_ ?_
       cases h
       exact rndN rfl rfl
     ·refine Qa hC [.br false,.n 2,.keep [] []] rfl ⟨tt_,hc12⟩ ?_
      cases h
      exact rndX rfl (an_ rfl rfl)
    ·rcases o25 with(_ | _)
     ·replace h:Qfv=some r:=h
      unfold Qfv at h
      rintro e σ ⟨rfl,rfl⟩
      refine Qa hC [.n 2,.keep [4] []] rfl tt_ ?_
      cases h
      exact AK.done (ex_ [_] (an_ (an_ rfl tt_) (gives tt_)))
     ·replace h:Qfw=some r:=h
      unfold Qfw at h
      rintro e σ ⟨rfl,rfl⟩
      refine Qa hC [.n 8,.keep [4] []] rfl tt_ ?_
      cases h
      exact AK.done (ex_ [_] (an_ (an_ rfl tt_) (gives tt_)))
def Qem (x13:(Int×Qx)):Option Bool:=
 bif (x13.1 != 0)then
 some true
 else
 (QU x13.2).bind fun x17=>
 some (x17 != 0)
def Qa1 (x22:Int)(l29:(List Ql)):Option ((Int×(List Ql))⊕((List Ql)⊕(List Ql))):=
 some (.inl ((w64 (x22+1)),l29))
def Qa2 (x20:(List (List Int)))(p9:(List Int))(e30:(List Int))(v3:Int)(v4:Int)(x34:Int)(l35:(List Ql)):Option ((Int×(List Ql))⊕((List Ql)⊕(List Ql))):=
 bif (decide (x34<(x20.length:Int)))then
 (idx x20 x34).bind fun e41=>
 (Qaj p9).bind fun x42=>
 (Qaj e30).bind fun x43=>
 (Qaj e41).bind fun x44=>
 (chk (decide (l35.length+([(Ql.mk v3 x42 x43 x44)]:List Ql).length≤4294967296))).bind fun _=>
 bif (((l35++[(Ql.mk v3 x42 x43 x44)]).length:Int)==v4)then
 some (.inr (.inl (l35++[(Ql.mk v3 x42 x43 x44)])))
 else
 some (.inl ((w64 (x34+1)),(l35++[(Ql.mk v3 x42 x43 x44)])))
 else
 some (.inr (.inr l35))
def Qen (l38:(List Ql)):Option ((Int×(List Ql))⊕((List Ql)⊕(List Ql))):=
 some (.inr (.inl l38))
def Qeo (x22:Int)(l39:(List Ql)):Option ((Int×(List Ql))⊕((List Ql)⊕(List Ql))):=
 Qa1 x22 l39
def Qa3 (v6:(List (List Int)))(x13:(Int×Qx))(x20:(List (List Int)))(p9:(List Int))(v3:Int)(v4:Int)(x22:Int)(l23:(List Ql)):Option ((Int×(List Ql))⊕((List Ql)⊕(List Ql))):=
 bif (decide (x22<(v6.length:Int)))then
 (idx v6 x22).bind fun e30=>
 (QV x13.2 e30).bind fun x31=>
 bif (x31 != 0)then
 Qa1 x22 l23
 else
 (QF (fun st=>Qa2 x20 p9 e30 v3 v4 st.1 st.2) (0,l23)).bind (Sum.elim (fun q=>Qen q) (fun q=>Qeo x22 q))
 else
 some (.inr (.inr l23))
def Qep (l26:(List Ql)):Option ((List Ql)⊕(List Ql)):=
 some (.inl l26)
def Qeq (l27:(List Ql)):Option ((List Ql)⊕(List Ql)):=
 some (.inr l27)
def QbA (l8:(List Ql))(v7:(List (List Int)))(x13:(Int×Qx))(v6:(List (List Int)))(p9:(List Int))(v3:Int)(v4:Int)(x14:Bool):Option ((List Ql)⊕(List Ql)):=
 bif x14 then
 some (.inr l8)
 else
 (Qcl v7).bind fun x19=>
 (QaP x19 x13.2).bind fun x20=>
 (QF (fun st=>Qa3 v6 x13 x20 p9 v3 v4 st.1 st.2) (0,l8)).bind (Sum.elim (fun q=>Qep q) (fun q=>Qeq q))
def Qcb (v1:TNet)(v2:(List (List (Int×Int))))(v3:Int)(v4:Int)(l5:(List Ql))(v6:(List (List Int)))(v7:(List (List Int)))(l8:(List Ql))(p9:(List Int)):Option ((List Ql)⊕(List Ql)):=
 (QbX v1 v2 v3 p9).bind fun x13=>
 (Qem x13).bind (fun x14=>QbA l8 v7 x13 v6 p9 v3 v4 x14)
theorem Qhq (lpl lpf:Nat)(v1:TNet)(v2:(List (List (Int×Int))))(v3:Int)(v4:Int)(l5:(List Ql))(v6:(List (List Int)))(v7:(List (List Int)))(l8:(List Ql))(p9:(List Int)){r:((List Ql)⊕(List Ql))}(h:Qcb v1 v2 v3 v4 l5 v6 v7 l8 p9=some r):QjT Tryz.prog lpl (QaN lpf) [.J,.J,.J,.J,.loc 200001 0 0,.loc 200002 0 0,.loc 200003 0 0,.loc 200004 0 0,.loc 200005 0 0,.J,.loc 200006 0 0,.loc 200007 0 0,.loc 200008 0 0,.J,.J,.J,.J,.J,.J,.J,.J,.J,.J,.J,.J,.J,.J,.J,.J,.J,.J,.J,.J,.J,.J,.J,.J,.J,.J,.J,.J,.J,.J,.J,.J,.J,.J,.J,.J,.J,.J,.J,.J,.J,.sl 1 (p9.map Qe),.J,.J,.J,.J,.J,.J,.J,.J,.J,.J,.J,.J,.J,.J,.J,.J,.J,.J,.J,.J,.J,.J,.J,.J,.J,.J,.J,.J,.J,.J,.J,.J,.J,.J,.J,.J,.J,.J,.J,.J,.J,.J,.J,.J,.J,.J,.J,.J,.J,.J,.J,.J,.J,.J] [(200000,.lp lpl (QaN lpf) [.J,.J,.J,.J,.loc 200001 0 0,.loc 200002 0 0,.loc 200003 0 0,.loc 200004 0 0,.loc 200005 0 0,.J,.loc 200006 0 0,.loc 200007 0 0,.loc 200008 0 0,.J,.J,.J,.J,.J,.J,.J,.J,.J,.J,.J,.J,.J,.J,.J,.J,.J,.J,.J,.J,.J,.J,.J,.J,.J,.J,.J,.J,.J,.J,.J,.J,.J,.J,.J,.J,.J,.J,.J,.J,.J,.J,.J,.J,.J,.J,.J,.J,.J,.J,.J,.J,.J,.J,.J,.J,.J,.J,.J,.J,.J,.J,.J,.J,.J,.J,.J,.J,.J,.J,.J,.J,.J,.J,.J,.J,.J,.J,.J,.J,.J,.J,.J,.J,.J,.J,.J,.J,.J,.J,.J,.J,.J,.J,.J,.J] 0),(200001,.var (Qd v1)),(200002,.var (QR v2)),(200003,.var (Qe v3)),(200004,.var (Qe v4)),(200005,.var [.own 100000 l5.length]),(100000,.arr 4 (l5.map Qi)),(200006,.var (QE v6)),(200007,.var (QE v7)),(200008,.var [.own 100001 l8.length]),(100001,.arr 4 (l8.map Qi))] ((Sum.elim (fun q=>(Qh (.b false) [(100000,.arr 4 (l5.map Qi)),(100001,.arr 4 (q.map Qi)),(200000,.lp lpl (QaN lpf) [.J,.J,.J,.J,.loc 200001 0 0,.loc 200002 0 0,.loc 200003 0 0,.loc 200004 0 0,.loc 200005 0 0,.J,.loc 200006 0 0,.loc 200007 0 0,.loc 200008 0 0,.J,.J,.J,.J,.J,.J,.J,.J,.J,.J,.J,.J,.J,.J,.J,.J,.J,.J,.J,.J,.J,.J,.J,.J,.J,.J,.J,.J,.J,.J,.J,.J,.J,.J,.J,.J,.J,.J,.J,.J,.J,.J,.J,.J,.J,.J,.J,.J,.J,.J,.J,.J,.J,.J,.J,.J,.J,.J,.J,.J,.J,.J,.J,.J,.J,.J,.J,.J,.J,.J,.J,.J,.J,.J,.J,.J,.J,.J,.J,.J,.J,.J,.J,.J,.J,.J,.J,.J,.J,.J,.J,.J,.J,.J,.J,.J] 2),(200001,.var (Qd v1)),(200002,.var (QR v2)),(200003,.var (Qe v3)),(200004,.var (Qe v4)),(200005,.var [.own 100001 q.length]),(200006,.var (QE v6)),(200007,.var (QE v7)),(200008,.var [.own 100001 q.length])])) (fun q=>(Qh (.b true) [(100000,.arr 4 (l5.map Qi)),(100001,.arr 4 (q.map Qi)),(200000,.lp lpl (QaN lpf) [.J,.J,.J,.J,.loc 200001 0 0,.loc 200002 0 0,.loc 200003 0 0,.loc 200004 0 0,.loc 200005 0 0,.J,.loc 200006 0 0,.loc 200007 0 0,.loc 200008 0 0,.J,.J,.J,.J,.J,.J,.J,.J,.J,.J,.J,.J,.J,.J,.J,.J,.J,.J,.J,.J,.J,.J,.J,.J,.J,.J,.J,.J,.J,.J,.J,.J,.J,.J,.J,.J,.J,.J,.J,.J,.J,.J,.J,.J,.J,.J,.J,.J,.J,.J,.J,.J,.J,.J,.J,.J,.J,.J,.J,.J,.J,.J,.J,.J,.J,.J,.J,.J,.J,.J,.J,.J,.J,.J,.J,.J,.J,.J,.J,.J,.J,.J,.J,.J,.J,.J,.J,.J,.J,.J,.J,.J,.J,.J,.J,.J] 0),(200001,.var (Qd v1)),(200002,.var (QR v2)),(200003,.var (Qe v3)),(200004,.var (Qe v4)),(200005,.var [.own 100000 l5.length]),(200006,.var (QE v6)),(200007,.var (QE v7)),(200008,.var [.own 100001 q.length])]))) r):=by
 refine QjT.walk (b:=200000) 109 rfl rfl fun C hC=>?_
 unfold Qcb at h
 refine Qa hC [.n 3] rfl tt_ ?_
 refine AK.done (an_ rfl (ex_ _ (an_ rfl ?_)))
 obtain⟨x13,hx13,h⟩:=Qb h
 refine Qa hC [.n 3,.v .no [] (.agg (Qd v1)),.n 3,.o (.c false [.d,.d,.d,.d] (.tup [.agg (Qn x13.2),.i .i64 x13.1])),.n 5,.sayO 14 (.var (Qn x13.2)),.n 5] rfl ⟨⟨⟨tt_,rfl⟩,(Qlk _ _ _ _ hx13)⟩,rfl⟩ ?_
 obtain⟨x14,hv15,h⟩:=Qb h
 replace h:QbA l8 v7 x13 v6 p9 v3 v4 x14=some r:=h
 refine AK.meetX (fun σ=>σ=⟨[(6,.loc 200003 0 0),(7,.loc 200004 0 0),(8,.loc 200005 0 0),(10,.loc 200006 0 0),(11,.loc 200007 0 0),(12,.loc 200008 0 0),(13,.sl 1 (p9.map Qe)),(14,.loc 14 0 0),(69,.b x14)],[(14,.var (Qn x13.2)),(100000,.arr 4 (l5.map Qi)),(100001,.arr 4 (l8.map Qi)),(200000,.lp lpl (QaN lpf) [.J,.J,.J,.J,.loc 200001 0 0,.loc 200002 0 0,.loc 200003 0 0,.loc 200004 0 0,.loc 200005 0 0,.J,.loc 200006 0 0,.loc 200007 0 0,.loc 200008 0 0,.J,.J,.J,.J,.J,.J,.J,.J,.J,.J,.J,.J,.J,.J,.J,.J,.J,.J,.J,.J,.J,.J,.J,.J,.J,.J,.J,.J,.J,.J,.J,.J,.J,.J,.J,.J,.J,.J,.J,.J,.J,.J,.J,.J,.J,.J,.J,.J,.J,.J,.J,.J,.J,.J,.J,.J,.J,.J,.J,.J,.J,.J,.J,.J,.J,.J,.J,.J,.J,.J,.J,.J,.J,.J,.J,.J,.J,.J,.J,.J,.J,.J,.J,.J,.J,.J,.J,.J,.J,.J,.J,.J,.J,.J,.J,.J] 1),(200001,.var (Qd v1)),(200002,.var (QR v2)),(200003,.var (Qe v3)),(200004,.var (Qe v4)),(200005,.var [.own 100000 l5.length]),(200006,.var (QE v6)),(200007,.var (QE v7)),(200008,.var [.own 100001 l8.length])]⟩) ?_ ?_
 ·replace h:=hv15
  unfold Qem at h
  refine Qa hC [.n 4] rfl tt_ ?_
  rcases bifE h with⟨hc16,h⟩|⟨hc16,h⟩
  ·refine Qa hC [.say 65 (.b true),.n 5,.keep [6,7,8,10,11,12,13,14,69] [14,100000,100001,200000,200001,200002,200003,200004,200005,200006,200007,200008]] rfl ⟨tt_,(congrArg V.b hc16)⟩ ?_
   cases h
   exact AK.met rfl
  ·obtain⟨x17,hx17,h⟩:=Qb h
   refine Qa hC [.say 65 (.b false),.v .no [] (.agg (Qn x13.2)),.o (.c false [.d] (.i .i64 x17)),.n 3,.keep [6,7,8,10,11,12,13,14,69] [14,100000,100001,200000,200001,200002,200003,200004,200005,200006,200007,200008]] rfl ⟨⟨⟨tt_,(congrArg V.b hc16)⟩,rfl⟩,(Qhn _ hx17)⟩ ?_
   cases h
   exact AK.met rfl
 ·rintro σ rfl
  replace h:QbA l8 v7 x13 v6 p9 v3 v4 x14=some r:=h
  unfold QbA at h
  refine Qa hC [.n 1] rfl tt_ ?_
  rcases bifE h with⟨hc18,h⟩|⟨hc18,h⟩
  ·refine Qa hC [.br true,.n 3,.keep [] [100000,100001,200000,200001,200002,200003,200004,200005,200006,200007,200008]] rfl ⟨tt_,hc18⟩ ?_
   cases h
   refine AK.done ?_
   exact ex_ _ (an_ rfl (gives ⟨rfl,rfl,rfl,rfl,rfl,rfl,rfl,rfl,rfl,rfl,rfl,tt_⟩))
  ·obtain⟨x19,hx19,h⟩:=Qb h
   obtain⟨x20,hx20,h⟩:=Qb h
   refine Qa hC [.br false,.n 5,.o (.co false [.d] 1 (x19.map Qu) x19.length),.n 1,.cm (.fn) [(200000,71),(200001,14)] [(71,200000),(14,200001)] [] [.d,.d] [(200000,.arr 1 (x20.map Qu)),(200001,.var (Qn x13.2))] (.own 200000 x20.length),.n 6,.o (.ln v6.length),.n 4,.keep [6,7,8,12,13,14,16,74,75,76] [14,71,100000,100001,200000,200001,200002,200003,200004,200005,200006,200007,200008]] rfl ⟨⟨⟨⟨tt_,hc18⟩,⟨(Qjx _ hx19),Qj,.inl rfl⟩⟩,(Qia _ _ hx20)⟩,Qj⟩ ?_
   obtain⟨o48,hl48,h⟩:=Qb h
   refine AK.loop (body:=(fun st=>Qa3 v6 x13 x20 p9 v3 v4 st.1 st.2)) (fun st σ=>σ=⟨[(6,.loc 200003 0 0),(7,.loc 200004 0 0),(8,.loc 200005 0 0),(12,.loc 200008 0 0),(13,.sl 1 (p9.map Qe)),(14,.loc 14 0 0),(16,.own 71 x20.length),(74,.sl 1 (v6.map Qu)),(75,.i .i64 (v6.length:Int)),(76,.i .i64 st.1)],[(14,.var (Qn x13.2)),(71,.arr 1 (x20.map Qu)),(100000,.arr 4 (l5.map Qi)),(100001,.arr 4 (st.2.map Qi)),(200000,.lp lpl (QaN lpf) [.J,.J,.J,.J,.loc 200001 0 0,.loc 200002 0 0,.loc 200003 0 0,.loc 200004 0 0,.loc 200005 0 0,.J,.loc 200006 0 0,.loc 200007 0 0,.loc 200008 0 0,.J,.J,.J,.J,.J,.J,.J,.J,.J,.J,.J,.J,.J,.J,.J,.J,.J,.J,.J,.J,.J,.J,.J,.J,.J,.J,.J,.J,.J,.J,.J,.J,.J,.J,.J,.J,.J,.J,.J,.J,.J,.J,.J,.J,.J,.J,.J,.J,.J,.J,.J,.J,.J,.J,.J,.J,.J,.J,.J,.J,.J,.J,.J,.J,.J,.J,.J,.J,.J,.J,.J,.J,.J,.J,.J,.J,.J,.J,.J,.J,.J,.J,.J,.J,.J,.J,.J,.J,.J,.J,.J,.J,.J,.J,.J,.J] 1),(200001,.var (Qd v1)),(200002,.var (QR v2)),(200003,.var (Qe v3)),(200004,.var (Qe v4)),(200005,.var [.own 100000 l5.length]),(200006,.var (QE v6)),(200007,.var (QE v7)),(200008,.var [.own 100001 st.2.length])]⟩) (Sum.elim (fun q e σ=>e=.ret∧σ=⟨[],[(100000,.arr 4 (l5.map Qi)),(100001,.arr 4 (q.map Qi)),(200000,.lp lpl (QaN lpf) [.J,.J,.J,.J,.loc 200001 0 0,.loc 200002 0 0,.loc 200003 0 0,.loc 200004 0 0,.loc 200005 0 0,.J,.loc 200006 0 0,.loc 200007 0 0,.loc 200008 0 0,.J,.J,.J,.J,.J,.J,.J,.J,.J,.J,.J,.J,.J,.J,.J,.J,.J,.J,.J,.J,.J,.J,.J,.J,.J,.J,.J,.J,.J,.J,.J,.J,.J,.J,.J,.J,.J,.J,.J,.J,.J,.J,.J,.J,.J,.J,.J,.J,.J,.J,.J,.J,.J,.J,.J,.J,.J,.J,.J,.J,.J,.J,.J,.J,.J,.J,.J,.J,.J,.J,.J,.J,.J,.J,.J,.J,.J,.J,.J,.J,.J,.J,.J,.J,.J,.J,.J,.J,.J,.J,.J,.J,.J,.J,.J,.J] 1),(200001,.var (Qd v1)),(200002,.var (QR v2)),(200003,.var (Qe v3)),(200004,.var (Qe v4)),(200005,.var [.own 100001 q.length]),(200006,.var (QE v6)),(200007,.var (QE v7)),(200008,.var [.own 100001 q.length])]⟩) (fun q e σ=>e=.exit 2∧σ=⟨[],[(100000,.arr 4 (l5.map Qi)),(100001,.arr 4 (q.map Qi)),(200000,.lp lpl (QaN lpf) [.J,.J,.J,.J,.loc 200001 0 0,.loc 200002 0 0,.loc 200003 0 0,.loc 200004 0 0,.loc 200005 0 0,.J,.loc 200006 0 0,.loc 200007 0 0,.loc 200008 0 0,.J,.J,.J,.J,.J,.J,.J,.J,.J,.J,.J,.J,.J,.J,.J,.J,.J,.J,.J,.J,.J,.J,.J,.J,.J,.J,.J,.J,.J,.J,.J,.J,.J,.J,.J,.J,.J,.J,.J,.J,.J,.J,.J,.J,.J,.J,.J,.J,.J,.J,.J,.J,.J,.J,.J,.J,.J,.J,.J,.J,.J,.J,.J,.J,.J,.J,.J,.J,.J,.J,.J,.J,.J,.J,.J,.J,.J,.J,.J,.J,.J,.J,.J,.J,.J,.J,.J,.J,.J,.J,.J,.J,.J,.J,.J,.J] 1),(200001,.var (Qd v1)),(200002,.var (QR v2)),(200003,.var (Qe v3)),(200004,.var (Qe v4)),(200005,.var [.own 100000 l5.length]),(200006,.var (QE v6)),(200007,.var (QE v7)),(200008,.var [.own 100001 q.length])]⟩)) hl48 rfl ?_ ?_
   ·rintro ⟨x22,l23⟩ o σ rfl h
    replace h:Qa3 v6 x13 x20 p9 v3 v4 x22 l23=some o:=h
    unfold Qa3 at h
    refine Qa hC [.n 6] rfl tt_ ?_
    rcases bifE h with⟨hc28,h⟩|⟨hc28,h⟩
    ·refine Qa hC [.br true,.n 2] rfl ⟨tt_,hc28⟩ ?_
     refine AK.meet (fun σ=>∃l29:(List Ql),σ=⟨[(6,.loc 200003 0 0),(7,.loc 200004 0 0),(8,.loc 200005 0 0),(12,.loc 200008 0 0),(13,.sl 1 (p9.map Qe)),(14,.loc 14 0 0),(16,.own 71 x20.length),(74,.sl 1 (v6.map Qu)),(75,.i .i64 (v6.length:Int)),(76,.i .i64 x22)],[(14,.var (Qn x13.2)),(71,.arr 1 (x20.map Qu)),(100000,.arr 4 (l5.map Qi)),(100001,.arr 4 (l29.map Qi)),(200000,.lp lpl (QaN lpf) [.J,.J,.J,.J,.loc 200001 0 0,.loc 200002 0 0,.loc 200003 0 0,.loc 200004 0 0,.loc 200005 0 0,.J,.loc 200006 0 0,.loc 200007 0 0,.loc 200008 0 0,.J,.J,.J,.J,.J,.J,.J,.J,.J,.J,.J,.J,.J,.J,.J,.J,.J,.J,.J,.J,.J,.J,.J,.J,.J,.J,.J,.J,.J,.J,.J,.J,.J,.J,.J,.J,.J,.J,.J,.J,.J,.J,.J,.J,.J,.J,.J,.J,.J,.J,.J,.J,.J,.J,.J,.J,.J,.J,.J,.J,.J,.J,.J,.J,.J,.J,.J,.J,.J,.J,.J,.J,.J,.J,.J,.J,.J,.J,.J,.J,.J,.J,.J,.J,.J,.J,.J,.J,.J,.J,.J,.J,.J,.J,.J,.J] 1),(200001,.var (Qd v1)),(200002,.var (QR v2)),(200003,.var (Qe v3)),(200004,.var (Qe v4)),(200005,.var [.own 100000 l5.length]),(200006,.var (QE v6)),(200007,.var (QE v7)),(200008,.var [.own 100001 l29.length])]⟩∧Qa1 x22 l29=some o) ?_ ?_
     ·obtain⟨e30,he30,h⟩:=Qb h
      obtain⟨x31,hx31,h⟩:=Qb h
      refine Qa hC [.n 3,.o (.row (Qu e30)),.n 7,.v .no [] (.agg (Qn x13.2)),.n 1,.o (.c false [.d,.d] (.i .i64 x31)),.n 3] rfl ⟨⟨⟨tt_,(idxM he30)⟩,rfl⟩,(Qib _ _ hx31)⟩ ?_
      rcases bifE h with⟨hc32,h⟩|⟨hc32,h⟩
      ·refine Qa hC [.br true,.n 3,.keep [6,7,8,12,13,14,16,74,75,76] [14,71,100000,100001,200000,200001,200002,200003,200004,200005,200006,200007,200008]] rfl ⟨tt_,hc32⟩ ?_
       exact AK.met (ex_ _ (an_ rfl h))
      ·refine Qa hC [.br false,.n 10,.keep [6,7,8,12,13,14,16,18,74,75,76,84,85,86] [14,71,100000,100001,200000,200001,200002,200003,200004,200005,200006,200007,200008]] rfl ⟨tt_,hc32⟩ ?_
       obtain⟨o47,hl47,h⟩:=Qb h
       refine AK.loop (body:=(fun st=>Qa2 x20 p9 e30 v3 v4 st.1 st.2)) (fun st σ=>σ=⟨[(6,.loc 200003 0 0),(7,.loc 200004 0 0),(8,.loc 200005 0 0),(12,.loc 200008 0 0),(13,.sl 1 (p9.map Qe)),(14,.loc 14 0 0),(16,.own 71 x20.length),(18,.sl 1 (e30.map Qe)),(74,.sl 1 (v6.map Qu)),(75,.i .i64 (v6.length:Int)),(76,.i .i64 x22),(84,.own 71 x20.length),(85,.i .i64 (x20.length:Int)),(86,.i .i64 st.1)],[(14,.var (Qn x13.2)),(71,.arr 1 (x20.map Qu)),(100000,.arr 4 (l5.map Qi)),(100001,.arr 4 (st.2.map Qi)),(200000,.lp lpl (QaN lpf) [.J,.J,.J,.J,.loc 200001 0 0,.loc 200002 0 0,.loc 200003 0 0,.loc 200004 0 0,.loc 200005 0 0,.J,.loc 200006 0 0,.loc 200007 0 0,.loc 200008 0 0,.J,.J,.J,.J,.J,.J,.J,.J,.J,.J,.J,.J,.J,.J,.J,.J,.J,.J,.J,.J,.J,.J,.J,.J,.J,.J,.J,.J,.J,.J,.J,.J,.J,.J,.J,.J,.J,.J,.J,.J,.J,.J,.J,.J,.J,.J,.J,.J,.J,.J,.J,.J,.J,.J,.J,.J,.J,.J,.J,.J,.J,.J,.J,.J,.J,.J,.J,.J,.J,.J,.J,.J,.J,.J,.J,.J,.J,.J,.J,.J,.J,.J,.J,.J,.J,.J,.J,.J,.J,.J,.J,.J,.J,.J,.J,.J] 1),(200001,.var (Qd v1)),(200002,.var (QR v2)),(200003,.var (Qe v3)),(200004,.var (Qe v4)),(200005,.var [.own 100000 l5.length]),(200006,.var (QE v6)),(200007,.var (QE v7)),(200008,.var [.own 100001 st.2.length])]⟩) (Sum.elim (fun q e σ=>e=.ret∧σ=⟨[],[(100000,.arr 4 (l5.map Qi)),(100001,.arr 4 (q.map Qi)),(200000,.lp lpl (QaN lpf) [.J,.J,.J,.J,.loc 200001 0 0,.loc 200002 0 0,.loc 200003 0 0,.loc 200004 0 0,.loc 200005 0 0,.J,.loc 200006 0 0,.loc 200007 0 0,.loc 200008 0 0,.J,.J,.J,.J,.J,.J,.J,.J,.J,.J,.J,.J,.J,.J,.J,.J,.J,.J,.J,.J,.J,.J,.J,.J,.J,.J,.J,.J,.J,.J,.J,.J,.J,.J,.J,.J,.J,.J,.J,.J,.J,.J,.J,.J,.J,.J,.J,.J,.J,.J,.J,.J,.J,.J,.J,.J,.J,.J,.J,.J,.J,.J,.J,.J,.J,.J,.J,.J,.J,.J,.J,.J,.J,.J,.J,.J,.J,.J,.J,.J,.J,.J,.J,.J,.J,.J,.J,.J,.J,.J,.J,.J,.J,.J,.J,.J] 1),(200001,.var (Qd v1)),(200002,.var (QR v2)),(200003,.var (Qe v3)),(200004,.var (Qe v4)),(200005,.var [.own 100001 q.length]),(200006,.var (QE v6)),(200007,.var (QE v7)),(200008,.var [.own 100001 q.length])]⟩) (fun q e σ=>e=.exit 4∧σ=⟨[(6,.loc 200003 0 0),(7,.loc 200004 0 0),(8,.loc 200005 0 0),(12,.loc 200008 0 0),(13,.sl 1 (p9.map Qe)),(14,.loc 14 0 0),(16,.own 71 x20.length),(74,.sl 1 (v6.map Qu)),(75,.i .i64 (v6.length:Int)),(76,.i .i64 x22)],[(14,.var (Qn x13.2)),(71,.arr 1 (x20.map Qu)),(100000,.arr 4 (l5.map Qi)),(100001,.arr 4 (q.map Qi)),(200000,.lp lpl (QaN lpf) [.J,.J,.J,.J,.loc 200001 0 0,.loc 200002 0 0,.loc 200003 0 0,.loc 200004 0 0,.loc 200005 0 0,.J,.loc 200006 0 0,.loc 200007 0 0,.loc 200008 0 0,.J,.J,.J,.J,.J,.J,.J,.J,.J,.J,.J,.J,.J,.J,.J,.J,.J,.J,.J,.J,.J,.J,.J,.J,.J,.J,.J,.J,.J,.J,.J,.J,.J,.J,.J,.J,.J,.J,.J,.J,.J,.J,.J,.J,.J,.J,.J,.J,.J,.J,.J,.J,.J,.J,.J,.J,.J,.J,.J,.J,.J,.J,.J,.J,.J,.J,.J,.J,.J,.J,.J,.J,.J,.J,.J,.J,.J,.J,.J,.J,.J,.J,.J,.J,.J,.J,.J,.J,.J,.J,.J,.J,.J,.J,.J,.J] 1),(200001,.var (Qd v1)),(200002,.var (QR v2)),(200003,.var (Qe v3)),(200004,.var (Qe v4)),(200005,.var [.own 100000 l5.length]),(200006,.var (QE v6)),(200007,.var (QE v7)),(200008,.var [.own 100001 q.length])]⟩)) hl47 rfl ?_ ?_
       ·rintro ⟨x34,l35⟩ o σ rfl h
        replace h:Qa2 x20 p9 e30 v3 v4 x34 l35=some o:=h
        unfold Qa2 at h
        refine Qa hC [.n 6] rfl tt_ ?_
        rcases bifE h with⟨hc40,h⟩|⟨hc40,h⟩
        ·obtain⟨e41,he41,h⟩:=Qb h
         obtain⟨x42,hx42,h⟩:=Qb h
         obtain⟨x43,hx43,h⟩:=Qb h
         obtain⟨x44,hx44,h⟩:=Qb h
         obtain⟨_,hk45,h⟩:=Qb h
         replace hk45:=chkE hk45
         refine Qa hC [.br true,.n 7,.o (.row (Qu e41)),.n 4,.keep [6,7,8,12,13,14,16,18,20,74,75,76,84,85,86] [14,71,100000,100001,200000,200001,200002,200003,200004,200005,200006,200007,200008]] rfl ⟨⟨⟨tt_,hc40⟩,(QfF he41 rfl)⟩,(Qc8 (idxE he41).2)⟩ ?_
         refine AK.draw2 Qo hC mixed [.a .no none false,.a .no none false,.a .no none false,.a (.cd false [.d] 1 (x42.map Qe) x42.length) none false,.a .no none false,.a (.cd false [.d] 1 (x43.map Qe) x43.length) none false,.a .no none false,.a (.cd false [.d] 1 (x44.map Qe) x44.length) none false,.a .no (some ([],.agg (Qi (Ql.mk v3 x42 x43 x44)))) false,.a (.bd []) (some ([],.sl 4 (([(Ql.mk v3 x42 x43 x44)]:List Ql).map Qi))) false,.m (.app ((l35++[(Ql.mk v3 x42 x43 x44)]).map Qi) (l35++[(Ql.mk v3 x42 x43 x44)]).length),.m .s] [] [] [6,7,8,12,13,14,16,18,74,75,76,84,85,86] [14,71,100000,100001,200000,200001,200002,200003,200004,200005,200006,200007,200008] rfl rfl rfl ⟨⟨⟨⟨⟨⟨tt_,⟨(Qbq _ hx42),Qj⟩⟩,⟨(Qbq _ hx43),Qj⟩⟩,⟨(Qbq _ hx44),Qj⟩⟩,rfl⟩,rfl⟩,⟨Qj,Qgx hk45 Qj,QeQ,Qih Qj⟩⟩ rfl (by kernel_rfl) rfl rfl rfl ?_
         refine Qa hC [.sayO 200008 (.var [.own 100001 (l35++[(Ql.mk v3 x42 x43 x44)]).length]),.n 9] rfl ⟨tt_,rfl⟩ ?_
         rcases bifE h with⟨hc46,h⟩|⟨hc46,h⟩
         ·refine Qa hC [.br true,.n 4,.sayO 200005 (.var [.own 100001 (l35++[(Ql.mk v3 x42 x43 x44)]).length]),.n 5,.keep [] [100000,100001,200000,200001,200002,200003,200004,200005,200006,200007,200008]] rfl ⟨⟨tt_,hc46⟩,rfl⟩ ?_
          cases h
          exact rndR rfl (an_ rfl rfl)
         ·refine Qa hC [.br false,.n 7,.keep [6,7,8,12,13,14,16,18,74,75,76,84,85,86] [14,71,100000,100001,200000,200001,200002,200003,200004,200005,200006,200007,200008]] rfl ⟨tt_,hc46⟩ ?_
          cases h
          exact rndN rfl rfl
        ·refine Qa hC [.br false,.n 2,.keep [6,7,8,12,13,14,16,74,75,76] [14,71,100000,100001,200000,200001,200002,200003,200004,200005,200006,200007,200008]] rfl ⟨tt_,hc40⟩ ?_
         cases h
         exact rndX rfl (an_ rfl rfl)
       ·rcases o47 with(l38 | l39)
        ·replace h:Qen l38=some o:=h
         unfold Qen at h
         rintro e σ ⟨rfl,rfl⟩
         refine Qa hC [.n 3,.keep [] [100000,100001,200000,200001,200002,200003,200004,200005,200006,200007,200008]] rfl tt_ ?_
         cases h
         exact rndR rfl (an_ rfl rfl)
        ·replace h:Qeo x22 l39=some o:=h
         unfold Qeo at h
         rintro e σ ⟨rfl,rfl⟩
         refine Qa hC [.n 2,.keep [6,7,8,12,13,14,16,74,75,76] [14,71,100000,100001,200000,200001,200002,200003,200004,200005,200006,200007,200008]] rfl tt_ ?_
         exact AK.met (ex_ _ (an_ rfl h))
     ·rintro σ ⟨l29,rfl,h⟩
      unfold Qa1 at h
      refine Qa hC [.n 4,.keep [6,7,8,12,13,14,16,74,75,76] [14,71,100000,100001,200000,200001,200002,200003,200004,200005,200006,200007,200008]] rfl tt_ ?_
      cases h
      exact rndN rfl rfl
    ·refine Qa hC [.br false,.n 2,.keep [] [100000,100001,200000,200001,200002,200003,200004,200005,200006,200007,200008]] rfl ⟨tt_,hc28⟩ ?_
     cases h
     exact rndX rfl (an_ rfl rfl)
   ·rcases o48 with(l26 | l27)
    ·replace h:Qep l26=some r:=h
     unfold Qep at h
     rintro e σ ⟨rfl,rfl⟩
     refine Qa hC [.n 2,.keep [] [100000,100001,200000,200001,200002,200003,200004,200005,200006,200007,200008]] rfl tt_ ?_
     cases h
     refine AK.done ?_
     exact ex_ _ (an_ rfl (gives ⟨rfl,rfl,rfl,rfl,rfl,rfl,rfl,rfl,rfl,rfl,rfl,tt_⟩))
    ·replace h:Qeq l27=some r:=h
     unfold Qeq at h
     rintro e σ ⟨rfl,rfl⟩
     refine Qa hC [.n 2,.keep [] [100000,100001,200000,200001,200002,200003,200004,200005,200006,200007,200008]] rfl tt_ ?_
     cases h
     refine AK.done ?_
     exact ex_ _ (an_ rfl (gives ⟨rfl,rfl,rfl,rfl,rfl,rfl,rfl,rfl,rfl,rfl,rfl,tt_⟩))
def QaK (l1:(List Qw))(k2:Int):Option Int:=
 (QdZ l1 k2).bind fun x5=>
 bif (!x5.1)then
 some 0
 else
 (idx x5.2.sizes k2).bind fun e7=>
 some e7
theorem Qgm (l1:(List Qw))(k2:Int){r:Int}(h:QaK l1 k2=some r):Qc Tryz.prog 59 [.sl 7 (l1.map Qt),.i .i64 k2] [] (Qh (.i .i64 r) []):=by
 refine Qc.walk 20 Tryz.func59 rfl Tryz.ntmps59 rfl fun C hC=>?_
 unfold QaK at h
 obtain⟨x5,hx5,h⟩:=Qb h
 refine Qa hC [.n 9,.o (.c false [.d,.d] (.tup [.agg (QJ x5.2),.b x5.1])),.n 5,.sayO 5 (.var (QJ x5.2)),.n 10] rfl ⟨⟨tt_,(Qjw _ _ hx5)⟩,rfl⟩ ?_
 rcases bifE h with⟨hc6,h⟩|⟨hc6,h⟩
 ·refine Qa hC [.br true,.n 7,.keep [4] []] rfl ⟨tt_,hc6⟩ ?_
  cases h
  exact AK.done (ex_ [_] (an_ (an_ rfl tt_) (gives tt_)))
 ·obtain⟨e7,he7,h⟩:=Qb h
  refine Qa hC [.br false,.n 7,.o (.row (Qe e7)),.n 5,.keep [4] []] rfl ⟨⟨tt_,hc6⟩,(idxM he7)⟩ ?_
  cases h
  exact AK.done (ex_ [_] (an_ (an_ rfl tt_) (gives tt_)))

end Go.Proofs
