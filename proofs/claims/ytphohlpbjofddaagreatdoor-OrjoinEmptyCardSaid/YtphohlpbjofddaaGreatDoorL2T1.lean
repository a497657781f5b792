/- What functions of the program do, as functions over plain data, and the walks that show it: printed by a program. -/
import Derived.Test.YtphohlpbjofddaaGreatDoorL2V3
import Derived.Test.YtphohlpbjofddaaGreatDoorProg
set_option linter.unusedVariables false
set_option linter.unusedSimpArgs false
set_option linter.unusedSectionVars false
set_option linter.deprecated false
set_option maxRecDepth 100000
set_option maxHeartbeats 4000000
noncomputable section
namespace Go.Proofs
open Go Go.RowKit Go.Vm
structure Qy where
 Name:ByteArray
 Kind:Int
 Lo:Int
 Hi:Int
 Names:(List ByteArray)
 First:Int
 Then:Int
structure Qz where
 Name:ByteArray
 Colour:Int
 First:(List (Int×Int))
structure TVar where
 Name:ByteArray
 Colour:Int
structure Qg where
 Kind:Int
 Num:Int
 Kids:(List Qg)
structure TArc where
 Place:Int
 Expr:Qg
structure Qr where
 Name:ByteArray
 Vars:(List TVar)
 Guard:Qg
 Join:Int
 Split:Int
 Ins:(List TArc)
 Outs:(List TArc)
 Cancel:(List Int)
 After:Int
 Many:(Int×Int×Int)
structure TNet where
 Colours:(List Qy)
 Places:(List Qz)
 Tasks:(List Qr)
 From:Int
 To:Int
structure Qk where
 Task:Int
 Vars:(List Int)
 Ins:(List Int)
 Outs:(List Int)
structure QA where
 net:TNet
 m:(List (List (Int×Int)))
 task:Qr
 env:(List Int)
structure Qae where
 all:(List Qy)
 sizes:(List Int)
 k:Int
structure QdQ where
 Kind:Int
 At:Int
def Qdx (x:ByteArray):List V:=[.s x]
def Qe (x:Int):List V:=[.i .i64 x]
theorem Qvp (l:List Int):∀r∈l.map Qe,∀v∈r,v.sca=true:=QwT (fun _=>rfl) l
def Qxl (x:(List ByteArray)):List V:=[.sl 1 (x.map Qdx)]
def Qu (x:Qy):List V:=[.s x.Name,.i .i64 x.Kind,.i .i64 x.Lo,.i .i64 x.Hi,.sl 1 (x.Names.map Qdx),.i .i64 x.First,.i .i64 x.Then]
def Qtt (x:(List Qy)):List V:=[.sl 7 (x.map Qu)]
def QB (x:(Int×Int)):List V:=[.i .i64 x.1,.i .i64 x.2]
def Qi (x:(List (Int×Int))):List V:=[.sl 2 (x.map QB)]
def Qs (x:Qz):List V:=[.s x.Name,.i .i64 x.Colour,.sl 2 (x.First.map QB)]
def QtX (x:(List Qz)):List V:=[.sl 3 (x.map Qs)]
def QD (x:TVar):List V:=[.s x.Name,.i .i64 x.Colour]
def QbJ (x:(List TVar)):List V:=[.sl 2 (x.map QD)]
mutual
def Qoj : Qg→List V
 | ⟨x0,x1,x2⟩=>[.i .i64 x0,.i .i64 x1,.sl 3 (QaZ x2)]
def QaZ : List Qg→List (List V)
 | []=>[]
 | e::es=>Qoj e::QaZ es
end
def Qm (x:Qg):List V:=[.i .i64 x.Kind,.i .i64 x.Num,.sl 3 (QaZ x.Kids)]
theorem QsK : ∀x:Qg,Qoj x=Qm x
 | ⟨x0,x1,x2⟩=>by rw [Qoj];rfl
theorem Qi3 : ∀l:List Qg,QaZ l=l.map Qm
 | []=>by rw [QaZ];rfl
 | e::es=>by rw [QaZ,Qi3 es,QsK];rfl
theorem Qi4 (l:List Qg):(QaZ l).length=l.length:=by rw [Qi3,List.length_map]
theorem QdR {l:List Qg}{j:Int}{x:Qg}(h:idx l j=some x):0≤j∧(QaZ l)[j.toNat]? = some (Qm x):=by rw [Qi3];exact idxM h
def QF (x:TArc):List V:=[.i .i64 x.Place,.i .i64 x.Expr.Kind,.i .i64 x.Expr.Num,.sl 3 (QaZ x.Expr.Kids)]
def Qvq (x:(List TArc)):List V:=[.sl 4 (x.map QF)]
def Qx (x:(List Int)):List V:=[.sl 1 (x.map Qe)]
def Qr6 (x:(Int×Int×Int)):List V:=[.i .i64 x.1,.i .i64 x.2.1,.i .i64 x.2.2]
def Qh (x:Qr):List V:=[.s x.Name,.sl 2 (x.Vars.map QD),.i .i64 x.Guard.Kind,.i .i64 x.Guard.Num,.sl 3 (QaZ x.Guard.Kids),.i .i64 x.Join,.i .i64 x.Split,.sl 4 (x.Ins.map QF),.sl 4 (x.Outs.map QF),.sl 1 (x.Cancel.map Qe),.i .i64 x.After,.i .i64 x.Many.1,.i .i64 x.Many.2.1,.i .i64 x.Many.2.2]
def QuI (x:(List Qr)):List V:=[.sl 14 (x.map Qh)]
def Qd (x:TNet):List V:=[.sl 7 (x.Colours.map Qu),.sl 3 (x.Places.map Qs),.sl 14 (x.Tasks.map Qh),.i .i64 x.From,.i .i64 x.To]
def Qj (x:Qk):List V:=[.i .i64 x.Task,.sl 1 (x.Vars.map Qe),.sl 1 (x.Ins.map Qe),.sl 1 (x.Outs.map Qe)]
def Qw (x:(List (List (Int×Int)))):List V:=[.sl 1 (x.map Qi)]
def QaK (x:Int):List V:=[.i .u8 x]
def QG (x:(List (List Int))):List V:=[.sl 1 (x.map Qx)]
def Qq (x:QA):List V:=[.sl 7 (x.net.Colours.map Qu),.sl 3 (x.net.Places.map Qs),.sl 14 (x.net.Tasks.map Qh),.i .i64 x.net.From,.i .i64 x.net.To,.sl 1 (x.m.map Qi),.s x.task.Name,.sl 2 (x.task.Vars.map QD),.i .i64 x.task.Guard.Kind,.i .i64 x.task.Guard.Num,.sl 3 (QaZ x.task.Guard.Kids),.i .i64 x.task.Join,.i .i64 x.task.Split,.sl 4 (x.task.Ins.map QF),.sl 4 (x.task.Outs.map QF),.sl 1 (x.task.Cancel.map Qe),.i .i64 x.task.After,.i .i64 x.task.Many.1,.i .i64 x.task.Many.2.1,.i .i64 x.task.Many.2.2,.sl 1 (x.env.map Qe)]
def QK (x:Qae):List V:=[.sl 7 (x.all.map Qu),.sl 1 (x.sizes.map Qe),.i .i64 x.k]
def QuJ (x:(List Qk)):List V:=[.sl 4 (x.map Qj)]
def QcR (x:QdQ):List V:=[.i .i64 x.Kind,.i .i64 x.At]
def Qfm (fn:Nat):QgM:=rfOf Tryz.f261 0 fn
def Qaw (fn:Nat):QgM:=rfOf Tryz.f40 0 fn
def Qwi : Go.Shelf.Ren:=⟨fun | 20=>39 | n=>n,fun | 0=>0 | 3=>3 | 4=>4 | 22=>29 | n=>n,fun n=>n⟩
theorem Qvr : Lays2.n20 Tryz.prog Qwi where
 mixed:=by kernel_rfl
 f20:=Tryz.func39.trans (congrArg some (by kernel_rfl))
 t0:=Tryz.underlying0
 a0:=Tryz.isAgg0
 z0:=Tryz.sizeOf0
 v0:=Tryz.zeroValue0
 t3:=Tryz.underlying3
 a3:=Tryz.isAgg3
 z3:=Tryz.sizeOf3
 v3:=Tryz.zeroValue3
 t4:=Tryz.underlying4
 a4:=Tryz.isAgg4
 z4:=Tryz.sizeOf4
 v4:=Tryz.zeroValue4
 t22:=Tryz.underlying29
 a22:=Tryz.isAgg29
 z22:=Tryz.sizeOf29
 v22:=Tryz.zeroValue29
 i3:=by kernel_rfl
theorem QxF (a0 a1 a2 b0 b1 b2:Int):EqT Tryz.prog 52 [.int .i64 a0,.int .i64 a1,.int .i64 a2] [.int .i64 b0,.int .i64 b1,.int .i64 b2] ((a0==b0)&&((a1==b1)&&(a2==b2))):=by
 refine⟨by kernel_rfl,fun w=>?_⟩
 have u3:=Tryz.underlying3
 have g3:=Tryz.isAgg3
 have z3:=Tryz.sizeOf3
 show(Op.equalIn (9999+1) 52 (.agg #[.int .i64 a0,.int .i64 a1,.int .i64 a2]) (.agg #[.int .i64 b0,.int .i64 b1,.int .i64 b2])).run Tryz.prog w=_
 rw [Op.equalIn]
 simp only [Sem.run_bind,run_underlying Tryz.underlying52,Result.andThen_ok]
 simp only [Std.Legacy.Range.forIn_eq_forIn_range',Std.Legacy.Range.size,Nat.sub_zero,Nat.add_sub_cancel,Nat.div_one,List.range'_succ,List.range'_zero,List.forIn_cons,List.forIn_nil]
 go_simp
 by_cases h0:a0=b0<;>by_cases h1:a1=b1<;>by_cases h2:a2=b2<;>simp [h0,h1,h2]
theorem QwW : Qpf Tryz.prog 91 1=some (1,false,1):=by kernel_rfl
theorem QwX : Qpf Tryz.prog 91 2=some (2,false,1):=by kernel_rfl
def Qwj : Go.Shelf.Ren:=⟨fun | 157=>263 | 199=>272 | 229=>271 | 261=>275 | 311=>276 | 312=>277 | n=>n,fun | 0=>0 | 3=>3 | 4=>4 | 5=>5 | 9=>9 | 21=>21 | 31=>89 | 40=>257 | 46=>118 | 49=>270 | 51=>164 | 119=>255 | 141=>265 | 152=>261 | 154=>263 | 193=>266 | 194=>267 | 196=>269 | 198=>272 | 201=>275 | 226=>277 | 227=>278 | n=>n,fun | 0=>0 | 6=>1 | n=>n⟩
theorem Qvs : Lays.n157 Tryz.prog Qwj where
 mixed:=by kernel_rfl
 f157:=Tryz.func263.trans (congrArg some (by kernel_rfl))
 f199:=Tryz.func272.trans (congrArg some (by kernel_rfl))
 f229:=Tryz.func271.trans (congrArg some (by kernel_rfl))
 f261:=Tryz.func275.trans (congrArg some (by kernel_rfl))
 f311:=Tryz.func276.trans (congrArg some (by kernel_rfl))
 f312:=Tryz.func277.trans (congrArg some (by kernel_rfl))
 t0:=Tryz.underlying0
 a0:=Tryz.isAgg0
 z0:=Tryz.sizeOf0
 v0:=Tryz.zeroValue0
 t3:=Tryz.underlying3
 a3:=Tryz.isAgg3
 z3:=Tryz.sizeOf3
 v3:=Tryz.zeroValue3
 t4:=Tryz.underlying4
 a4:=Tryz.isAgg4
 z4:=Tryz.sizeOf4
 v4:=Tryz.zeroValue4
 t5:=Tryz.underlying5
 a5:=Tryz.isAgg5
 z5:=Tryz.sizeOf5
 v5:=Tryz.zeroValue5
 t9:=Tryz.underlying9
 a9:=Tryz.isAgg9
 z9:=Tryz.sizeOf9
 v9:=Tryz.zeroValue9
 t21:=Tryz.underlying21
 a21:=Tryz.isAgg21
 z21:=Tryz.sizeOf21
 v21:=Tryz.zeroValue21
 t31:=Tryz.underlying89
 a31:=Tryz.isAgg89
 z31:=Tryz.sizeOf89
 v31:=Tryz.zeroValue89
 t40:=Tryz.underlying257
 a40:=Tryz.isAgg257
 z40:=Tryz.sizeOf257
 v40:=Tryz.zeroValue257
 t46:=Tryz.underlying118
 a46:=Tryz.isAgg118
 z46:=Tryz.sizeOf118
 v46:=Tryz.zeroValue118
 t49:=Tryz.underlying270
 a49:=Tryz.isAgg270
 z49:=Tryz.sizeOf270
 v49:=Tryz.zeroValue270
 t51:=Tryz.underlying164
 a51:=Tryz.isAgg164
 z51:=Tryz.sizeOf164
 v51:=Tryz.zeroValue164
 t119:=Tryz.underlying255
 a119:=Tryz.isAgg255
 z119:=Tryz.sizeOf255
 t141:=Tryz.underlying265
 a141:=Tryz.isAgg265
 z141:=Tryz.sizeOf265
 v141:=Tryz.zeroValue265
 t152:=Tryz.underlying261
 a152:=Tryz.isAgg261
 z152:=Tryz.sizeOf261
 v152:=Tryz.zeroValue261
 t154:=Tryz.underlying263
 a154:=Tryz.isAgg263
 z154:=Tryz.sizeOf263
 v154:=Tryz.zeroValue263
 t193:=Tryz.underlying266
 a193:=Tryz.isAgg266
 z193:=Tryz.sizeOf266
 v193:=Tryz.zeroValue266
 t194:=Tryz.underlying267
 a194:=Tryz.isAgg267
 z194:=Tryz.sizeOf267
 v194:=Tryz.zeroValue267
 t196:=Tryz.underlying269
 a196:=Tryz.isAgg269
 z196:=Tryz.sizeOf269
 v196:=Tryz.zeroValue269
 t198:=Tryz.underlying272
 a198:=Tryz.isAgg272
 z198:=Tryz.sizeOf272
 v198:=Tryz.zeroValue272
 t201:=Tryz.underlying275
 a201:=Tryz.isAgg275
 z201:=Tryz.sizeOf275
 v201:=Tryz.zeroValue275
 t226:=Tryz.underlying277
 a226:=Tryz.isAgg277
 z226:=Tryz.sizeOf277
 v226:=Tryz.zeroValue277
 t227:=Tryz.underlying278
 a227:=Tryz.isAgg278
 z227:=Tryz.sizeOf278
 v227:=Tryz.zeroValue278
 g0:=by kernel_rfl
 g6:=by kernel_rfl
theorem Qpg : intT Tryz.prog 166 .u64=true:=by kernel_rfl
theorem it_3 : intT Tryz.prog 3 .i64=true:=by kernel_rfl
theorem it_5 : intT Tryz.prog 5 .u8=true:=by kernel_rfl
theorem ky_3 : Qgb Tryz.prog 3 (V.i .i64) (Value.int .i64):=Qgb.int (by kernel_rfl)
theorem ky_9 : Qgb Tryz.prog 9 V.s Value.string:=Qgb.str (by kernel_rfl)
theorem mixed : Tryz.prog.follows .mixedOrders=true:=by kernel_rfl
theorem Qd3 : mapT Tryz.prog 146=some (3,3):=by kernel_rfl
theorem Qok : mapT Tryz.prog 68=some (9,4):=by kernel_rfl
theorem QuK : mapT Tryz.prog 72=some (3,3):=by kernel_rfl
def Qwk : Go.Shelf.Ren:=⟨fun | 125=>75 | 128=>134 | 129=>135 | 189=>38 | 215=>199 | 216=>131 | 257=>74 | 294=>125 | 295=>126 | 296=>127 | 297=>128 | 298=>129 | 299=>130 | 300=>132 | 301=>133 | 328=>194 | 329=>195 | 330=>196 | 331=>197 | 332=>198 | 343=>239 | n=>n,fun | 0=>0 | 3=>3 | 4=>4 | 5=>5 | 9=>9 | 28=>29 | 46=>118 | 51=>164 | 53=>166 | 131=>73 | 182=>156 | 183=>157 | 218=>204 | 222=>208 | 228=>235 | 229=>236 | n=>n,fun n=>n⟩
theorem Qvt : Lays.n189 Tryz.prog Qwk where
 mixed:=by kernel_rfl
 f125:=Tryz.func75.trans (congrArg some (by kernel_rfl))
 f128:=Tryz.func134.trans (congrArg some (by kernel_rfl))
 f129:=Tryz.func135.trans (congrArg some (by kernel_rfl))
 f189:=Tryz.func38.trans (congrArg some (by kernel_rfl))
 f215:=Tryz.func199.trans (congrArg some (by kernel_rfl))
 f216:=Tryz.func131.trans (congrArg some (by kernel_rfl))
 f257:=Tryz.func74.trans (congrArg some (by kernel_rfl))
 f294:=Tryz.func125.trans (congrArg some (by kernel_rfl))
 f295:=Tryz.func126.trans (congrArg some (by kernel_rfl))
 f296:=Tryz.func127.trans (congrArg some (by kernel_rfl))
 f297:=Tryz.func128.trans (congrArg some (by kernel_rfl))
 f298:=Tryz.func129.trans (congrArg some (by kernel_rfl))
 f299:=Tryz.func130.trans (congrArg some (by kernel_rfl))
 f300:=Tryz.func132.trans (congrArg some (by kernel_rfl))
 f301:=Tryz.func133.trans (congrArg some (by kernel_rfl))
 f328:=Tryz.func194.trans (congrArg some (by kernel_rfl))
 f329:=Tryz.func195.trans (congrArg some (by kernel_rfl))
 f330:=Tryz.func196.trans (congrArg some (by kernel_rfl))
 f331:=Tryz.func197.trans (congrArg some (by kernel_rfl))
 f332:=Tryz.func198.trans (congrArg some (by kernel_rfl))
 f343:=Tryz.func239.trans (congrArg some (by kernel_rfl))
 t0:=Tryz.underlying0
 a0:=Tryz.isAgg0
 z0:=Tryz.sizeOf0
 v0:=Tryz.zeroValue0
 t3:=Tryz.underlying3
 a3:=Tryz.isAgg3
 z3:=Tryz.sizeOf3
 v3:=Tryz.zeroValue3
 t4:=Tryz.underlying4
 a4:=Tryz.isAgg4
 z4:=Tryz.sizeOf4
 v4:=Tryz.zeroValue4
 t5:=Tryz.underlying5
 a5:=Tryz.isAgg5
 z5:=Tryz.sizeOf5
 v5:=Tryz.zeroValue5
 t9:=Tryz.underlying9
 a9:=Tryz.isAgg9
 z9:=Tryz.sizeOf9
 v9:=Tryz.zeroValue9
 t28:=Tryz.underlying29
 a28:=Tryz.isAgg29
 z28:=Tryz.sizeOf29
 v28:=Tryz.zeroValue29
 t46:=Tryz.underlying118
 a46:=Tryz.isAgg118
 z46:=Tryz.sizeOf118
 v46:=Tryz.zeroValue118
 t51:=Tryz.underlying164
 a51:=Tryz.isAgg164
 z51:=Tryz.sizeOf164
 v51:=Tryz.zeroValue164
 t53:=Tryz.underlying166
 a53:=Tryz.isAgg166
 z53:=Tryz.sizeOf166
 v53:=Tryz.zeroValue166
 t131:=Tryz.underlying73
 a131:=Tryz.isAgg73
 z131:=Tryz.sizeOf73
 v131:=Tryz.zeroValue73
 t182:=Tryz.underlying156
 a182:=Tryz.isAgg156
 z182:=Tryz.sizeOf156
 v182:=Tryz.zeroValue156
 t183:=Tryz.underlying157
 a183:=Tryz.isAgg157
 z183:=Tryz.sizeOf157
 v183:=Tryz.zeroValue157
 t218:=Tryz.underlying204
 a218:=Tryz.isAgg204
 z218:=Tryz.sizeOf204
 v218:=Tryz.zeroValue204
 t222:=Tryz.underlying208
 a222:=Tryz.isAgg208
 z222:=Tryz.sizeOf208
 v222:=Tryz.zeroValue208
 t228:=Tryz.underlying235
 a228:=Tryz.isAgg235
 z228:=Tryz.sizeOf235
 v228:=Tryz.zeroValue235
 t229:=Tryz.underlying236
 a229:=Tryz.isAgg236
 z229:=Tryz.sizeOf236
 v229:=Tryz.zeroValue236
theorem Qxm : Tryz.prog.underlying 102=some (.slice 5):=by kernel_rfl
theorem Qxn : Tryz.prog.underlying 119=some (.slice 29):=by kernel_rfl
theorem QxG : Tryz.prog.underlying 28=some (.slice 59):=by kernel_rfl
theorem QxH : Tryz.prog.underlying 29=some (.slice 3):=by kernel_rfl
theorem QxI : Tryz.prog.underlying 59=some (.slice 64):=by kernel_rfl
theorem zi_3 : QjB Tryz.prog 3 ((V.i .i64) 0):=QjB.one (v:=.int .i64 0) (by kernel_rfl)
theorem zi_4 : QjB Tryz.prog 4 (V.b false):=QjB.one (v:=.bool false) (by kernel_rfl)
theorem zv_3 : Qag Tryz.prog 3=some [.i .i64 0]:=by kernel_rfl
theorem zv_5 : Qag Tryz.prog 5=some [.i .u8 0]:=by kernel_rfl
theorem zv_9 : Qag Tryz.prog 9=some [.s (⟨#[]⟩:ByteArray)]:=by kernel_rfl
theorem QxJ : Qag Tryz.prog 26=some [.lit (.slice none 0 0),.lit (.slice none 0 0),.lit (.slice none 0 0),.i .i64 0,.i .i64 0]:=by kernel_rfl
theorem QxK : Qag Tryz.prog 28=some [.lit (.slice none 0 0)]:=by kernel_rfl
theorem QwO : Qag Tryz.prog 29=some [.lit (.slice none 0 0)]:=by kernel_rfl
theorem QxL : Qag Tryz.prog 31=some [.i .i64 0,.lit (.slice none 0 0),.lit (.slice none 0 0),.lit (.slice none 0 0)]:=by kernel_rfl
theorem QxM : Qag Tryz.prog 39=some [.lit (.slice none 0 0)]:=by kernel_rfl
theorem QxN : Qag Tryz.prog 50=some [.i .i64 0,.i .i64 0,.lit (.slice none 0 0)]:=by kernel_rfl
theorem QxO : Qag Tryz.prog 52=some [.i .i64 0,.i .i64 0,.i .i64 0]:=by kernel_rfl
theorem QxP : Qag Tryz.prog 54=some [.s (⟨#[]⟩:ByteArray),.lit (.slice none 0 0),.i .i64 0,.i .i64 0,.lit (.slice none 0 0),.i .i64 0,.i .i64 0,.lit (.slice none 0 0),.lit (.slice none 0 0),.lit (.slice none 0 0),.i .i64 0,.i .i64 0,.i .i64 0,.i .i64 0]:=by kernel_rfl
theorem QxQ : Qag Tryz.prog 56=some [.i .i64 0]:=by kernel_rfl
theorem QxR : Qag Tryz.prog 59=some [.lit (.slice none 0 0)]:=by kernel_rfl
theorem QxS : Qag Tryz.prog 64=some [.i .i64 0,.i .i64 0]:=by kernel_rfl
theorem QxT : Qag Tryz.prog 77=some [.i .i64 0,.i .i64 0,.i .i64 0,.lit (.slice none 0 0)]:=by kernel_rfl
theorem QxU : Qag Tryz.prog 82=some [.lit (.slice none 0 0),.lit (.slice none 0 0),.lit (.slice none 0 0),.i .i64 0,.i .i64 0,.lit (.slice none 0 0),.s (⟨#[]⟩:ByteArray),.lit (.slice none 0 0),.i .i64 0,.i .i64 0,.lit (.slice none 0 0),.i .i64 0,.i .i64 0,.lit (.slice none 0 0),.lit (.slice none 0 0),.lit (.slice none 0 0),.i .i64 0,.i .i64 0,.i .i64 0,.i .i64 0,.lit (.slice none 0 0)]:=by kernel_rfl
theorem QxV : Qag Tryz.prog 91=some [.s (⟨#[]⟩:ByteArray),.i .i64 0,.i .i64 0,.i .i64 0,.lit (.slice none 0 0),.i .i64 0,.i .i64 0]:=by kernel_rfl
theorem QxW : Qag Tryz.prog 93=some [.s (⟨#[]⟩:ByteArray),.i .i64 0,.lit (.slice none 0 0)]:=by kernel_rfl
theorem QxX : Qag Tryz.prog 97=some [.i .i64 0,.i .i64 0]:=by kernel_rfl
theorem Qxo : Qag Tryz.prog 119=some [.lit (.slice none 0 0)]:=by kernel_rfl
theorem Qxp : Qag Tryz.prog 132=some [.s (⟨#[]⟩:ByteArray),.i .i64 0]:=by kernel_rfl
theorem QlD : Qag Tryz.prog 136=some [.lit (.nilFunc),.i .i64 0]:=by kernel_rfl
theorem Qxq : Qag Tryz.prog 183=some [.lit (.nilFunc)]:=by kernel_rfl
theorem Qxr : Qag Tryz.prog 188=some [.lit (.nilFunc)]:=by kernel_rfl
theorem Qxs : Qag Tryz.prog 196=some [.lit (.slice none 0 0),.lit (.slice none 0 0),.i .i64 0]:=by kernel_rfl
theorem Qxt : Qag Tryz.prog 224=some [.lit (.nilFunc)]:=by kernel_rfl
def tab : Tab:={ ag:=[(3,false),(9,false),(22,false),(23,false),(24,false),(26,true),(28,false),(29,false),(31,true),(32,false),(39,false),(47,false),(48,false),(50,true),(51,false),(52,true),(54,true),(56,false),(59,false),(64,true),(77,true),(82,true),(85,false),(89,false),(91,true),(93,true),(97,true),(119,false),(132,true),(136,true),(146,false),(183,false),(188,false),(191,false),(196,true),(224,false)],sz:=[(3,1),(26,5),(28,1),(29,1),(31,4),(39,1),(50,3),(52,3),(54,14),(56,1),(59,1),(64,2),(77,4),(82,21),(91,7),(93,3),(97,2),(119,1),(132,2),(136,2),(183,1),(188,1),(196,3),(224,1)],fo:=[(26,[0,1,2,3,4]),(31,[0,1,2,3]),(50,[0,1,2]),(54,[0,1,2,5,6,7,8,9,10,11]),(77,[0,1]),(82,[0,5,6,20]),(91,[0,1,2,3,4,5,6]),(93,[0,1,2]),(132,[0,1]),(136,[0,1]),(196,[0,1,2])],sp:=[(26,[(0,1),(1,1),(2,1),(3,1),(4,1)]),(31,[(0,1),(1,1),(2,1),(3,1)]),(50,[(0,1),(1,1),(2,1)]),(54,[(0,1),(1,1),(2,3),(5,1),(6,1),(7,1),(8,1),(9,1),(10,1),(11,3)]),(77,[(0,1),(1,3)]),(82,[(0,5),(5,1),(6,14),(20,1)]),(91,[(0,1),(1,1),(2,1),(3,1),(4,1),(5,1),(6,1)]),(93,[(0,1),(1,1),(2,1)]),(97,[(0,1),(1,1)]),(136,[(0,1),(1,1)]),(196,[(0,1),(1,1),(2,1)])],es:=[(22,(91,7,80)),(23,(93,3,48)),(24,(54,14,200)),(28,(59,1,24)),(29,(3,1,8)),(35,(28,1,24)),(39,(31,4,80)),(47,(132,2,24)),(48,(50,3,40)),(51,(77,4,48)),(59,(64,2,16)),(89,(9,1,16)),(102,(5,1,1)),(119,(29,1,24)),(168,(3,1,8)),(177,(136,2,16))],ar:=[(52,(3,1)),(64,(2,1))],zv:=[(3,[.i .i64 0]),(5,[.i .u8 0]),(9,[.s (⟨#[]⟩:ByteArray)]),(26,[.lit (.slice none 0 0),.lit (.slice none 0 0),.lit (.slice none 0 0),.i .i64 0,.i .i64 0]),(28,[.lit (.slice none 0 0)]),(29,[.lit (.slice none 0 0)]),(31,[.i .i64 0,.lit (.slice none 0 0),.lit (.slice none 0 0),.lit (.slice none 0 0)]),(39,[.lit (.slice none 0 0)]),(50,[.i .i64 0,.i .i64 0,.lit (.slice none 0 0)]),(52,[.i .i64 0,.i .i64 0,.i .i64 0]),(54,[.s (⟨#[]⟩:ByteArray),.lit (.slice none 0 0),.i .i64 0,.i .i64 0,.lit (.slice none 0 0),.i .i64 0,.i .i64 0,.lit (.slice none 0 0),.lit (.slice none 0 0),.lit (.slice none 0 0),.i .i64 0,.i .i64 0,.i .i64 0,.i .i64 0]),(56,[.i .i64 0]),(59,[.lit (.slice none 0 0)]),(64,[.i .i64 0,.i .i64 0]),(77,[.i .i64 0,.i .i64 0,.i .i64 0,.lit (.slice none 0 0)]),(82,[.lit (.slice none 0 0),.lit (.slice none 0 0),.lit (.slice none 0 0),.i .i64 0,.i .i64 0,.lit (.slice none 0 0),.s (⟨#[]⟩:ByteArray),.lit (.slice none 0 0),.i .i64 0,.i .i64 0,.lit (.slice none 0 0),.i .i64 0,.i .i64 0,.lit (.slice none 0 0),.lit (.slice none 0 0),.lit (.slice none 0 0),.i .i64 0,.i .i64 0,.i .i64 0,.i .i64 0,.lit (.slice none 0 0)]),(91,[.s (⟨#[]⟩:ByteArray),.i .i64 0,.i .i64 0,.i .i64 0,.lit (.slice none 0 0),.i .i64 0,.i .i64 0]),(93,[.s (⟨#[]⟩:ByteArray),.i .i64 0,.lit (.slice none 0 0)]),(97,[.i .i64 0,.i .i64 0]),(119,[.lit (.slice none 0 0)]),(132,[.s (⟨#[]⟩:ByteArray),.i .i64 0]),(136,[.lit (.nilFunc),.i .i64 0]),(183,[.lit (.nilFunc)]),(188,[.lit (.nilFunc)]),(196,[.lit (.slice none 0 0),.lit (.slice none 0 0),.i .i64 0]),(224,[.lit (.nilFunc)])],sb:=[9],bo:=[4],cc:=[],en:=[8,9,10,11,14,17,19,20,22,23,24,25,26,27,28,29,30,36,38,39,40,41,42,43,44,45,46,47,48,49,50,51,52,53,54,55,56,57,58,63,64,76,77,78,79,80,81,82,83,84,85,86,87,88,89,90,91,92,93,94,95,96,97,98,99,100,101,102,103,104,105,106,107,108,109,110,111,112,113,118,136,137,138,139,140,141,142,143,144,145,146,147,148,149,150,151,152,153,154,155,156,157,158,159,160,161,162,163,164,165,166,167,168,169,170,171,172,173,174,175,176,177,178,179,180,181,182,183,184,200,201,202,203,204,205,206,207,208,209,210,211,212,213,214,215,216,217,218,219,220,221,222,223,224,225,226,227,228,229,230,231,240,241,242,243,244,245,246,247,248,249,250,251,252,253,254,255,258,259,260,261,262,263,264,265,266,267,268,269,270,273,274] }
theorem Qo : Qc3 Tryz.prog tab:=Tab.ok (by kernel_rfl) (List.forall_mem_cons.2 ⟨zv_3,List.forall_mem_cons.2 ⟨zv_5,List.forall_mem_cons.2 ⟨zv_9,List.forall_mem_cons.2 ⟨QxJ,List.forall_mem_cons.2 ⟨QxK,List.forall_mem_cons.2 ⟨QwO,List.forall_mem_cons.2 ⟨QxL,List.forall_mem_cons.2 ⟨QxM,List.forall_mem_cons.2 ⟨QxN,List.forall_mem_cons.2 ⟨QxO,List.forall_mem_cons.2 ⟨QxP,List.forall_mem_cons.2 ⟨QxQ,List.forall_mem_cons.2 ⟨QxR,List.forall_mem_cons.2 ⟨QxS,List.forall_mem_cons.2 ⟨QxT,List.forall_mem_cons.2 ⟨QxU,List.forall_mem_cons.2 ⟨QxV,List.forall_mem_cons.2 ⟨QxW,List.forall_mem_cons.2 ⟨QxX,List.forall_mem_cons.2 ⟨Qxo,List.forall_mem_cons.2 ⟨Qxp,List.forall_mem_cons.2 ⟨QlD,List.forall_mem_cons.2 ⟨Qxq,List.forall_mem_cons.2 ⟨Qxr,List.forall_mem_cons.2 ⟨Qxs,List.forall_mem_cons.2 ⟨Qxt,fun _ h=>(by cases h)⟩⟩⟩⟩⟩⟩⟩⟩⟩⟩⟩⟩⟩⟩⟩⟩⟩⟩⟩⟩⟩⟩⟩⟩⟩⟩)
theorem Qa {C:Ctx}{Q:Exit→St→Prop}{n:Nat}{pt pt1:Pt}{ks ks1:List Fr}{σ σ1:St}{φ:Prop}(hC:QeV Tryz.prog C n)(ds:List Dir)(e:Vm.go Tryz.prog C tab n ds pt ks σ True=some ⟨pt1,ks1,σ1,φ⟩)(hφ:φ)(h:AK Tryz.prog C Q pt1 ks1 σ1):AK Tryz.prog C Q pt ks σ:=AK.go Qo hC ds e hφ h
abbrev QBg := List (Int×Int)
abbrev QMk := List QBg
abbrev QLL := List (List Int)
abbrev QSB := List (ByteArray×Bool)
theorem tt_ : True:=trivial
theorem an_ {a b:Prop}(x:a)(y:b):a∧b:=⟨x,y⟩
theorem ex_ {α:Sort _}{p:α→Prop}(w:α)(h:p w):∃x,p x:=⟨w,h⟩
def Qno  : Option TNet:=
 some (TNet.mk ([(Qy.mk (⟨#[110]⟩:ByteArray) 2 0 0 ([(⟨#[107]⟩:ByteArray)]:List ByteArray) 0 0)]:List Qy) ([(Qz.mk (⟨#[97]⟩:ByteArray) 0 ([]:QBg)),(Qz.mk (⟨#[98]⟩:ByteArray) 0 ([]:QBg)),(Qz.mk (⟨#[99]⟩:ByteArray) 0 ([]:QBg)),(Qz.mk (⟨#[100]⟩:ByteArray) 0 ([]:QBg))]:List Qz) ([(Qr.mk (⟨#[117]⟩:ByteArray) ([]:(List TVar)) (Qg.mk 1 1 ([]:(List Qg))) 1 1 ([(TArc.mk 2 (Qg.mk 1 0 ([]:(List Qg))))]:List TArc) ([(TArc.mk 1 (Qg.mk 1 0 ([]:(List Qg))))]:List TArc) ([]:(List Int)) 0 (0,0,0)),(Qr.mk (⟨#[116]⟩:ByteArray) ([]:(List TVar)) (Qg.mk 1 1 ([]:(List Qg))) 3 1 ([(TArc.mk 0 (Qg.mk 1 0 ([]:(List Qg)))),(TArc.mk 1 (Qg.mk 1 0 ([]:(List Qg))))]:List TArc) ([(TArc.mk 3 (Qg.mk 1 0 ([]:(List Qg))))]:List TArc) ([]:(List Int)) 0 (0,0,0))]:List Qr) 0 3)
theorem Qr7  {r:TNet}(h:Qno  = some r):Qc Tryz.prog 26 [] [] (Gives (.agg (Qd r)) []):=by
 refine Qc.walk 33 Tryz.func26 rfl Tryz.ntmps26 rfl fun C hC=>?_
 unfold Qno at h
 refine Qa hC [.n 7,.v .no [none,none,some 3] (.agg (Qm (Qg.mk 1 0 ([]:(List Qg))))),.n 2,.sayO 1 (.var (Qm (Qg.mk 1 0 ([]:(List Qg))))),.n 4,.v .no [none,none,some 3] (.agg (Qm (Qg.mk 1 1 ([]:(List Qg))))),.n 2,.sayO 2 (.var (Qm (Qg.mk 1 1 ([]:(List Qg))))),.n 4,.v (.bd []) [] (.sl 1 (([(⟨#[107]⟩:ByteArray)]:List ByteArray).map Qdx)),.v .no [] (.agg (Qu (Qy.mk (⟨#[110]⟩:ByteArray) 2 0 0 ([(⟨#[107]⟩:ByteArray)]:List ByteArray) 0 0))),.v (.bd []) [] (.sl 7 (([(Qy.mk (⟨#[110]⟩:ByteArray) 2 0 0 ([(⟨#[107]⟩:ByteArray)]:List ByteArray) 0 0)]:List Qy).map Qu)),.v .no [none,none,some 2] (.agg (Qs (Qz.mk (⟨#[97]⟩:ByteArray) 0 ([]:QBg)))),.v .no [none,none,some 2] (.agg (Qs (Qz.mk (⟨#[98]⟩:ByteArray) 0 ([]:QBg)))),.v .no [none,none,some 2] (.agg (Qs (Qz.mk (⟨#[99]⟩:ByteArray) 0 ([]:QBg)))),.v .no [none,none,some 2] (.agg (Qs (Qz.mk (⟨#[100]⟩:ByteArray) 0 ([]:QBg)))),.v (.bd []) [] (.sl 3 (([(Qz.mk (⟨#[97]⟩:ByteArray) 0 ([]:QBg)),(Qz.mk (⟨#[98]⟩:ByteArray) 0 ([]:QBg)),(Qz.mk (⟨#[99]⟩:ByteArray) 0 ([]:QBg)),(Qz.mk (⟨#[100]⟩:ByteArray) 0 ([]:QBg))]:List Qz).map Qs)),.v .no [] (.agg (Qm (Qg.mk 1 1 ([]:(List Qg))))),.v .no [] (.agg (Qm (Qg.mk 1 0 ([]:(List Qg))))),.v .no [] (.agg (QF (TArc.mk 2 (Qg.mk 1 0 ([]:(List Qg)))))),.v (.bd []) [] (.sl 4 (([(TArc.mk 2 (Qg.mk 1 0 ([]:(List Qg))))]:List TArc).map QF)),.v .no [] (.agg (Qm (Qg.mk 1 0 ([]:(List Qg))))),.v .no [] (.agg (QF (TArc.mk 1 (Qg.mk 1 0 ([]:(List Qg)))))),.v (.bd []) [] (.sl 4 (([(TArc.mk 1 (Qg.mk 1 0 ([]:(List Qg))))]:List TArc).map QF)),.v .no [none,some 2,none,none,none,none,none,none,none,some 1,none,none,none,none] (.agg (Qh (Qr.mk (⟨#[117]⟩:ByteArray) ([]:(List TVar)) (Qg.mk 1 1 ([]:(List Qg))) 1 1 ([(TArc.mk 2 (Qg.mk 1 0 ([]:(List Qg))))]:List TArc) ([(TArc.mk 1 (Qg.mk 1 0 ([]:(List Qg))))]:List TArc) ([]:(List Int)) 0 (0,0,0)))),.v .no [] (.agg (Qm (Qg.mk 1 1 ([]:(List Qg))))),.v .no [] (.agg (Qm (Qg.mk 1 0 ([]:(List Qg))))),.v .no [] (.agg (QF (TArc.mk 0 (Qg.mk 1 0 ([]:(List Qg)))))),.v .no [] (.agg (Qm (Qg.mk 1 0 ([]:(List Qg))))),.v .no [] (.agg (QF (TArc.mk 1 (Qg.mk 1 0 ([]:(List Qg)))))),.v (.bd []) [] (.sl 4 (([(TArc.mk 0 (Qg.mk 1 0 ([]:(List Qg)))),(TArc.mk 1 (Qg.mk 1 0 ([]:(List Qg))))]:List TArc).map QF)),.v .no [] (.agg (Qm (Qg.mk 1 0 ([]:(List Qg))))),.v .no [] (.agg (QF (TArc.mk 3 (Qg.mk 1 0 ([]:(List Qg)))))),.v (.bd []) [] (.sl 4 (([(TArc.mk 3 (Qg.mk 1 0 ([]:(List Qg))))]:List TArc).map QF)),.v .no [none,some 2,none,none,none,none,none,none,none,some 1,none,none,none,none] (.agg (Qh (Qr.mk (⟨#[116]⟩:ByteArray) ([]:(List TVar)) (Qg.mk 1 1 ([]:(List Qg))) 3 1 ([(TArc.mk 0 (Qg.mk 1 0 ([]:(List Qg)))),(TArc.mk 1 (Qg.mk 1 0 ([]:(List Qg))))]:List TArc) ([(TArc.mk 3 (Qg.mk 1 0 ([]:(List Qg))))]:List TArc) ([]:(List Int)) 0 (0,0,0)))),.v (.bd []) [] (.sl 14 (([(Qr.mk (⟨#[117]⟩:ByteArray) ([]:(List TVar)) (Qg.mk 1 1 ([]:(List Qg))) 1 1 ([(TArc.mk 2 (Qg.mk 1 0 ([]:(List Qg))))]:List TArc) ([(TArc.mk 1 (Qg.mk 1 0 ([]:(List Qg))))]:List TArc) ([]:(List Int)) 0 (0,0,0)),(Qr.mk (⟨#[116]⟩:ByteArray) ([]:(List TVar)) (Qg.mk 1 1 ([]:(List Qg))) 3 1 ([(TArc.mk 0 (Qg.mk 1 0 ([]:(List Qg)))),(TArc.mk 1 (Qg.mk 1 0 ([]:(List Qg))))]:List TArc) ([(TArc.mk 3 (Qg.mk 1 0 ([]:(List Qg))))]:List TArc) ([]:(List Int)) 0 (0,0,0))]:List Qr).map Qh)),.v .no [] (.agg (Qd (TNet.mk ([(Qy.mk (⟨#[110]⟩:ByteArray) 2 0 0 ([(⟨#[107]⟩:ByteArray)]:List ByteArray) 0 0)]:List Qy) ([(Qz.mk (⟨#[97]⟩:ByteArray) 0 ([]:QBg)),(Qz.mk (⟨#[98]⟩:ByteArray) 0 ([]:QBg)),(Qz.mk (⟨#[99]⟩:ByteArray) 0 ([]:QBg)),(Qz.mk (⟨#[100]⟩:ByteArray) 0 ([]:QBg))]:List Qz) ([(Qr.mk (⟨#[117]⟩:ByteArray) ([]:(List TVar)) (Qg.mk 1 1 ([]:(List Qg))) 1 1 ([(TArc.mk 2 (Qg.mk 1 0 ([]:(List Qg))))]:List TArc) ([(TArc.mk 1 (Qg.mk 1 0 ([]:(List Qg))))]:List TArc) ([]:(List Int)) 0 (0,0,0)),(Qr.mk (⟨#[116]⟩:ByteArray) ([]:(List TVar)) (Qg.mk 1 1 ([]:(List Qg))) 3 1 ([(TArc.mk 0 (Qg.mk 1 0 ([]:(List Qg)))),(TArc.mk 1 (Qg.mk 1 0 ([]:(List Qg))))]:List TArc) ([(TArc.mk 3 (Qg.mk 1 0 ([]:(List Qg))))]:List TArc) ([]:(List Int)) 0 (0,0,0))]:List Qr) 0 3))),.n 1,.sayO 0 (.var (Qd (TNet.mk ([(Qy.mk (⟨#[110]⟩:ByteArray) 2 0 0 ([(⟨#[107]⟩:ByteArray)]:List ByteArray) 0 0)]:List Qy) ([(Qz.mk (⟨#[97]⟩:ByteArray) 0 ([]:QBg)),(Qz.mk (⟨#[98]⟩:ByteArray) 0 ([]:QBg)),(Qz.mk (⟨#[99]⟩:ByteArray) 0 ([]:QBg)),(Qz.mk (⟨#[100]⟩:ByteArray) 0 ([]:QBg))]:List Qz) ([(Qr.mk (⟨#[117]⟩:ByteArray) ([]:(List TVar)) (Qg.mk 1 1 ([]:(List Qg))) 1 1 ([(TArc.mk 2 (Qg.mk 1 0 ([]:(List Qg))))]:List TArc) ([(TArc.mk 1 (Qg.mk 1 0 ([]:(List Qg))))]:List TArc) ([]:(List Int)) 0 (0,0,0)),(Qr.mk (⟨#[116]⟩:ByteArray) ([]:(List TVar)) (Qg.mk 1 1 ([]:(List Qg))) 3 1 ([(TArc.mk 0 (Qg.mk 1 0 ([]:(List Qg)))),(TArc.mk 1 (Qg.mk 1 0 ([]:(List Qg))))]:List TArc) ([(TArc.mk 3 (Qg.mk 1 0 ([]:(List Qg))))]:List TArc) ([]:(List Int)) 0 (0,0,0))]:List Qr) 0 3))),.n 3,.keep [0] [0]] rfl ⟨⟨⟨⟨⟨⟨⟨⟨⟨⟨⟨⟨⟨⟨⟨⟨⟨⟨⟨⟨⟨⟨⟨⟨⟨⟨⟨⟨⟨⟨⟨⟨⟨tt_,rfl⟩,rfl⟩,rfl⟩,rfl⟩,rfl⟩,rfl⟩,rfl⟩,rfl⟩,rfl⟩,rfl⟩,rfl⟩,rfl⟩,rfl⟩,rfl⟩,rfl⟩,rfl⟩,rfl⟩,rfl⟩,rfl⟩,rfl⟩,rfl⟩,rfl⟩,rfl⟩,rfl⟩,rfl⟩,rfl⟩,rfl⟩,rfl⟩,rfl⟩,rfl⟩,rfl⟩,rfl⟩,rfl⟩ ?_
 cases h
 exact AK.done (ex_ [_] (an_ (an_ (ex_ _ (ex_ _ (an_ rfl (an_ rfl (Or.inl (an_ (Qo.ag rfl) (an_ (Qo.sz rfl) rfl))))))) tt_) (gives tt_)))
def Qhw (e11:Int)(k13:Int)(l14:(List Int)):Option ((Int×(List Int))⊕(List Int)):=
 bif (decide (0≤k13))then
 (chk (decide (0≤(w64 (8*k13))))).bind fun _=>
 (chk (decide (l14.length+([(IntKind.u8.wrap (shrI .i64 e11 (w64 (8*k13))))]:List Int).length≤4294967296))).bind fun _=>
 some (.inl ((w64 (k13-1)),(l14++([(IntKind.u8.wrap (shrI .i64 e11 (w64 (8*k13))))]:List Int))))
 else
 some (.inr l14)
def Qj2 (x5:Int)(l17:(List Int)):Option ((Int×(List Int))⊕(List Int)):=
 some (.inl ((w64 (x5+1)),l17))
def Qhx (l2:(List Int))(size1:Int)(x5:Int)(l6:(List Int)):Option ((Int×(List Int))⊕(List Int)):=
 bif (decide (x5<(l2.length:Int)))then
 (idx l2 x5).bind fun e11=>
 (QC (fun st=>Qhw e11 st.1 st.2) ((w64 (size1-1)),l6)).bind (fun q=>Qj2 x5 q)
 else
 some (.inr l6)
def Qj3 (l9:(List Int)):Option (List Int):=
 some l9
def QjR (size1:Int)(l2:(List Int)):Option (List Int):=
 (QC (fun st=>Qhx l2 size1 st.1 st.2) (0,([]:List Int))).bind (fun q=>Qj3 q)
theorem QqE (size1:Int)(l2:(List Int)){r:(List Int)}(h:QjR size1 l2=some r):Qc Tryz.prog 113 [.lit (.slice none 0 0),.i .i64 size1,.sl 1 (l2.map Qe)] [] (Gives (.own 30000 r.length) [(30000,.arr 1 (r.map QaK))]):=by
 refine Qc.walk 32 Tryz.func113 rfl Tryz.ntmps113 rfl fun C hC=>?_
 unfold QjR at h
 refine Qa hC [.n 9,.o (.ln l2.length),.n 4,.adopt 0 22 1,.sayO 22 (.arr 1 (([]:List Int).map QaK)),.say 0 (.own 22 ([]:List Int).length),.keep [0,1,10,11,12] [22]] rfl ⟨⟨⟨tt_,Qf⟩,rfl⟩,(congrArg (fun n=>V.own 22 n) (by simp))⟩ ?_
 obtain⟨l9,hl22,h⟩:=Qb h
 refine AK.loop (body:=(fun st=>Qhx l2 size1 st.1 st.2)) (fun st σ=>σ=⟨[(0,.own 22 st.2.length),(1,.i .i64 size1),(10,.sl 1 (l2.map Qe)),(11,.i .i64 (l2.length:Int)),(12,.i .i64 st.1)],[(22,.arr 1 (st.2.map QaK))]⟩) (fun q e σ=>e=.exit 0∧σ=⟨[(0,.own 22 q.length)],[(22,.arr 1 (q.map QaK))]⟩) hl22 rfl ?_ ?_
 ·rintro ⟨x5,l6⟩ o σ rfl h
  replace h:Qhx l2 size1 x5 l6=some o:=h
  unfold Qhx at h
  refine Qa hC [.n 6] rfl tt_ ?_
  rcases bifE h with⟨hc10,h⟩|⟨hc10,h⟩
  ·obtain⟨e11,he11,h⟩:=Qb h
   refine Qa hC [.br true,.n 6,.o (.row (Qe e11)),.n 12,.keep [0,1,8,9,10,11,12] [22]] rfl ⟨⟨tt_,hc10⟩,(idxM he11)⟩ ?_
   obtain⟨l17,hl21,h⟩:=Qb h
   refine AK.loop (body:=(fun st=>Qhw e11 st.1 st.2)) (fun st σ=>σ=⟨[(0,.own 22 st.2.length),(1,.i .i64 size1),(8,.i .i64 e11),(9,.i .i64 st.1),(10,.sl 1 (l2.map Qe)),(11,.i .i64 (l2.length:Int)),(12,.i .i64 x5)],[(22,.arr 1 (st.2.map QaK))]⟩) (fun q e σ=>e=.exit 2∧σ=⟨[(0,.own 22 q.length),(1,.i .i64 size1),(10,.sl 1 (l2.map Qe)),(11,.i .i64 (l2.length:Int)),(12,.i .i64 x5)],[(22,.arr 1 (q.map QaK))]⟩) hl21 rfl ?_ ?_
   ·rintro ⟨k13,l14⟩ o σ rfl h
    replace h:Qhw e11 k13 l14=some o:=h
    unfold Qhw at h
    refine Qa hC [.n 7] rfl tt_ ?_
    rcases bifE h with⟨hc18,h⟩|⟨hc18,h⟩
    ·obtain⟨_,hk19,h⟩:=Qb h
     replace hk19:=chkE hk19
     obtain⟨_,hk20,h⟩:=Qb h
     replace hk20:=chkE hk20
     refine Qa hC [.br true,.n 9,.o (.any (.i .i64 (shrI .i64 e11 (w64 (8*k13)))) none),.o (.any (.i .u8 (IntKind.u8.wrap (shrI .i64 e11 (w64 (8*k13))))) none),.v (.bd []) [] (.sl 1 (([(IntKind.u8.wrap (shrI .i64 e11 (w64 (8*k13))))]:List Int).map QaK)),.app ((l14++([(IntKind.u8.wrap (shrI .i64 e11 (w64 (8*k13))))]:List Int)).map QaK) (l14++([(IntKind.u8.wrap (shrI .i64 e11 (w64 (8*k13))))]:List Int)).length,.n 9,.keep [0,1,8,9,10,11,12] [22]] rfl ⟨⟨⟨⟨⟨tt_,hc18⟩,(fun σ h1 h2 _=>Stp.shr rfl rfl (bleN hC.n rfl) (h1 _ _ rfl) (h1 _ _ rfl) (of_decide_eq_true hk19))⟩,(fun σ h1 h2 _=>Stp.convI rfl rfl (bleN hC.n rfl) (h1 _ _ rfl) it_3 it_5)⟩,rfl⟩,⟨Qf,Qc9 hk20 Qf,Qb9,QeX Qf⟩⟩ ?_
     cases h
     exact rndN rfl rfl
    ·refine Qa hC [.br false,.n 2,.keep [0,1,10,11,12] [22]] rfl ⟨tt_,hc18⟩ ?_
     cases h
     exact rndX rfl (an_ rfl rfl)
   ·replace h:Qj2 x5 l17=some o:=h
    unfold Qj2 at h
    rintro e σ ⟨rfl,rfl⟩
    refine Qa hC [.n 7,.keep [0,1,10,11,12] [22]] rfl tt_ ?_
    cases h
    exact rndN rfl rfl
  ·refine Qa hC [.br false,.n 2,.keep [0] [22]] rfl ⟨tt_,hc10⟩ ?_
   cases h
   exact rndX rfl (an_ rfl rfl)
 ·replace h:Qj3 l9=some r:=h
  unfold Qj3 at h
  rintro e σ ⟨rfl,rfl⟩
  refine Qa hC [.n 9,.keep [6] [22],.ren 22 30000,.keep [6] [30000]] rfl tt_ ?_
  cases h
  exact AK.done (ex_ [_] (an_ (an_ rfl tt_) (gives ⟨rfl,tt_⟩)))
def Qbj (b1:QBg)(last4:Int)(x5:Int):Option ((Int×Int)⊕(Unit⊕Unit)):=
 bif (decide (x5<(b1.length:Int)))then
 (idx b1 x5).bind fun e9=>
 bif ((decide (e9.1≤last4))||((decide (e9.2<1))||(decide (1048576<e9.2))))then
 some (.inr (.inl ()))
 else
 some (.inl (e9.1,(w64 (x5+1))))
 else
 some (.inr (.inr ()))
def QgY : Option Bool:=
 some false
def QgZ : Option Bool:=
 some true
def Qc6 (b1:QBg):Option Bool:=
 (QC (fun st=>Qbj b1 st.1 st.2) ((-1),0)).bind (Sum.elim (fun q=>QgY) (fun q=>QgZ))
theorem Qi5 (b1:QBg){r:Bool}(h:Qc6 b1=some r):Qc Tryz.prog 90 [.sl 2 (b1.map QB)] [] (Gives (.b r) []):=by
 refine Qc.walk 29 Tryz.func90 rfl Tryz.ntmps90 rfl fun C hC=>?_
 unfold Qc6 at h
 refine Qa hC [.n 14,.o (.ln b1.length),.n 4,.keep [3,6,7,8] []] rfl ⟨tt_,Qf⟩ ?_
 obtain⟨o14,hl14,h⟩:=Qb h
 refine AK.loop (body:=(fun st=>Qbj b1 st.1 st.2)) (fun st σ=>σ=⟨[(3,.i .i64 st.1),(6,.sl 2 (b1.map QB)),(7,.i .i64 (b1.length:Int)),(8,.i .i64 st.2)],[]⟩) (Sum.elim (fun q e σ=>e=.ret∧σ=⟨[(2,.b false)],[]⟩) (fun q e σ=>e=.exit 0∧σ=⟨[],[]⟩)) hl14 rfl ?_ ?_
 ·rintro ⟨last4,x5⟩ o σ rfl h
  replace h:Qbj b1 last4 x5=some o:=h
  unfold Qbj at h
  refine Qa hC [.n 6] rfl tt_ ?_
  rcases bifE h with⟨hc8,h⟩|⟨hc8,h⟩
  ·obtain⟨e9,he9,h⟩:=Qb h
   refine Qa hC [.br true,.n 6,.o (.row (QB e9)),.v .no [] (.agg (QB e9)),.n 2,.sayO 5 (.var (QB e9)),.n 4] rfl ⟨⟨⟨⟨tt_,hc8⟩,(idxM he9)⟩,rfl⟩,rfl⟩ ?_
   refine AK.meetX (fun σ=>σ=⟨[(5,.loc 5 0 0),(6,.sl 2 (b1.map QB)),(7,.i .i64 (b1.length:Int)),(8,.i .i64 x5),(25,.b ((decide (e9.1≤last4))||((decide (e9.2<1))||(decide (1048576<e9.2)))))],[(5,.var (QB e9))]⟩) ?_ ?_
   ·refine Qa hC [.n 6] rfl tt_ ?_
    rcases QJ (decide (e9.1≤last4))with hc11 | hc11
    ·refine Qa hC [.say 16 (.b true),.n 10,.say 25 (.b ((decide (e9.1≤last4))||((decide (e9.2<1))||(decide (1048576<e9.2))))),.keep [5,6,7,8,25] [5]] rfl ⟨⟨tt_,(congrArg V.b hc11)⟩,(congrArg V.b (orT hc11 rfl))⟩ ?_
     exact AK.met rfl
    ·refine Qa hC [.say 16 (.b false),.n 5] rfl ⟨tt_,(congrArg V.b hc11)⟩ ?_
     rcases QJ (decide (e9.2<1))with hc12 | hc12
     ·refine Qa hC [.say 21 (.b true),.n 5,.say 25 (.b ((decide (e9.1≤last4))||((decide (e9.2<1))||(decide (1048576<e9.2))))),.keep [5,6,7,8,25] [5]] rfl ⟨⟨tt_,(congrArg V.b hc12)⟩,(congrArg V.b (orF hc11 (orT hc12 rfl)))⟩ ?_
      exact AK.met rfl
     ·refine Qa hC [.say 21 (.b false),.n 5,.say 25 (.b ((decide (e9.1≤last4))||((decide (e9.2<1))||(decide (1048576<e9.2))))),.keep [5,6,7,8,25] [5]] rfl ⟨⟨tt_,(congrArg V.b hc12)⟩,(congrArg V.b (orF hc11 (orF hc12 rfl)))⟩ ?_
      exact AK.met rfl
   ·rintro σ rfl
    refine Qa hC [.n 1] rfl tt_ ?_
    rcases bifE h with⟨hc13,h⟩|⟨hc13,h⟩
    ·refine Qa hC [.br true,.n 9,.keep [2] []] rfl ⟨tt_,hc13⟩ ?_
     cases h
     exact rndR rfl (an_ rfl rfl)
    ·refine Qa hC [.br false,.n 13,.keep [3,6,7,8] []] rfl ⟨tt_,hc13⟩ ?_
     cases h
     exact rndN rfl rfl
  ·refine Qa hC [.br false,.n 2,.keep [] []] rfl ⟨tt_,hc8⟩ ?_
   cases h
   exact rndX rfl (an_ rfl rfl)
 ·rcases o14 with(_ | _)
  ·replace h:QgY=some r:=h
   unfold QgY at h
   rintro e σ ⟨rfl,rfl⟩
   refine Qa hC [.n 2,.keep [2] []] rfl tt_ ?_
   cases h
   exact AK.done (ex_ [_] (an_ (an_ rfl tt_) (gives tt_)))
  ·replace h:QgZ=some r:=h
   unfold QgZ at h
   rintro e σ ⟨rfl,rfl⟩
   refine Qa hC [.n 8,.keep [2] []] rfl tt_ ?_
   cases h
   exact AK.done (ex_ [_] (an_ (an_ rfl tt_) (gives tt_)))
def QbX (e12:Int)(k14:Int)(l15:(List Int)):Option ((Int×(List Int))⊕(List Int)):=
 bif (decide (0≤k14))then
 (chk (decide (0≤(w64 (8*k14))))).bind fun _=>
 (chk (decide (l15.length+([(IntKind.u8.wrap (shrI .i64 e12 (w64 (8*k14))))]:List Int).length≤4294967296))).bind fun _=>
 some (.inl ((w64 (k14-1)),(l15++([(IntKind.u8.wrap (shrI .i64 e12 (w64 (8*k14))))]:List Int))))
 else
 some (.inr l15)
def Qhy (x6:Int)(l18:(List Int)):Option ((Int×(List Int))⊕(List Int)):=
 some (.inl ((w64 (x6+1)),l18))
def QcG (l3:(List Int))(size2:Int)(x6:Int)(l7:(List Int)):Option ((Int×(List Int))⊕(List Int)):=
 bif (decide (x6<(l3.length:Int)))then
 (idx l3 x6).bind fun e12=>
 (QC (fun st=>QbX e12 st.1 st.2) ((w64 (size2-1)),l7)).bind (fun q=>Qhy x6 q)
 else
 some (.inr l7)
def Qj4 (l10:(List Int)):Option (List Int):=
 some l10
def Qes (l1:(List Int))(size2:Int)(l3:(List Int)):Option (List Int):=
 (QC (fun st=>QcG l3 size2 st.1 st.2) (0,l1)).bind (fun q=>Qj4 q)
theorem Qmt (l1:(List Int))(size2:Int)(l3:(List Int)){r:(List Int)}(h:Qes l1 size2 l3=some r):Qc Tryz.prog 113 [.own 100000 l1.length,.i .i64 size2,.sl 1 (l3.map Qe)] [(100000,.arr 1 (l1.map QaK))] (Gives (.own 100000 r.length) [(100000,.arr 1 (r.map QaK))]):=by
 refine Qc.walk 32 Tryz.func113 rfl Tryz.ntmps113 rfl fun C hC=>?_
 unfold Qes at h
 refine Qa hC [.n 9,.o (.ln l3.length),.n 4,.keep [0,1,10,11,12] [100000]] rfl ⟨tt_,Qf⟩ ?_
 obtain⟨l10,hl23,h⟩:=Qb h
 refine AK.loop (body:=(fun st=>QcG l3 size2 st.1 st.2)) (fun st σ=>σ=⟨[(0,.own 100000 st.2.length),(1,.i .i64 size2),(10,.sl 1 (l3.map Qe)),(11,.i .i64 (l3.length:Int)),(12,.i .i64 st.1)],[(100000,.arr 1 (st.2.map QaK))]⟩) (fun q e σ=>e=.exit 0∧σ=⟨[(0,.own 100000 q.length)],[(100000,.arr 1 (q.map QaK))]⟩) hl23 rfl ?_ ?_
 ·rintro ⟨x6,l7⟩ o σ rfl h
  replace h:QcG l3 size2 x6 l7=some o:=h
  unfold QcG at h
  refine Qa hC [.n 6] rfl tt_ ?_
  rcases bifE h with⟨hc11,h⟩|⟨hc11,h⟩
  ·obtain⟨e12,he12,h⟩:=Qb h
   refine Qa hC [.br true,.n 6,.o (.row (Qe e12)),.n 12,.keep [0,1,8,9,10,11,12] [100000]] rfl ⟨⟨tt_,hc11⟩,(idxM he12)⟩ ?_
   obtain⟨l18,hl22,h⟩:=Qb h
   refine AK.loop (body:=(fun st=>QbX e12 st.1 st.2)) (fun st σ=>σ=⟨[(0,.own 100000 st.2.length),(1,.i .i64 size2),(8,.i .i64 e12),(9,.i .i64 st.1),(10,.sl 1 (l3.map Qe)),(11,.i .i64 (l3.length:Int)),(12,.i .i64 x6)],[(100000,.arr 1 (st.2.map QaK))]⟩) (fun q e σ=>e=.exit 2∧σ=⟨[(0,.own 100000 q.length),(1,.i .i64 size2),(10,.sl 1 (l3.map Qe)),(11,.i .i64 (l3.length:Int)),(12,.i .i64 x6)],[(100000,.arr 1 (q.map QaK))]⟩) hl22 rfl ?_ ?_
   ·rintro ⟨k14,l15⟩ o σ rfl h
    replace h:QbX e12 k14 l15=some o:=h
    unfold QbX at h
    refine Qa hC [.n 7] rfl tt_ ?_
    rcases bifE h with⟨hc19,h⟩|⟨hc19,h⟩
    ·obtain⟨_,hk20,h⟩:=Qb h
     replace hk20:=chkE hk20
     obtain⟨_,hk21,h⟩:=Qb h
     replace hk21:=chkE hk21
     refine Qa hC [.br true,.n 9,.o (.any (.i .i64 (shrI .i64 e12 (w64 (8*k14)))) none),.o (.any (.i .u8 (IntKind.u8.wrap (shrI .i64 e12 (w64 (8*k14))))) none),.v (.bd []) [] (.sl 1 (([(IntKind.u8.wrap (shrI .i64 e12 (w64 (8*k14))))]:List Int).map QaK)),.app ((l15++([(IntKind.u8.wrap (shrI .i64 e12 (w64 (8*k14))))]:List Int)).map QaK) (l15++([(IntKind.u8.wrap (shrI .i64 e12 (w64 (8*k14))))]:List Int)).length,.n 9,.keep [0,1,8,9,10,11,12] [100000]] rfl ⟨⟨⟨⟨⟨tt_,hc19⟩,(fun σ h1 h2 _=>Stp.shr rfl rfl (bleN hC.n rfl) (h1 _ _ rfl) (h1 _ _ rfl) (of_decide_eq_true hk20))⟩,(fun σ h1 h2 _=>Stp.convI rfl rfl (bleN hC.n rfl) (h1 _ _ rfl) it_3 it_5)⟩,rfl⟩,⟨Qf,Qc9 hk21 Qf,Qb9,QeX Qf⟩⟩ ?_
     cases h
     exact rndN rfl rfl
    ·refine Qa hC [.br false,.n 2,.keep [0,1,10,11,12] [100000]] rfl ⟨tt_,hc19⟩ ?_
     cases h
     exact rndX rfl (an_ rfl rfl)
   ·replace h:Qhy x6 l18=some o:=h
    unfold Qhy at h
    rintro e σ ⟨rfl,rfl⟩
    refine Qa hC [.n 7,.keep [0,1,10,11,12] [100000]] rfl tt_ ?_
    cases h
    exact rndN rfl rfl
  ·refine Qa hC [.br false,.n 2,.keep [0] [100000]] rfl ⟨tt_,hc11⟩ ?_
   cases h
   exact rndX rfl (an_ rfl rfl)
 ·replace h:Qj4 l10=some r:=h
  unfold Qj4 at h
  rintro e σ ⟨rfl,rfl⟩
  refine Qa hC [.n 9,.keep [6] [100000]] rfl tt_ ?_
  cases h
  exact AK.done (ex_ [_] (an_ (an_ rfl tt_) (gives ⟨rfl,tt_⟩)))
def Qhz (e15:QBg):Option Bool:=
 (Qc6 e15).bind fun x18=>
 bif (!x18)then
 some true
 else
 bif (decide (65535<(e15.length:Int)))then
 some true
 else
 bif (decide (0<(e15.length:Int)))then
 (idx e15 (w64 ((e15.length:Int)-1))).bind fun e22=>
 some (decide (4294967295<e22.1))
 else
 some false
def QcH (e15:QBg)(x26:Int)(l27:(List Int)):Option ((Int×(List Int))⊕(List Int)):=
 bif (decide (x26<(e15.length:Int)))then
 (idx e15 x26).bind fun e32=>
 (Qes l27 4 ([e32.1,e32.2]:List Int)).bind fun x33=>
 some (.inl ((w64 (x26+1)),x33))
 else
 some (.inr l27)
def QhA (x9:Int)(l30:(List Int)):Option ((Int×(List Int))⊕(Unit⊕(List Int))):=
 some (.inl ((w64 (x9+1)),l30))
def Qfn (l10:(List Int))(e15:QBg)(x9:Int)(x16:Bool):Option ((Int×(List Int))⊕(Unit⊕(List Int))):=
 bif x16 then
 some (.inr (.inl ()))
 else
 (Qes l10 2 ([(e15.length:Int)]:List Int)).bind fun x24=>
 (QC (fun st=>QcH e15 st.1 st.2) (0,x24)).bind (fun q=>QhA x9 q)
def QcI (m1:QMk)(x9:Int)(l10:(List Int)):Option ((Int×(List Int))⊕(Unit⊕(List Int))):=
 bif (decide (x9<(m1.length:Int)))then
 (idx m1 x9).bind fun e15=>
 (Qhz e15).bind (fun x16=>Qfn l10 e15 x9 x16)
 else
 some (.inr (.inr l10))
def Qj5 : Option ((List Int)×Int):=
 some (([]:List Int),1)
def Qj6 (l13:(List Int)):Option ((List Int)×Int):=
 some (l13,0)
def Qf5 (m1:QMk):Option ((List Int)×Int):=
 bif (decide (64<(m1.length:Int)))then
 some (([]:List Int),1)
 else
 (QjR 1 ([(m1.length:Int)]:List Int)).bind fun x7=>
 (QC (fun st=>QcI m1 st.1 st.2) (0,x7)).bind (Sum.elim (fun q=>Qj5) (fun q=>Qj6 q))
theorem QqF (m1:QMk){r:((List Int)×Int)}(h:Qf5 m1=some r):Qc Tryz.prog 56 [.sl 1 (m1.map Qi)] [] (Gives (.tup [.sl 1 (r.1.map QaK),.i .i64 r.2]) []):=by
 refine Qc.walk 66 Tryz.func56 rfl Tryz.ntmps56 rfl fun C hC=>?_
 unfold Qf5 at h
 refine Qa hC [.n 10,.o (.ln m1.length),.n 3] rfl ⟨tt_,Qf⟩ ?_
 rcases bifE h with⟨hc6,h⟩|⟨hc6,h⟩
 ·refine Qa hC [.br true,.n 8,.denil 2 [some 1],.keep [2,3] []] rfl ⟨tt_,hc6⟩ ?_
  cases h
  exact AK.done (ex_ [_,_] (an_ (an_ rfl (an_ rfl tt_)) (gives tt_)))
 ·obtain⟨x7,hx7,h⟩:=Qb h
  refine Qa hC [.br false,.n 5,.o (.ln m1.length),.v (.bd []) [] (.sl 1 (([(m1.length:Int)]:List Int).map Qe)),.cm (.fn) [] [(15,30000)] [] [.d,.d,.d] [(30000,.arr 1 (x7.map QaK))] (.own 30000 x7.length),.n 7,.o (.ln m1.length),.n 4,.keep [4,16,17,18] [15]] rfl ⟨⟨⟨⟨⟨tt_,hc6⟩,Qf⟩,rfl⟩,(QqE _ _ hx7)⟩,Qf⟩ ?_
  obtain⟨o35,hl35,h⟩:=Qb h
  refine AK.loop (body:=(fun st=>QcI m1 st.1 st.2)) (fun st σ=>σ=⟨[(4,.own 15 st.2.length),(16,.sl 1 (m1.map Qi)),(17,.i .i64 (m1.length:Int)),(18,.i .i64 st.1)],[(15,.arr 1 (st.2.map QaK))]⟩) (Sum.elim (fun q e σ=>e=.ret∧σ=⟨[(2,.lit (.slice none 0 0)),(3,.i .i64 1)],[]⟩) (fun q e σ=>e=.exit 0∧σ=⟨[(4,.own 15 q.length)],[(15,.arr 1 (q.map QaK))]⟩)) hl35 rfl ?_ ?_
  ·rintro ⟨x9,l10⟩ o σ rfl h
   replace h:QcI m1 x9 l10=some o:=h
   unfold QcI at h
   refine Qa hC [.n 6] rfl tt_ ?_
   rcases bifE h with⟨hc14,h⟩|⟨hc14,h⟩
   ·obtain⟨e15,he15,h⟩:=Qb h
    refine Qa hC [.br true,.n 6,.o (.row (Qi e15)),.n 6] rfl ⟨⟨tt_,hc14⟩,(idxM he15)⟩ ?_
    obtain⟨x16,hv17,h⟩:=Qb h
    replace h:Qfn l10 e15 x9 x16=some o:=h
    refine AK.meetX (fun σ=>σ=⟨[(4,.own 15 l10.length),(6,.sl 2 (e15.map QB)),(16,.sl 1 (m1.map Qi)),(17,.i .i64 (m1.length:Int)),(18,.i .i64 x9),(44,.b x16)],[(15,.arr 1 (l10.map QaK))]⟩) ?_ ?_
    ·replace h:=hv17
     unfold Qhz at h
     obtain⟨x18,hx18,h⟩:=Qb h
     refine Qa hC [.n 2,.o (.c false [.d] (.b x18)),.n 2] rfl ⟨tt_,(Qi5 _ hx18)⟩ ?_
     rcases bifE h with⟨hc19,h⟩|⟨hc19,h⟩
     ·refine Qa hC [.say 25 (.b true),.n 20,.keep [4,6,16,17,18,44] [15]] rfl ⟨tt_,(congrArg V.b hc19)⟩ ?_
      cases h
      exact AK.met rfl
     ·refine Qa hC [.say 25 (.b false),.n 1,.o (.ln e15.length),.n 3] rfl ⟨⟨tt_,(congrArg V.b hc19)⟩,Qf⟩ ?_
      rcases bifE h with⟨hc20,h⟩|⟨hc20,h⟩
      ·refine Qa hC [.say 30 (.b true),.n 15,.keep [4,6,16,17,18,44] [15]] rfl ⟨tt_,(congrArg V.b hc20)⟩ ?_
       cases h
       exact AK.met rfl
      ·refine Qa hC [.say 30 (.b false),.n 1,.o (.ln e15.length),.n 2] rfl ⟨⟨tt_,(congrArg V.b hc20)⟩,Qf⟩ ?_
       rcases bifE h with⟨hc21,h⟩|⟨hc21,h⟩
       ·obtain⟨e22,he22,h⟩:=Qb h
        refine Qa hC [.say 34 (.b true),.n 2,.o (.ln e15.length),.n 1,.o (.row (QB e22)),.n 6,.keep [4,6,16,17,18,44] [15]] rfl ⟨⟨⟨tt_,(congrArg V.b hc21)⟩,Qf⟩,(idxM he22)⟩ ?_
        cases h
        exact AK.met rfl
       ·refine Qa hC [.say 34 (.b false),.n 11,.keep [4,6,16,17,18,44] [15]] rfl ⟨tt_,(congrArg V.b hc21)⟩ ?_
        cases h
        exact AK.met rfl
    ·rintro σ rfl
     replace h:Qfn l10 e15 x9 x16=some o:=h
     unfold Qfn at h
     refine Qa hC [.n 1] rfl tt_ ?_
     rcases bifE h with⟨hc23,h⟩|⟨hc23,h⟩
     ·refine Qa hC [.br true,.n 10,.keep [2,3] []] rfl ⟨tt_,hc23⟩ ?_
      cases h
      exact rndR rfl (an_ rfl rfl)
     ·obtain⟨x24,hx24,h⟩:=Qb h
      refine Qa hC [.br false,.n 6,.o (.ln e15.length),.v (.bd []) [] (.sl 1 (([(e15.length:Int)]:List Int).map Qe)),.cm (.fn) [(100000,15)] [(15,100000)] [15] [.d,.d,.d] [(100000,.arr 1 (x24.map QaK))] (.own 100000 x24.length),.n 6,.o (.ln e15.length),.n 4,.keep [4,16,17,18,50,51,52] [15]] rfl ⟨⟨⟨⟨⟨tt_,hc23⟩,Qf⟩,rfl⟩,(Qmt _ _ _ hx24)⟩,Qf⟩ ?_
      obtain⟨l30,hl34,h⟩:=Qb h
      refine AK.loop (body:=(fun st=>QcH e15 st.1 st.2)) (fun st σ=>σ=⟨[(4,.own 15 st.2.length),(16,.sl 1 (m1.map Qi)),(17,.i .i64 (m1.length:Int)),(18,.i .i64 x9),(50,.sl 2 (e15.map QB)),(51,.i .i64 (e15.length:Int)),(52,.i .i64 st.1)],[(15,.arr 1 (st.2.map QaK))]⟩) (fun q e σ=>e=.exit 2∧σ=⟨[(4,.own 15 q.length),(16,.sl 1 (m1.map Qi)),(17,.i .i64 (m1.length:Int)),(18,.i .i64 x9)],[(15,.arr 1 (q.map QaK))]⟩) hl34 rfl ?_ ?_
      ·rintro ⟨x26,l27⟩ o σ rfl h
       replace h:QcH e15 x26 l27=some o:=h
       unfold QcH at h
       refine Qa hC [.n 6] rfl tt_ ?_
       rcases bifE h with⟨hc31,h⟩|⟨hc31,h⟩
       ·obtain⟨e32,he32,h⟩:=Qb h
        obtain⟨x33,hx33,h⟩:=Qb h
        refine Qa hC [.br true,.n 6,.o (.row (QB e32)),.v .no [] (.agg (QB e32)),.n 2,.sayO 8 (.var (QB e32)),.n 8,.v (.bd []) [] (.sl 1 (([e32.1,e32.2]:List Int).map Qe)),.cm (.fn) [(100000,15)] [(15,100000)] [15] [.d,.d,.d] [(100000,.arr 1 (x33.map QaK))] (.own 100000 x33.length),.n 8,.keep [4,16,17,18,50,51,52] [15]] rfl ⟨⟨⟨⟨⟨⟨tt_,hc31⟩,(idxM he32)⟩,rfl⟩,rfl⟩,rfl⟩,(Qmt _ _ _ hx33)⟩ ?_
        cases h
        exact rndN rfl rfl
       ·refine Qa hC [.br false,.n 2,.keep [4,16,17,18] [15]] rfl ⟨tt_,hc31⟩ ?_
        cases h
        exact rndX rfl (an_ rfl rfl)
      ·replace h:QhA x9 l30=some o:=h
       unfold QhA at h
       rintro e σ ⟨rfl,rfl⟩
       refine Qa hC [.n 7,.keep [4,16,17,18] [15]] rfl tt_ ?_
       cases h
       exact rndN rfl rfl
   ·refine Qa hC [.br false,.n 2,.keep [4] [15]] rfl ⟨tt_,hc14⟩ ?_
    cases h
    exact rndX rfl (an_ rfl rfl)
  ·rcases o35 with(_ | l13)
   ·replace h:Qj5=some r:=h
    unfold Qj5 at h
    rintro e σ ⟨rfl,rfl⟩
    refine Qa hC [.n 2,.denil 2 [some 1],.keep [2,3] []] rfl tt_ ?_
    cases h
    exact AK.done (ex_ [_,_] (an_ (an_ rfl (an_ rfl tt_)) (gives tt_)))
   ·replace h:Qj6 l13=some r:=h
    unfold Qj6 at h
    rintro e σ ⟨rfl,rfl⟩
    refine Qa hC [.n 10,.frz 15 (l13.map QaK) [2] [],.keep [2,3] []] rfl ⟨tt_,⟨tt_,(frzL Qf)⟩⟩ ?_
    cases h
    exact AK.done (ex_ [_,_] (an_ (an_ rfl (an_ rfl tt_)) (gives tt_)))
def Qfo (m1:QMk):Option ByteArray:=
 (Qf5 m1).bind fun x3=>
 some (Qnf x3.1)
theorem QkB (m1:QMk){r:ByteArray}(h:Qfo m1=some r):Qc Tryz.prog 29 [.sl 1 (m1.map Qi)] [] (Gives (.s r) []):=by
 refine Qc.walk 12 Tryz.func29 rfl Tryz.ntmps29 rfl fun C hC=>?_
 unfold Qfo at h
 obtain⟨x3,hx3,h⟩:=Qb h
 refine Qa hC [.n 8,.o (.c false [.d] (.tup [.sl 1 (x3.1.map QaK),.i .i64 x3.2])),.n 10,.o (.any (.s (Qnf x3.1)) none),.n 4,.keep [2] []] rfl ⟨⟨tt_,(QqF _ hx3)⟩,(fun σ h1 h2 _=>Stp.b2s rfl rfl (bleN hC.n rfl) (h1 _ _ rfl) rfl Qxm it_5 (Qo.sb rfl))⟩ ?_
 cases h
 exact AK.done (ex_ [_] (an_ (an_ rfl tt_) (gives tt_)))
def Qbe (s1:QMk):Option QMk:=
 (chk (decide (([]:List QBg).length+s1.length≤4294967296))).bind fun _=>
 some (([]:List QBg)++s1)
theorem Qiw (s1:QMk){r:QMk}(h:Qbe s1=some r):Qc Tryz.prog 57 [.sl 1 (s1.map Qi)] [] (Gives (.own 30000 r.length) [(30000,.arr 1 (r.map Qi))]):=by
 refine Qc.walk 8 Tryz.func57 rfl Tryz.ntmps57 rfl fun C hC=>?_
 unfold Qbe at h
 refine Qa hC [.n 9] rfl tt_ ?_
 refine AK.eqNil rfl rfl rfl (bleN hC.n rfl) rfl rfl QxG ?_ ?_
 ·intro hz4
  replace h:some ([]:List QBg)=some r:=by simpa [chk,List.map_eq_nil_iff.1 hz4] using h
  refine Qa hC [.n 10,.adopt 2 30000 1,.sayO 30000 (.arr 1 (([]:List QBg).map Qi)),.say 2 (.own 30000 ([]:List QBg).length),.keep [2] [30000]] rfl ⟨⟨tt_,rfl⟩,rfl⟩ ?_
  cases h
  exact AK.done (ex_ [_] (an_ (an_ rfl tt_) (gives ⟨rfl,tt_⟩)))
 ·obtain⟨_,hk5,h⟩:=Qb h
  replace hk5:=chkE hk5
  refine Qa hC [.n 8,.sayO 5 (.arr 1 (([]:List QBg).map Qi)),.say 5 (.own 5 ([]:List QBg).length),.n 1,.app ((([]:List QBg)++s1).map Qi) (([]:List QBg)++s1).length,.n 4,.keep [2] [5],.ren 5 30000,.keep [2] [30000]] rfl ⟨⟨⟨tt_,rfl⟩,rfl⟩,⟨Qf,Qc9 hk5 Qf,Qb9,QeX Qf⟩⟩ ?_
  cases h
  exact AK.done (ex_ [_] (an_ (an_ rfl tt_) (gives ⟨rfl,tt_⟩)))
def Qcb (s1:QBg):Option QBg:=
 (chk (decide (([]:List (Int×Int)).length+s1.length≤4294967296))).bind fun _=>
 some (([]:List (Int×Int))++s1)
theorem Qku (s1:QBg){r:QBg}(h:Qcb s1=some r):Qc Tryz.prog 58 [.sl 2 (s1.map QB)] [] (Gives (.own 30000 r.length) [(30000,.arr 2 (r.map QB))]):=by
 refine Qc.walk 8 Tryz.func58 rfl Tryz.ntmps58 rfl fun C hC=>?_
 unfold Qcb at h
 refine Qa hC [.n 9] rfl tt_ ?_
 refine AK.eqNil rfl rfl rfl (bleN hC.n rfl) rfl rfl QxI ?_ ?_
 ·intro hz4
  replace h:some ([]:List (Int×Int))=some r:=by simpa [chk,List.map_eq_nil_iff.1 hz4] using h
  refine Qa hC [.n 10,.adopt 2 30000 2,.sayO 30000 (.arr 2 (([]:List (Int×Int)).map QB)),.say 2 (.own 30000 ([]:List (Int×Int)).length),.keep [2] [30000]] rfl ⟨⟨tt_,rfl⟩,rfl⟩ ?_
  cases h
  exact AK.done (ex_ [_] (an_ (an_ rfl tt_) (gives ⟨rfl,tt_⟩)))
 ·obtain⟨_,hk5,h⟩:=Qb h
  replace hk5:=chkE hk5
  refine Qa hC [.n 8,.sayO 5 (.arr 2 (([]:List (Int×Int)).map QB)),.say 5 (.own 5 ([]:List (Int×Int)).length),.n 1,.app ((([]:List (Int×Int))++s1).map QB) (([]:List (Int×Int))++s1).length,.n 4,.keep [2] [5],.ren 5 30000,.keep [2] [30000]] rfl ⟨⟨⟨tt_,rfl⟩,rfl⟩,⟨Qf,Qc9 hk5 Qf,Qb9,QeX Qf⟩⟩ ?_
  cases h
  exact AK.done (ex_ [_] (an_ (an_ rfl tt_) (gives ⟨rfl,tt_⟩)))
def QdJ (x3:QMk)(x5:Int)(l6:QMk):Option ((Int×QMk)⊕QMk):=
 bif (decide (x5<(x3.length:Int)))then
 (idx l6 x5).bind fun e11=>
 (Qcb e11).bind fun x12=>
 (idx l6 x5).bind fun e13=>
 some (.inl ((w64 (x5+1)),(l6.set x5.toNat x12)))
 else
 some (.inr l6)
def Qle (l9:QMk):Option QMk:=
 some l9
def Qh8 (m1:QMk):Option QMk:=
 (Qbe m1).bind fun x3=>
 (QC (fun st=>QdJ x3 st.1 st.2) (0,x3)).bind (fun q=>Qle q)
theorem QnH (m1:QMk){r:QMk}(h:Qh8 m1=some r):Qc Tryz.prog 30 [.sl 1 (m1.map Qi)] [] (Gives (.own 30000 r.length) [(30000,.arr 1 (r.map Qi))]):=by
 refine Qc.walk 22 Tryz.func30 rfl Tryz.ntmps30 rfl fun C hC=>?_
 unfold Qh8 at h
 obtain⟨x3,hx3,h⟩:=Qb h
 refine Qa hC [.n 8,.o (.co false [.d] 1 (x3.map Qi) x3.length),.n 12,.keep [3,8,9,10] [7]] rfl ⟨tt_,⟨(Qiw _ hx3),Qf,.inl rfl⟩⟩ ?_
 obtain⟨l9,hl14,h⟩:=Qb h
 refine AK.loop (body:=(fun st=>QdJ x3 st.1 st.2)) (fun st σ=>σ=⟨[(3,.own 7 st.2.length),(8,.own 7 st.2.length),(9,.i .i64 (x3.length:Int)),(10,.i .i64 st.1)],[(7,.arr 1 (st.2.map Qi))]⟩) (fun q e σ=>e=.exit 0∧σ=⟨[(3,.own 7 q.length)],[(7,.arr 1 (q.map Qi))]⟩) hl14 rfl ?_ ?_
 ·rintro ⟨x5,l6⟩ o σ rfl h
  replace h:QdJ x3 x5 l6=some o:=h
  unfold QdJ at h
  refine Qa hC [.n 6] rfl tt_ ?_
  rcases bifE h with⟨hc10,h⟩|⟨hc10,h⟩
  ·obtain⟨e11,he11,h⟩:=Qb h
   obtain⟨x12,hx12,h⟩:=Qb h
   obtain⟨e13,he13,h⟩:=Qb h
   refine Qa hC [.br true,.n 8,.o (.row (Qi e11)),.n 8,.o (.co false [.d] 2 (x12.map QB) x12.length),.n 1,.frz 18 (x12.map QB) [18] [],.st (Qi e13) ((l6.set x5.toNat x12).map Qi),.n 7,.say 3 (.own 7 (l6.set x5.toNat x12).length),.say 8 (.own 7 (l6.set x5.toNat x12).length),.keep [3,8,9,10] [7]] rfl ⟨⟨⟨⟨⟨⟨⟨⟨⟨tt_,hc10⟩,(QaX he11 rfl)⟩,(Qal (idxE he11).2)⟩,⟨(Qku _ hx12),Qf,.inl rfl⟩⟩,(QaX he13 rfl)⟩,⟨tt_,(frzL Qf)⟩⟩,⟨(Qal (idxE he13).2),Qkx rfl⟩⟩,(congrArg (fun n=>V.own 7 n) (by simp))⟩,(congrArg (fun n=>V.own 7 n) (by simp))⟩ ?_
   cases h
   exact rndN rfl rfl
  ·refine Qa hC [.br false,.n 2,.keep [3] [7]] rfl ⟨tt_,hc10⟩ ?_
   cases h
   exact rndX rfl (an_ rfl rfl)
 ·replace h:Qle l9=some r:=h
  unfold Qle at h
  rintro e σ ⟨rfl,rfl⟩
  refine Qa hC [.n 9,.keep [2] [7],.ren 7 30000,.keep [2] [30000]] rfl tt_ ?_
  cases h
  exact AK.done (ex_ [_] (an_ (an_ rfl tt_) (gives ⟨rfl,tt_⟩)))
def Qdn (l10:QLL):Option QLL:=
 some l10
def QgN (arcs2:Int)(x13:Int)(l14:(List Int)):Option ((Int×(List Int))⊕(List Int)):=
 bif (decide (x13<arcs2))then
 (chk (decide (l14.length+([x13]:List Int).length≤4294967296))).bind fun _=>
 some (.inl ((w64 (x13+1)),(l14++([x13]:List Int))))
 else
 some (.inr l14)
def Qji (l17:(List Int)):Option QLL:=
 some ([l17]:List (List Int))
def QgO (arcs2:Int)(x23:Int)(l24:QLL):Option ((Int×QLL)⊕QLL):=
 bif (decide (x23<arcs2))then
 (chk (decide (l24.length+([([x23]:List Int)]:List (List Int)).length≤4294967296))).bind fun _=>
 some (.inl ((w64 (x23+1)),(l24++([([x23]:List Int)]:List (List Int)))))
 else
 some (.inr l24)
def Qjj (l27:QLL):Option QLL:=
 Qdn l27
def QgP (x41:Int)(l47:(List Int)):Option ((Int×(List Int))⊕(List Int)):=
 some (.inl ((w64 (x41+1)),l47))
def QgQ (arcs2:Int)(set_33:Int)(x41:Int)(l42:(List Int)):Option ((Int×(List Int))⊕(List Int)):=
 bif (decide (x41<arcs2))then
 (chk (decide (0≤x41))).bind fun _=>
 bif ((andI .i64 (shrI .i64 set_33 x41) 1)==1)then
 (chk (decide (l42.length+([x41]:List Int).length≤4294967296))).bind fun _=>
 QgP x41 (l42++([x41]:List Int))
 else
 QgP x41 l42
 else
 some (.inr l42)
def Qjk (l34:QLL)(set_33:Int)(l45:(List Int)):Option ((Int×QLL)⊕QLL):=
 (chk (decide (l34.length+([l45]:List (List Int)).length≤4294967296))).bind fun _=>
 some (.inl ((w64 (set_33+1)),(l34++([l45]:List (List Int)))))
def QgR (arcs2:Int)(set_33:Int)(l34:QLL):Option ((Int×QLL)⊕QLL):=
 (chk (decide (0≤arcs2))).bind fun _=>
 bif (decide (set_33<(shlI .i64 1 arcs2)))then
 (QC (fun st=>QgQ arcs2 set_33 st.1 st.2) (0,([]:List Int))).bind (fun q=>Qjk l34 set_33 q)
 else
 some (.inr l34)
def QiG (l37:QLL):Option QLL:=
 Qdn l37
def QbF (kind1:Int)(arcs2:Int):Option QLL:=
 bif ((decide (arcs2<0))||((decide (16<arcs2))||((kind1==3)&&(decide (4<arcs2)))))then
 some ([]:List (List Int))
 else
 bif (kind1==1)then
 (QC (fun st=>QgN arcs2 st.1 st.2) (0,([]:List Int))).bind (fun q=>Qji q)
 else
 bif (kind1==2)then
 (QC (fun st=>QgO arcs2 st.1 st.2) (0,([]:List (List Int)))).bind (fun q=>Qjj q)
 else
 bif (kind1==3)then
 (QC (fun st=>QgR arcs2 st.1 st.2) (1,([]:List (List Int)))).bind (fun q=>QiG q)
 else
 Qdn ([]:List (List Int))
theorem Qjl (kind1:Int)(arcs2:Int){r:QLL}(h:QbF kind1 arcs2=some r):Qc Tryz.prog 76 [.i .i64 kind1,.i .i64 arcs2] [] (Gives (.own 30000 r.length) [(30000,.arr 1 (r.map Qx))]):=by
 refine Qc.walk 79 Tryz.func76 rfl Tryz.ntmps76 rfl fun C hC=>?_
 unfold QbF at h
 refine Qa hC [.n 7] rfl tt_ ?_
 refine AK.meetX (fun σ=>σ=⟨[(0,.i .i64 kind1),(1,.i .i64 arcs2),(25,.b ((decide (arcs2<0))||((decide (16<arcs2))||((kind1==3)&&(decide (4<arcs2))))))],[]⟩) ?_ ?_
 ·refine Qa hC [.n 4] rfl tt_ ?_
  rcases QJ (decide (arcs2<0))with hc6 | hc6
  ·refine Qa hC [.say 14 (.b true),.n 12,.say 25 (.b ((decide (arcs2<0))||((decide (16<arcs2))||((kind1==3)&&(decide (4<arcs2)))))),.keep [0,1,25] []] rfl ⟨⟨tt_,(congrArg V.b hc6)⟩,(congrArg V.b (orT hc6 rfl))⟩ ?_
   exact AK.met rfl
  ·refine Qa hC [.say 14 (.b false),.n 4] rfl ⟨tt_,(congrArg V.b hc6)⟩ ?_
   rcases QJ (decide (16<arcs2))with hc7 | hc7
   ·refine Qa hC [.say 18 (.b true),.n 8,.say 25 (.b ((decide (arcs2<0))||((decide (16<arcs2))||((kind1==3)&&(decide (4<arcs2)))))),.keep [0,1,25] []] rfl ⟨⟨tt_,(congrArg V.b hc7)⟩,(congrArg V.b (orF hc6 (orT hc7 rfl)))⟩ ?_
    exact AK.met rfl
   ·refine Qa hC [.say 18 (.b false),.n 3] rfl ⟨tt_,(congrArg V.b hc7)⟩ ?_
    rcases QJ (kind1==3)with hc8 | hc8
    ·refine Qa hC [.say 21 (.b true),.n 5,.say 25 (.b ((decide (arcs2<0))||((decide (16<arcs2))||((kind1==3)&&(decide (4<arcs2)))))),.keep [0,1,25] []] rfl ⟨⟨tt_,(congrArg V.b hc8)⟩,(congrArg V.b (orF hc6 (orF hc7 (andT hc8 rfl))))⟩ ?_
     exact AK.met rfl
    ·refine Qa hC [.say 21 (.b false),.n 5,.say 25 (.b ((decide (arcs2<0))||((decide (16<arcs2))||((kind1==3)&&(decide (4<arcs2)))))),.keep [0,1,25] []] rfl ⟨⟨tt_,(congrArg V.b hc8)⟩,(congrArg V.b (orF hc6 (orF hc7 (andF hc8 rfl))))⟩ ?_
     exact AK.met rfl
 ·rintro σ rfl
  refine Qa hC [.n 1] rfl tt_ ?_
  rcases bifE h with⟨hc9,h⟩|⟨hc9,h⟩
  ·refine Qa hC [.br true,.n 7,.adopt 4 30000 1,.sayO 30000 (.arr 1 (([]:List (List Int)).map Qx)),.say 4 (.own 30000 ([]:List (List Int)).length),.keep [4] [30000]] rfl ⟨⟨⟨tt_,hc9⟩,rfl⟩,rfl⟩ ?_
   cases h
   exact AK.done (ex_ [_] (an_ (an_ rfl tt_) (gives ⟨rfl,tt_⟩)))
  ·refine Qa hC [.br false,.n 7] rfl ⟨tt_,hc9⟩ ?_
   refine AK.meet (fun σ=>∃l10:QLL,σ=⟨[(5,.own 40005 l10.length)],[(40005,.arr 1 (l10.map Qx))]⟩∧Qdn l10=some r) ?_ ?_
   ·refine Qa hC [.n 12] rfl tt_ ?_
    rcases bifE h with⟨hc11,h⟩|⟨hc11,h⟩
    ·refine Qa hC [.br true,.n 13,.adopt 6 33 1,.sayO 33 (.arr 1 (([]:List Int).map Qe)),.say 6 (.own 33 ([]:List Int).length),.keep [6,29,30] [33]] rfl ⟨⟨⟨tt_,hc11⟩,rfl⟩,(congrArg (fun n=>V.own 33 n) (by simp))⟩ ?_
     obtain⟨l17,hl20,h⟩:=Qb h
     refine AK.loop (body:=(fun st=>QgN arcs2 st.1 st.2)) (fun st σ=>σ=⟨[(6,.own 33 st.2.length),(29,.i .i64 arcs2),(30,.i .i64 st.1)],[(33,.arr 1 (st.2.map Qe))]⟩) (fun q e σ=>e=.exit 1∧σ=⟨[(6,.own 33 q.length)],[(33,.arr 1 (q.map Qe))]⟩) hl20 rfl ?_ ?_
     ·rintro ⟨x13,l14⟩ o σ rfl h
      replace h:QgN arcs2 x13 l14=some o:=h
      unfold QgN at h
      refine Qa hC [.n 6] rfl tt_ ?_
      rcases bifE h with⟨hc18,h⟩|⟨hc18,h⟩
      ·obtain⟨_,hk19,h⟩:=Qb h
       replace hk19:=chkE hk19
       refine Qa hC [.br true,.n 13,.v (.bd []) [] (.sl 1 (([x13]:List Int).map Qe)),.app ((l14++([x13]:List Int)).map Qe) (l14++([x13]:List Int)).length,.n 8,.keep [6,29,30] [33]] rfl ⟨⟨⟨tt_,hc18⟩,rfl⟩,⟨Qf,Qc9 hk19 Qf,Qb9,QeX Qf⟩⟩ ?_
       cases h
       exact rndN rfl rfl
      ·refine Qa hC [.br false,.n 2,.keep [6] [33]] rfl ⟨tt_,hc18⟩ ?_
       cases h
       exact rndX rfl (an_ rfl rfl)
     ·replace h:Qji l17=some r:=h
      unfold Qji at h
      rintro e σ ⟨rfl,rfl⟩
      refine Qa hC [.n 5,.frz 33 (l17.map Qe) [6,38] [],.n 1,.sayO 39 (.arr 1 (([l17]:List (List Int)).map Qx)),.say 39 (.own 39 ([l17]:List (List Int)).length),.n 6,.keep [4] [39],.ren 39 30000,.keep [4] [30000]] rfl ⟨⟨⟨tt_,⟨⟨tt_,(frzL Qf)⟩,(frzL Qf)⟩⟩,rfl⟩,rfl⟩ ?_
      cases h
      exact AK.done (ex_ [_] (an_ (an_ rfl tt_) (gives ⟨rfl,tt_⟩)))
    ·refine Qa hC [.br false,.n 6] rfl ⟨tt_,hc11⟩ ?_
     rcases bifE h with⟨hc21,h⟩|⟨hc21,h⟩
     ·refine Qa hC [.br true,.n 7,.adopt 5 46 1,.sayO 46 (.arr 1 (([]:List (List Int)).map Qx)),.say 5 (.own 46 ([]:List (List Int)).length),.keep [5,42,43] [46]] rfl ⟨⟨⟨tt_,hc21⟩,rfl⟩,(congrArg (fun n=>V.own 46 n) (by simp))⟩ ?_
      obtain⟨l27,hl30,h⟩:=Qb h
      refine AK.loop (body:=(fun st=>QgO arcs2 st.1 st.2)) (fun st σ=>σ=⟨[(5,.own 46 st.2.length),(42,.i .i64 arcs2),(43,.i .i64 st.1)],[(46,.arr 1 (st.2.map Qx))]⟩) (fun q e σ=>e=.exit 3∧σ=⟨[(5,.own 46 q.length)],[(46,.arr 1 (q.map Qx))]⟩) hl30 rfl ?_ ?_
      ·rintro ⟨x23,l24⟩ o σ rfl h
       replace h:QgO arcs2 x23 l24=some o:=h
       unfold QgO at h
       refine Qa hC [.n 6] rfl tt_ ?_
       rcases bifE h with⟨hc28,h⟩|⟨hc28,h⟩
       ·obtain⟨_,hk29,h⟩:=Qb h
        replace hk29:=chkE hk29
        refine Qa hC [.br true,.n 13,.v (.bd []) [] (.sl 1 (([x23]:List Int).map Qe)),.v (.bd []) [] (.sl 1 (([([x23]:List Int)]:List (List Int)).map Qx)),.app ((l24++([([x23]:List Int)]:List (List Int))).map Qx) (l24++([([x23]:List Int)]:List (List Int))).length,.n 8,.keep [5,42,43] [46]] rfl ⟨⟨⟨⟨tt_,hc28⟩,rfl⟩,rfl⟩,⟨Qf,Qc9 hk29 Qf,Qb9,QeX Qf⟩⟩ ?_
        cases h
        exact rndN rfl rfl
       ·refine Qa hC [.br false,.n 2,.keep [5] [46]] rfl ⟨tt_,hc28⟩ ?_
        cases h
        exact rndX rfl (an_ rfl rfl)
      ·replace h:Qjj l27=some r:=h
       unfold Qjj at h
       rintro e σ ⟨rfl,rfl⟩
       refine Qa hC [.n 2,.ren 46 40005,.keep [5] [40005]] rfl tt_ ?_
       exact AK.met (ex_ _ (an_ rfl h))
     ·refine Qa hC [.br false,.n 6] rfl ⟨tt_,hc21⟩ ?_
      rcases bifE h with⟨hc31,h⟩|⟨hc31,h⟩
      ·refine Qa hC [.br true,.n 6,.adopt 5 74 1,.sayO 74 (.arr 1 (([]:List (List Int)).map Qx)),.say 5 (.own 74 ([]:List (List Int)).length),.keep [1,5,9] [74]] rfl ⟨⟨⟨tt_,hc31⟩,rfl⟩,(congrArg (fun n=>V.own 74 n) (by simp))⟩ ?_
       obtain⟨l37,hl53,h⟩:=Qb h
       refine AK.loop (body:=(fun st=>QgR arcs2 st.1 st.2)) (fun st σ=>σ=⟨[(1,.i .i64 arcs2),(5,.own 74 st.2.length),(9,.i .i64 st.1)],[(74,.arr 1 (st.2.map Qx))]⟩) (fun q e σ=>e=.exit 5∧σ=⟨[(5,.own 74 q.length)],[(74,.arr 1 (q.map Qx))]⟩) hl53 rfl ?_ ?_
       ·rintro ⟨set_33,l34⟩ o σ rfl h
        replace h:QgR arcs2 set_33 l34=some o:=h
        unfold QgR at h
        obtain⟨_,hk38,h⟩:=Qb h
        replace hk38:=chkE hk38
        refine Qa hC [.n 5,.o (.any (.i .i64 (shlI .i64 1 arcs2)) none),.n 3] rfl ⟨tt_,(fun σ h1 h2 _=>Stp.shl rfl rfl (bleN hC.n rfl) (h1 _ _ rfl) (h1 _ _ rfl) (of_decide_eq_true hk38))⟩ ?_
        rcases bifE h with⟨hc39,h⟩|⟨hc39,h⟩
        ·refine Qa hC [.br true,.n 17,.adopt 10 69 1,.sayO 69 (.arr 1 (([]:List Int).map Qe)),.say 10 (.own 69 ([]:List Int).length),.keep [1,5,9,10,60,61] [69,74]] rfl ⟨⟨⟨tt_,hc39⟩,rfl⟩,(congrArg (fun n=>V.own 69 n) (by simp))⟩ ?_
         obtain⟨l45,hl51,h⟩:=Qb h
         refine AK.loop (body:=(fun st=>QgQ arcs2 set_33 st.1 st.2)) (fun st σ=>σ=⟨[(1,.i .i64 arcs2),(5,.own 74 l34.length),(9,.i .i64 set_33),(10,.own 69 st.2.length),(60,.i .i64 arcs2),(61,.i .i64 st.1)],[(69,.arr 1 (st.2.map Qe)),(74,.arr 1 (l34.map Qx))]⟩) (fun q e σ=>e=.exit 7∧σ=⟨[(1,.i .i64 arcs2),(5,.own 74 l34.length),(9,.i .i64 set_33),(10,.own 69 q.length)],[(69,.arr 1 (q.map Qe)),(74,.arr 1 (l34.map Qx))]⟩) hl51 rfl ?_ ?_
         ·rintro ⟨x41,l42⟩ o σ rfl h
          replace h:QgQ arcs2 set_33 x41 l42=some o:=h
          unfold QgQ at h
          refine Qa hC [.n 6] rfl tt_ ?_
          rcases bifE h with⟨hc46,h⟩|⟨hc46,h⟩
          ·refine Qa hC [.br true,.n 2] rfl ⟨tt_,hc46⟩ ?_
           refine AK.meet (fun σ=>∃l47:(List Int),σ=⟨[(1,.i .i64 arcs2),(5,.own 74 l34.length),(9,.i .i64 set_33),(10,.own 69 l47.length),(60,.i .i64 arcs2),(61,.i .i64 x41)],[(69,.arr 1 (l47.map Qe)),(74,.arr 1 (l34.map Qx))]⟩∧QgP x41 l47=some o) ?_ ?_
           ·obtain⟨_,hk48,h⟩:=Qb h
            replace hk48:=chkE hk48
            refine Qa hC [.n 11,.o (.any (.i .i64 (shrI .i64 set_33 x41)) none),.o (.any (.i .i64 (andI .i64 (shrI .i64 set_33 x41) 1)) none),.n 3] rfl ⟨⟨tt_,(fun σ h1 h2 _=>Stp.shr rfl rfl (bleN hC.n rfl) (h1 _ _ rfl) (h1 _ _ rfl) (of_decide_eq_true hk48))⟩,(fun σ h1 h2 _=>Stp.andB rfl rfl (bleN hC.n rfl) (h1 _ _ rfl) (h1 _ _ rfl))⟩ ?_
            rcases bifE h with⟨hc49,h⟩|⟨hc49,h⟩
            ·obtain⟨_,hk50,h⟩:=Qb h
             replace hk50:=chkE hk50
             refine Qa hC [.br true,.n 3,.v (.bd []) [] (.sl 1 (([x41]:List Int).map Qe)),.app ((l42++([x41]:List Int)).map Qe) (l42++([x41]:List Int)).length,.n 3,.keep [1,5,9,10,60,61] [69,74]] rfl ⟨⟨⟨tt_,hc49⟩,rfl⟩,⟨Qf,Qc9 hk50 Qf,Qb9,QeX Qf⟩⟩ ?_
             exact AK.met (ex_ _ (an_ rfl h))
            ·refine Qa hC [.br false,.n 2,.keep [1,5,9,10,60,61] [69,74]] rfl ⟨tt_,hc49⟩ ?_
             exact AK.met (ex_ _ (an_ rfl h))
           ·rintro σ ⟨l47,rfl,h⟩
            unfold QgP at h
            refine Qa hC [.n 4,.keep [1,5,9,10,60,61] [69,74]] rfl tt_ ?_
            cases h
            exact rndN rfl rfl
          ·refine Qa hC [.br false,.n 2,.keep [1,5,9,10] [69,74]] rfl ⟨tt_,hc46⟩ ?_
           cases h
           exact rndX rfl (an_ rfl rfl)
         ·replace h:Qjk l34 set_33 l45=some o:=h
          unfold Qjk at h
          rintro e σ ⟨rfl,rfl⟩
          obtain⟨_,hk52,h⟩:=Qb h
          replace hk52:=chkE hk52
          refine Qa hC [.n 5,.frz 69 (l45.map Qe) [10,75] [],.v (.bd []) [] (.sl 1 (([l45]:List (List Int)).map Qx)),.app ((l34++([l45]:List (List Int))).map Qx) (l34++([l45]:List (List Int))).length,.n 9,.keep [1,5,9] [74]] rfl ⟨⟨⟨tt_,⟨⟨tt_,(frzL Qf)⟩,(frzL Qf)⟩⟩,rfl⟩,⟨Qf,Qc9 hk52 Qf,Qb9,QeX Qf⟩⟩ ?_
          cases h
          exact rndN rfl rfl
        ·refine Qa hC [.br false,.n 2,.keep [5] [74]] rfl ⟨tt_,hc39⟩ ?_
         cases h
         exact rndX rfl (an_ rfl rfl)
       ·replace h:QiG l37=some r:=h
        unfold QiG at h
        rintro e σ ⟨rfl,rfl⟩
        refine Qa hC [.n 2,.ren 74 40005,.keep [5] [40005]] rfl tt_ ?_
        exact AK.met (ex_ _ (an_ rfl h))
      ·refine Qa hC [.br false,.n 2,.adopt 5 40005 1,.sayO 40005 (.arr 1 (([]:List (List Int)).map Qx)),.say 5 (.own 40005 ([]:List (List Int)).length),.keep [5] [40005]] rfl ⟨⟨⟨tt_,hc31⟩,rfl⟩,(congrArg (fun n=>V.own 40005 n) (by simp))⟩ ?_
       exact AK.met (ex_ _ (an_ rfl h))
   ·rintro σ ⟨l10,rfl,h⟩
    unfold Qdn at h
    refine Qa hC [.n 7,.keep [4] [40005],.ren 40005 30000,.keep [4] [30000]] rfl tt_ ?_
    cases h
    exact AK.done (ex_ [_] (an_ (an_ rfl tt_) (gives ⟨rfl,tt_⟩)))
def QkC (n1:TNet)(t2:Qr):Option (TNet×Qr):=
 some (n1,t2)
theorem Qph (n1:TNet)(t2:Qr){r:(TNet×Qr)}(h:QkC n1 t2=some r):Qc Tryz.prog 77 [.agg (Qd n1),.agg (Qh t2)] [] (Gives (.clo (.func 136) [] [.loc 3 0 0,.loc 2 0 0]) [(2,.var (Qd r.1)),(3,.var (Qh r.2))]):=by
 refine Qc.walk 6 Tryz.func77 rfl Tryz.ntmps77 rfl fun C hC=>?_
 unfold QkC at h
 refine Qa hC [.n 14,.keep [4] [2,3]] rfl tt_ ?_
 cases h
 exact AK.done (ex_ [_] (an_ (an_ rfl tt_) (gives ⟨rfl,rfl,tt_⟩)))
def Qar (s1:(List Int)):Option (List Int):=
 (chk (decide (([]:List Int).length+s1.length≤4294967296))).bind fun _=>
 some (([]:List Int)++s1)
theorem QbM (s1:(List Int)){r:(List Int)}(h:Qar s1=some r):Qc Tryz.prog 81 [.sl 1 (s1.map Qe)] [] (Gives (.own 30000 r.length) [(30000,.arr 1 (r.map Qe))]):=by
 refine Qc.walk 8 Tryz.func81 rfl Tryz.ntmps81 rfl fun C hC=>?_
 unfold Qar at h
 refine Qa hC [.n 9] rfl tt_ ?_
 refine AK.eqNil rfl rfl rfl (bleN hC.n rfl) rfl rfl QxH ?_ ?_
 ·intro hz4
  replace h:some ([]:List Int)=some r:=by simpa [chk,List.map_eq_nil_iff.1 hz4] using h
  refine Qa hC [.n 10,.adopt 2 30000 1,.sayO 30000 (.arr 1 (([]:List Int).map Qe)),.say 2 (.own 30000 ([]:List Int).length),.keep [2] [30000]] rfl ⟨⟨tt_,rfl⟩,rfl⟩ ?_
  cases h
  exact AK.done (ex_ [_] (an_ (an_ rfl tt_) (gives ⟨rfl,tt_⟩)))
 ·obtain⟨_,hk5,h⟩:=Qb h
  replace hk5:=chkE hk5
  refine Qa hC [.n 8,.sayO 5 (.arr 1 (([]:List Int).map Qe)),.say 5 (.own 5 ([]:List Int).length),.n 1,.app ((([]:List Int)++s1).map Qe) (([]:List Int)++s1).length,.n 4,.keep [2] [5],.ren 5 30000,.keep [2] [30000]] rfl ⟨⟨⟨tt_,rfl⟩,rfl⟩,⟨Qf,Qc9 hk5 Qf,Qb9,QeX Qf⟩⟩ ?_
  cases h
  exact AK.done (ex_ [_] (an_ (an_ rfl tt_) (gives ⟨rfl,tt_⟩)))
def QhQ (lo1:Int)(hi2:Int):Option Int:=
 bif (decide (hi2<lo1))then
 some 0
 else
 some (w64 ((w64 (min2 (IntKind.u64.wrap ((IntKind.u64.wrap hi2)-(IntKind.u64.wrap lo1))) 1024))+1))
theorem QqG (lo1:Int)(hi2:Int){r:Int}(h:QhQ lo1 hi2=some r):Qc Tryz.prog 264 [.i .i64 lo1,.i .i64 hi2] [] (Gives (.i .i64 r) []):=by
 refine Qc.walk 16 Tryz.func264 rfl Tryz.ntmps264 rfl fun C hC=>?_
 unfold QhQ at h
 refine Qa hC [.n 13] rfl tt_ ?_
 rcases bifE h with⟨hc5,h⟩|⟨hc5,h⟩
 ·refine Qa hC [.br true,.n 7,.keep [4] []] rfl ⟨tt_,hc5⟩ ?_
  cases h
  exact AK.done (ex_ [_] (an_ (an_ rfl tt_) (gives tt_)))
 ·refine Qa hC [.br false,.n 5,.o (.any (.i .u64 (IntKind.u64.wrap hi2)) none),.n 1,.o (.any (.i .u64 (IntKind.u64.wrap lo1)) none),.n 2,.o (.any (.i .i64 (w64 (min2 (IntKind.u64.wrap ((IntKind.u64.wrap hi2)-(IntKind.u64.wrap lo1))) 1024))) none),.n 5,.keep [4] []] rfl ⟨⟨⟨⟨tt_,hc5⟩,(fun σ h1 h2 _=>Stp.convI rfl rfl (bleN hC.n rfl) (h1 _ _ rfl) it_3 Qpg)⟩,(fun σ h1 h2 _=>Stp.convI rfl rfl (bleN hC.n rfl) (h1 _ _ rfl) it_3 Qpg)⟩,(fun σ h1 h2 _=>Stp.convI rfl rfl (bleN hC.n rfl) (h1 _ _ rfl) Qpg it_3)⟩ ?_
  cases h
  exact AK.done (ex_ [_] (an_ (an_ rfl tt_) (gives tt_)))
def Qee (c1:Int):Option Bool:=
 some (bif (decide (97≤c1))then((decide (c1≤122))||((decide (65≤c1))&&(decide (c1≤90))))else((decide (65≤c1))&&(decide (c1≤90))))
theorem QlE (c1:Int){r:Bool}(h:Qee c1=some r):Qc Tryz.prog 251 [.i .u8 c1] [] (Gives (.b r) []):=by
 refine Qc.walk 17 Tryz.func251 rfl Tryz.ntmps251 rfl fun C hC=>?_
 unfold Qee at h
 refine Qa hC [.n 6] rfl tt_ ?_
 refine AK.meetX (fun σ=>σ=⟨[(2,.b (bif (decide (97≤c1))then((decide (c1≤122))||((decide (65≤c1))&&(decide (c1≤90))))else((decide (65≤c1))&&(decide (c1≤90)))))],[]⟩) ?_ ?_
 ·refine Qa hC [.n 4] rfl tt_ ?_
  rcases QJ (decide (97≤c1))with hc4 | hc4
  ·refine Qa hC [.say 5 (.b true),.n 4] rfl ⟨tt_,(congrArg V.b hc4)⟩ ?_
   rcases QJ (decide (c1≤122))with hc5 | hc5
   ·refine Qa hC [.say 9 (.b true),.n 9,.say 2 (.b (bif (decide (97≤c1))then((decide (c1≤122))||((decide (65≤c1))&&(decide (c1≤90))))else((decide (65≤c1))&&(decide (c1≤90))))),.keep [2] []] rfl ⟨⟨tt_,(congrArg V.b hc5)⟩,(congrArg V.b (bifT hc4 (orT hc5 rfl)))⟩ ?_
    exact AK.met rfl
   ·refine Qa hC [.say 9 (.b false),.n 3] rfl ⟨tt_,(congrArg V.b hc5)⟩ ?_
    rcases QJ (decide (65≤c1))with hc6 | hc6
    ·refine Qa hC [.say 12 (.b true),.n 6,.say 2 (.b (bif (decide (97≤c1))then((decide (c1≤122))||((decide (65≤c1))&&(decide (c1≤90))))else((decide (65≤c1))&&(decide (c1≤90))))),.keep [2] []] rfl ⟨⟨tt_,(congrArg V.b hc6)⟩,(congrArg V.b (bifT hc4 (orF hc5 (andT hc6 rfl))))⟩ ?_
     exact AK.met rfl
    ·refine Qa hC [.say 12 (.b false),.n 6,.say 2 (.b (bif (decide (97≤c1))then((decide (c1≤122))||((decide (65≤c1))&&(decide (c1≤90))))else((decide (65≤c1))&&(decide (c1≤90))))),.keep [2] []] rfl ⟨⟨tt_,(congrArg V.b hc6)⟩,(congrArg V.b (bifT hc4 (orF hc5 (andF hc6 rfl))))⟩ ?_
     exact AK.met rfl
  ·refine Qa hC [.say 5 (.b false),.n 7] rfl ⟨tt_,(congrArg V.b hc4)⟩ ?_
   rcases QJ (decide (65≤c1))with hc7 | hc7
   ·refine Qa hC [.say 12 (.b true),.n 6,.say 2 (.b (bif (decide (97≤c1))then((decide (c1≤122))||((decide (65≤c1))&&(decide (c1≤90))))else((decide (65≤c1))&&(decide (c1≤90))))),.keep [2] []] rfl ⟨⟨tt_,(congrArg V.b hc7)⟩,(congrArg V.b (bifF hc4 (andT hc7 rfl)))⟩ ?_
    exact AK.met rfl
   ·refine Qa hC [.say 12 (.b false),.n 6,.say 2 (.b (bif (decide (97≤c1))then((decide (c1≤122))||((decide (65≤c1))&&(decide (c1≤90))))else((decide (65≤c1))&&(decide (c1≤90))))),.keep [2] []] rfl ⟨⟨tt_,(congrArg V.b hc7)⟩,(congrArg V.b (bifF hc4 (andF hc7 rfl)))⟩ ?_
    exact AK.met rfl
 ·rintro σ rfl
  refine Qa hC [.n 2,.keep [2] []] rfl tt_ ?_
  cases h
  exact AK.done (ex_ [_] (an_ (an_ rfl tt_) (gives tt_)))
def Qj7 (s1:ByteArray):Option Bool:=
 bif (Qhu s1 (⟨#[]⟩:ByteArray))then
 some true
 else
 bif (decide (32<(s1.size:Int)))then
 some true
 else
 (sidx s1 0).bind fun c8=>
 (Qee c8).bind fun x9=>
 some (!x9)
def Qj8 (c14:Int):Option Bool:=
 (Qee c14).bind fun x17=>
 bif (!x17)then
 bif (decide (c14<48))then
 some (c14 != 95)
 else
 bif (decide (57<c14))then
 some (c14 != 95)
 else
 some false
 else
 some false
def Qfp (x11:Int)(x15:Bool):Option (Int⊕(Unit⊕Unit)):=
 bif x15 then
 some (.inr (.inl ()))
 else
 some (.inl (w64 (x11+1)))
def QdK (s1:ByteArray)(x11:Int):Option (Int⊕(Unit⊕Unit)):=
 bif (decide (x11<(s1.size:Int)))then
 (sidx s1 x11).bind fun c14=>
 (Qj8 c14).bind (fun x15=>Qfp x11 x15)
 else
 some (.inr (.inr ()))
def Qfq : Option Bool:=
 some false
def Qfr : Option Bool:=
 some true
def Qfs (s1:ByteArray)(x4:Bool):Option Bool:=
 bif x4 then
 some false
 else
 (QC (fun st=>QdK s1 st) 0).bind (Sum.elim (fun q=>Qfq) (fun q=>Qfr))
def Qet (s1:ByteArray):Option Bool:=
 (Qj7 s1).bind (fun x4=>Qfs s1 x4)
theorem Qj9 (s1:ByteArray){r:Bool}(h:Qet s1=some r):Qc Tryz.prog 208 [.s s1] [] (Gives (.b r) []):=by
 refine Qc.walk 42 Tryz.func208 rfl Tryz.ntmps208 rfl fun C hC=>?_
 unfold Qet at h
 refine Qa hC [.n 7] rfl tt_ ?_
 obtain⟨x4,hv5,h⟩:=Qb h
 replace h:Qfs s1 x4=some r:=h
 refine AK.meetX (fun σ=>σ=⟨[(0,.s s1),(17,.b x4)],[]⟩) ?_ ?_
 ·replace h:=hv5
  unfold Qj7 at h
  refine Qa hC [.n 4] rfl tt_ ?_
  rcases bifE h with⟨hc6,h⟩|⟨hc6,h⟩
  ·refine Qa hC [.say 7 (.b true),.n 11,.keep [0,17] []] rfl ⟨tt_,(congrArg V.b hc6)⟩ ?_
   cases h
   exact AK.met rfl
  ·refine Qa hC [.say 7 (.b false),.n 5] rfl ⟨tt_,(congrArg V.b hc6)⟩ ?_
   rcases bifE h with⟨hc7,h⟩|⟨hc7,h⟩
   ·refine Qa hC [.say 12 (.b true),.n 6,.keep [0,17] []] rfl ⟨tt_,(congrArg V.b hc7)⟩ ?_
    cases h
    exact AK.met rfl
   ·obtain⟨c8,hc8,h⟩:=Qb h
    obtain⟨x9,hx9,h⟩:=Qb h
    refine Qa hC [.say 12 (.b false),.n 1,.o (.num c8),.o (.c false [.d] (.b x9)),.n 3,.keep [0,17] []] rfl ⟨⟨⟨tt_,(congrArg V.b hc7)⟩,hc8⟩,(QlE _ hx9)⟩ ?_
    cases h
    exact AK.met rfl
 ·rintro σ rfl
  replace h:Qfs s1 x4=some r:=h
  unfold Qfs at h
  refine Qa hC [.n 1] rfl tt_ ?_
  rcases bifE h with⟨hc10,h⟩|⟨hc10,h⟩
  ·refine Qa hC [.br true,.n 7,.keep [2] []] rfl ⟨tt_,hc10⟩ ?_
   cases h
   exact AK.done (ex_ [_] (an_ (an_ rfl tt_) (gives tt_)))
  ·refine Qa hC [.br false,.n 11,.keep [0,19,20] []] rfl ⟨tt_,hc10⟩ ?_
   obtain⟨o22,hl22,h⟩:=Qb h
   refine AK.loop (body:=(fun st=>QdK s1 st)) (fun st σ=>σ=⟨[(0,.s s1),(19,.i .i64 (s1.size:Int)),(20,.i .i64 st)],[]⟩) (Sum.elim (fun q e σ=>e=.ret∧σ=⟨[(2,.b false)],[]⟩) (fun q e σ=>e=.exit 0∧σ=⟨[],[]⟩)) hl22 rfl ?_ ?_
   ·rintro x11 o σ rfl h
    replace h:QdK s1 x11=some o:=h
    unfold QdK at h
    refine Qa hC [.n 6] rfl tt_ ?_
    rcases bifE h with⟨hc13,h⟩|⟨hc13,h⟩
    ·obtain⟨c14,hc14,h⟩:=Qb h
     refine Qa hC [.br true,.n 14,.o (.num c14),.n 4] rfl ⟨⟨tt_,hc13⟩,hc14⟩ ?_
     obtain⟨x15,hv16,h⟩:=Qb h
     replace h:Qfp x11 x15=some o:=h
     refine AK.meetX (fun σ=>σ=⟨[(0,.s s1),(19,.i .i64 (s1.size:Int)),(20,.i .i64 x11),(40,.b x15)],[]⟩) ?_ ?_
     ·replace h:=hv16
      unfold Qj8 at h
      obtain⟨x17,hx17,h⟩:=Qb h
      refine Qa hC [.n 2,.o (.c false [.d] (.b x17)),.n 2] rfl ⟨tt_,(QlE _ hx17)⟩ ?_
      rcases bifE h with⟨hc18,h⟩|⟨hc18,h⟩
      ·refine Qa hC [.say 29 (.b true),.n 3] rfl ⟨tt_,(congrArg V.b hc18)⟩ ?_
       rcases bifE h with⟨hc19,h⟩|⟨hc19,h⟩
       ·refine Qa hC [.say 32 (.b true),.n 9,.keep [0,19,20,40] []] rfl ⟨tt_,(congrArg V.b hc19)⟩ ?_
        cases h
        exact AK.met rfl
       ·refine Qa hC [.say 32 (.b false),.n 5] rfl ⟨tt_,(congrArg V.b hc19)⟩ ?_
        rcases bifE h with⟨hc20,h⟩|⟨hc20,h⟩
        ·refine Qa hC [.say 37 (.b true),.n 4,.keep [0,19,20,40] []] rfl ⟨tt_,(congrArg V.b hc20)⟩ ?_
         cases h
         exact AK.met rfl
        ·refine Qa hC [.say 37 (.b false),.n 4,.keep [0,19,20,40] []] rfl ⟨tt_,(congrArg V.b hc20)⟩ ?_
         cases h
         exact AK.met rfl
      ·refine Qa hC [.say 29 (.b false),.n 12,.keep [0,19,20,40] []] rfl ⟨tt_,(congrArg V.b hc18)⟩ ?_
       cases h
       exact AK.met rfl
     ·rintro σ rfl
      replace h:Qfp x11 x15=some o:=h
      unfold Qfp at h
      refine Qa hC [.n 1] rfl tt_ ?_
      rcases bifE h with⟨hc21,h⟩|⟨hc21,h⟩
      ·refine Qa hC [.br true,.n 8,.keep [2] []] rfl ⟨tt_,hc21⟩ ?_
       cases h
       exact rndR rfl (an_ rfl rfl)
      ·refine Qa hC [.br false,.n 7,.keep [0,19,20] []] rfl ⟨tt_,hc21⟩ ?_
       cases h
       exact rndN rfl rfl
    ·refine Qa hC [.br false,.n 2,.keep [] []] rfl ⟨tt_,hc13⟩ ?_
     cases h
     exact rndX rfl (an_ rfl rfl)
   ·rcases o22 with(_ | _)
    ·replace h:Qfq=some r:=h
     unfold Qfq at h
     rintro e σ ⟨rfl,rfl⟩
     refine Qa hC [.n 2,.keep [2] []] rfl tt_ ?_
     cases h
     exact AK.done (ex_ [_] (an_ (an_ rfl tt_) (gives tt_)))
    ·replace h:Qfr=some r:=h
     unfold Qfr at h
     rintro e σ ⟨rfl,rfl⟩
     refine Qa hC [.n 8,.keep [2] []] rfl tt_ ?_
     cases h
     exact AK.done (ex_ [_] (an_ (an_ rfl tt_) (gives tt_)))
def Qjm (e10:ByteArray)(m6:QSB):Option Bool:=
 (Qet e10).bind fun x13=>
 bif (!x13)then
 some true
 else
 some ((mget m6 e10).getD false)
def Qey (x5:Int)(m6:QSB)(e10:ByteArray)(x11:Bool):Option ((Int×QSB)⊕(Unit⊕Unit)):=
 bif x11 then
 some (.inr (.inl ()))
 else
 some (.inl ((w64 (x5+1)),(mset ltS m6 e10 true)))
def Qdo (l1:(List ByteArray))(x5:Int)(m6:QSB):Option ((Int×QSB)⊕(Unit⊕Unit)):=
 bif (decide (x5<(l1.length:Int)))then
 (idx l1 x5).bind fun e10=>
 (Qjm e10 m6).bind (fun x11=>Qey x5 m6 e10 x11)
 else
 some (.inr (.inr ()))
def Qez : Option Bool:=
 some false
def QeA : Option Bool:=
 some true
def Qg0 (l1:(List ByteArray)):Option Bool:=
 (QC (fun st=>Qdo l1 st.1 st.2) (0,([]:QSB))).bind (Sum.elim (fun q=>Qez) (fun q=>QeA))
theorem QpZ (l1:(List ByteArray)){r:Bool}(h:Qg0 l1=some r):Qc Tryz.prog 265 [.sl 1 (l1.map Qdx)] [] (Gives (.b r) []):=by
 refine Qc.walk 24 Tryz.func265 rfl Tryz.ntmps265 rfl fun C hC=>?_
 unfold Qg0 at h
 refine Qa hC [.n 8,.sayO 6 (.map (mapV V.s V.b ([]:QSB))),.n 7,.o (.ln l1.length),.n 4,.keep [3,7,8,9] [6]] rfl ⟨⟨tt_,rfl⟩,Qf⟩ ?_
 obtain⟨o16,hl16,h⟩:=Qb h
 refine AK.loop (body:=(fun st=>Qdo l1 st.1 st.2)) (fun st σ=>σ=⟨[(3,.map 6),(7,.sl 1 (l1.map Qdx)),(8,.i .i64 (l1.length:Int)),(9,.i .i64 st.1)],[(6,.map (mapV V.s V.b st.2))]⟩) (Sum.elim (fun q e σ=>e=.ret∧σ=⟨[(2,.b false)],[]⟩) (fun q e σ=>e=.exit 0∧σ=⟨[],[]⟩)) hl16 rfl ?_ ?_
 ·rintro ⟨x5,m6⟩ o σ rfl h
  replace h:Qdo l1 x5 m6=some o:=h
  unfold Qdo at h
  refine Qa hC [.n 6] rfl tt_ ?_
  rcases bifE h with⟨hc9,h⟩|⟨hc9,h⟩
  ·obtain⟨e10,he10,h⟩:=Qb h
   refine Qa hC [.br true,.n 6,.o (.row (Qdx e10)),.n 6] rfl ⟨⟨tt_,hc9⟩,(idxM he10)⟩ ?_
   obtain⟨x11,hv12,h⟩:=Qb h
   replace h:Qey x5 m6 e10 x11=some o:=h
   refine AK.meetX (fun σ=>σ=⟨[(3,.map 6),(5,.s e10),(7,.sl 1 (l1.map Qdx)),(8,.i .i64 (l1.length:Int)),(9,.i .i64 x5),(20,.b x11)],[(6,.map (mapV V.s V.b m6))]⟩) ?_ ?_
   ·replace h:=hv12
    unfold Qjm at h
    obtain⟨x13,hx13,h⟩:=Qb h
    refine Qa hC [.n 2,.o (.c false [.d] (.b x13)),.n 2] rfl ⟨tt_,(Qj9 _ hx13)⟩ ?_
    rcases bifE h with⟨hc14,h⟩|⟨hc14,h⟩
    ·refine Qa hC [.say 16 (.b true),.n 5,.keep [3,5,7,8,9,20] [6]] rfl ⟨tt_,(congrArg V.b hc14)⟩ ?_
     cases h
     exact AK.met rfl
    ·refine Qa hC [.say 16 (.b false),.n 2,.o (.any (.b ((mget m6 e10).getD false)) none),.n 2,.keep [3,5,7,8,9,20] [6]] rfl ⟨⟨tt_,(congrArg V.b hc14)⟩,(fun σ h1 h2 _=>Stp.lookup (e:=V.s) (f:=V.b) (l:=m6) (k:=e10) (z:=false) rfl rfl (bleN hC.n rfl) (h1 _ _ rfl) (h2 _ _ rfl) (h1 _ _ rfl) Qok ky_9 zi_4 rfl)⟩ ?_
     cases h
     exact AK.met rfl
   ·rintro σ rfl
    replace h:Qey x5 m6 e10 x11=some o:=h
    unfold Qey at h
    refine Qa hC [.n 1] rfl tt_ ?_
    rcases bifE h with⟨hc15,h⟩|⟨hc15,h⟩
    ·refine Qa hC [.br true,.n 9,.keep [2] []] rfl ⟨tt_,hc15⟩ ?_
     cases h
     exact rndR rfl (an_ rfl rfl)
    ·refine Qa hC [.br false,.n 5,.x (fun σ=>σ.set 6 (.map (mapV V.s V.b (mset ltS m6 e10 true)))),.n 7,.keep [3,7,8,9] [6]] rfl ⟨⟨tt_,hc15⟩,(Stp.mapUpdate (e:=V.s) (f:=V.b) (l:=m6) (k:=e10) (v:=true) ltS rfl rfl rfl rfl rfl rfl Qok ky_9 rfl)⟩ ?_
     cases h
     exact rndN rfl rfl
  ·refine Qa hC [.br false,.n 2,.keep [] []] rfl ⟨tt_,hc9⟩ ?_
   cases h
   exact rndX rfl (an_ rfl rfl)
 ·rcases o16 with(_ | _)
  ·replace h:Qez=some r:=h
   unfold Qez at h
   rintro e σ ⟨rfl,rfl⟩
   refine Qa hC [.n 2,.keep [2] []] rfl tt_ ?_
   cases h
   exact AK.done (ex_ [_] (an_ (an_ rfl tt_) (gives tt_)))
  ·replace h:QeA=some r:=h
   unfold QeA at h
   rintro e σ ⟨rfl,rfl⟩
   refine Qa hC [.n 8,.keep [2] []] rfl tt_ ?_
   cases h
   exact AK.done (ex_ [_] (an_ (an_ rfl tt_) (gives tt_)))
def QbY : Option Int:=
 some 0
def QhR (c1:Qy)(ahead2:(List Int)):Option Int:=
 bif (c1.Kind==1)then
 (QhQ c1.Lo c1.Hi).bind fun x6=>
 some x6
 else
 bif (c1.Kind==2)then
 (Qg0 c1.Names).bind fun x8=>
 bif x8 then
 some (c1.Names.length:Int)
 else
 QbY
 else
 bif (c1.Kind==3)then
 bif ((decide (0≤(min2 c1.First c1.Then)))&&(decide ((max2 c1.First c1.Then)<(ahead2.length:Int))))then
 (idx ahead2 c1.First).bind fun e14=>
 (idx ahead2 c1.Then).bind fun e15=>
 some (w64 (e14*e15))
 else
 QbY
 else
 QbY
theorem QqH (c1:Qy)(ahead2:(List Int)){r:Int}(h:QhR c1 ahead2=some r):Qc Tryz.prog 254 [.agg (Qu c1),.sl 1 (ahead2.map Qe)] [] (Gives (.i .i64 r) []):=by
 refine Qc.walk 51 Tryz.func254 rfl Tryz.ntmps254 rfl fun C hC=>?_
 unfold QhR at h
 refine Qa hC [.n 6] rfl tt_ ?_
 refine AK.meet (fun σ=>σ=⟨[],[]⟩∧QbY=some r) ?_ ?_
 ·refine Qa hC [.n 13] rfl tt_ ?_
  rcases bifE h with⟨hc5,h⟩|⟨hc5,h⟩
  ·obtain⟨x6,hx6,h⟩:=Qb h
   refine Qa hC [.br true,.n 6,.o (.c false [.d,.d] (.i .i64 x6)),.n 6,.keep [4] []] rfl ⟨⟨tt_,hc5⟩,(QqG _ _ hx6)⟩ ?_
   cases h
   exact AK.done (ex_ [_] (an_ (an_ rfl tt_) (gives tt_)))
  ·refine Qa hC [.br false,.n 6] rfl ⟨tt_,hc5⟩ ?_
   rcases bifE h with⟨hc7,h⟩|⟨hc7,h⟩
   ·obtain⟨x8,hx8,h⟩:=Qb h
    refine Qa hC [.br true,.n 4,.o (.c false [.d] (.b x8)),.n 2] rfl ⟨⟨tt_,hc7⟩,(QpZ _ hx8)⟩ ?_
    rcases bifE h with⟨hc9,h⟩|⟨hc9,h⟩
    ·refine Qa hC [.br true,.n 4,.o (.ln c1.Names.length),.n 6,.keep [4] []] rfl ⟨⟨tt_,hc9⟩,Qf⟩ ?_
     cases h
     exact AK.done (ex_ [_] (an_ (an_ rfl tt_) (gives tt_)))
    ·refine Qa hC [.br false,.n 2,.keep [] []] rfl ⟨tt_,hc9⟩ ?_
     exact AK.met (an_ rfl h)
   ·refine Qa hC [.br false,.n 6] rfl ⟨tt_,hc7⟩ ?_
    rcases bifE h with⟨hc10,h⟩|⟨hc10,h⟩
    ·refine Qa hC [.br true,.n 1] rfl ⟨tt_,hc10⟩ ?_
     refine AK.meetX (fun σ=>σ=⟨[(1,.sl 1 (ahead2.map Qe)),(2,.loc 2 0 0),(39,.b ((decide (0≤(min2 c1.First c1.Then)))&&(decide ((max2 c1.First c1.Then)<(ahead2.length:Int)))))],[(2,.var (Qu c1))]⟩) ?_ ?_
     ·refine Qa hC [.n 8] rfl tt_ ?_
      rcases QJ (decide (0≤(min2 c1.First c1.Then)))with hc12 | hc12
      ·refine Qa hC [.say 30 (.b true),.n 6,.o (.ln ahead2.length),.n 3,.say 39 (.b ((decide (0≤(min2 c1.First c1.Then)))&&(decide ((max2 c1.First c1.Then)<(ahead2.length:Int))))),.keep [1,2,39] [2]] rfl ⟨⟨⟨tt_,(congrArg V.b hc12)⟩,Qf⟩,(congrArg V.b (andT hc12 rfl))⟩ ?_
       exact AK.met rfl
      ·refine Qa hC [.say 30 (.b false),.n 10,.say 39 (.b ((decide (0≤(min2 c1.First c1.Then)))&&(decide ((max2 c1.First c1.Then)<(ahead2.length:Int))))),.keep [1,2,39] [2]] rfl ⟨⟨tt_,(congrArg V.b hc12)⟩,(congrArg V.b (andF hc12 rfl))⟩ ?_
       exact AK.met rfl
     ·rintro σ rfl
      refine Qa hC [.n 1] rfl tt_ ?_
      rcases bifE h with⟨hc13,h⟩|⟨hc13,h⟩
      ·obtain⟨e14,he14,h⟩:=Qb h
       obtain⟨e15,he15,h⟩:=Qb h
       refine Qa hC [.br true,.n 1,.keep [1,2] [2]] rfl ⟨tt_,hc13⟩ ?_
       refine AK.draw2 Qo hC mixed [.a .no none false,.a .no none false,.a .no none false,.a (.row (Qe e14)) none false,.a .no none false,.a .no none false,.a .no none false,.a .no none false,.a (.row (Qe e15)) none false,.a .no none false,.a .no none false,.a .no none false] [] [] [4] [] rfl rfl rfl ⟨⟨tt_,(idxM he14)⟩,(idxM he15)⟩ rfl (by kernel_rfl) rfl rfl rfl ?_
       refine Qa hC [.n 4,.keep [4] []] rfl tt_ ?_
       cases h
       exact AK.done (ex_ [_] (an_ (an_ rfl tt_) (gives tt_)))
      ·refine Qa hC [.br false,.n 2,.keep [] []] rfl ⟨tt_,hc13⟩ ?_
       exact AK.met (an_ rfl h)
    ·refine Qa hC [.br false,.n 2,.keep [] []] rfl ⟨tt_,hc10⟩ ?_
     exact AK.met (an_ rfl h)
 ·rintro σ ⟨rfl,h⟩
  unfold QbY at h
  refine Qa hC [.n 6,.keep [4] []] rfl tt_ ?_
  cases h
  exact AK.done (ex_ [_] (an_ (an_ rfl tt_) (gives tt_)))
def Qjn (e16:Qy)(m9:QSB)(x17:Int):Option Bool:=
 (Qet e16.Name).bind fun x20=>
 bif (!x20)then
 some true
 else
 bif ((mget m9 e16.Name).getD false)then
 some true
 else
 bif (decide (x17<1))then
 some true
 else
 some (decide (1024<x17))
def QeB (l10:(List Int))(x17:Int)(x8:Int)(m9:QSB)(e16:Qy)(x18:Bool):Option ((Int×QSB×(List Int))⊕(Unit⊕(List Int))):=
 bif x18 then
 some (.inr (.inl ()))
 else
 (chk (decide (l10.length+([x17]:List Int).length≤4294967296))).bind fun _=>
 some (.inl ((w64 (x8+1)),(mset ltS m9 e16.Name true),(l10++([x17]:List Int))))
def Qdp (l1:(List Qy))(x8:Int)(m9:QSB)(l10:(List Int)):Option ((Int×QSB×(List Int))⊕(Unit⊕(List Int))):=
 bif (decide (x8<(l1.length:Int)))then
 (idx l1 x8).bind fun e16=>
 (QhR e16 l10).bind fun x17=>
 (Qjn e16 m9 x17).bind (fun x18=>QeB l10 x17 x8 m9 e16 x18)
 else
 some (.inr (.inr l10))
def Qjo : Option ((List Int)×Bool):=
 some (([]:List Int),false)
def Qjp (l14:(List Int)):Option ((List Int)×Bool):=
 some (l14,true)
def Qe6 (l1:(List Qy)):Option ((List Int)×Bool):=
 bif (decide (32<(l1.length:Int)))then
 some (([]:List Int),false)
 else
 (QC (fun st=>Qdp l1 st.1 st.2.1 st.2.2) (0,([]:QSB),([]:List Int))).bind (Sum.elim (fun q=>Qjo) (fun q=>Qjp q))
theorem Ql0 (l1:(List Qy)){r:((List Int)×Bool)}(h:Qe6 l1=some r):Qc Tryz.prog 211 [.sl 7 (l1.map Qu)] [] (Gives (.tup [.sl 1 (r.1.map Qe),.b r.2]) []):=by
 refine Qc.walk 49 Tryz.func211 rfl Tryz.ntmps211 rfl fun C hC=>?_
 unfold Qe6 at h
 refine Qa hC [.n 10,.o (.ln l1.length),.n 3] rfl ⟨tt_,Qf⟩ ?_
 rcases bifE h with⟨hc6,h⟩|⟨hc6,h⟩
 ·refine Qa hC [.br true,.n 8,.denil 2 [some 1],.keep [2,3] []] rfl ⟨tt_,hc6⟩ ?_
  cases h
  exact AK.done (ex_ [_,_] (an_ (an_ rfl (an_ rfl tt_)) (gives tt_)))
 ·refine Qa hC [.br false,.n 5,.sayO 12 (.map (mapV V.s V.b ([]:QSB))),.n 12,.o (.ln l1.length),.n 4,.adopt 5 43 1,.sayO 43 (.arr 1 (([]:List Int).map Qe)),.say 5 (.own 43 ([]:List Int).length),.keep [4,5,13,14,15] [12,43]] rfl ⟨⟨⟨⟨⟨tt_,hc6⟩,rfl⟩,Qf⟩,rfl⟩,(congrArg (fun n=>V.own 43 n) (by simp))⟩ ?_
  obtain⟨o26,hl26,h⟩:=Qb h
  refine AK.loop (body:=(fun st=>Qdp l1 st.1 st.2.1 st.2.2)) (fun st σ=>σ=⟨[(4,.map 12),(5,.own 43 st.2.2.length),(13,.sl 7 (l1.map Qu)),(14,.i .i64 (l1.length:Int)),(15,.i .i64 st.1)],[(12,.map (mapV V.s V.b st.2.1)),(43,.arr 1 (st.2.2.map Qe))]⟩) (Sum.elim (fun q e σ=>e=.ret∧σ=⟨[(2,.lit (.slice none 0 0)),(3,.b false)],[]⟩) (fun q e σ=>e=.exit 0∧σ=⟨[(5,.own 43 q.length)],[(43,.arr 1 (q.map Qe))]⟩)) hl26 rfl ?_ ?_
  ·rintro ⟨x8,m9,l10⟩ o σ rfl h
   replace h:Qdp l1 x8 m9 l10=some o:=h
   unfold Qdp at h
   refine Qa hC [.n 6] rfl tt_ ?_
   rcases bifE h with⟨hc15,h⟩|⟨hc15,h⟩
   ·obtain⟨e16,he16,h⟩:=Qb h
    obtain⟨x17,hx17,h⟩:=Qb h
    refine Qa hC [.br true,.n 6,.o (.row (Qu e16)),.v .no [] (.agg (Qu e16)),.n 2,.sayO 7 (.var (Qu e16)),.n 4,.v .no [] (.agg (Qu e16)),.n 1,.o (.c true [.d,.o (l10.map Qe)] (.i .i64 x17)),.n 5] rfl ⟨⟨⟨⟨⟨⟨tt_,hc15⟩,(idxM he16)⟩,rfl⟩,rfl⟩,rfl⟩,⟨(QpT rfl),(QqH _ _ hx17)⟩⟩ ?_
    obtain⟨x18,hv19,h⟩:=Qb h
    replace h:QeB l10 x17 x8 m9 e16 x18=some o:=h
    refine AK.meetX (fun σ=>σ=⟨[(4,.map 12),(5,.own 43 l10.length),(7,.loc 7 0 0),(8,.i .i64 x17),(13,.sl 7 (l1.map Qu)),(14,.i .i64 (l1.length:Int)),(15,.i .i64 x8),(39,.b x18)],[(7,.var (Qu e16)),(12,.map (mapV V.s V.b m9)),(43,.arr 1 (l10.map Qe))]⟩) ?_ ?_
    ·replace h:=hv19
     unfold Qjn at h
     obtain⟨x20,hx20,h⟩:=Qb h
     refine Qa hC [.n 3,.o (.c false [.d] (.b x20)),.n 2] rfl ⟨tt_,(Qj9 _ hx20)⟩ ?_
     rcases bifE h with⟨hc21,h⟩|⟨hc21,h⟩
     ·refine Qa hC [.say 26 (.b true),.n 14,.keep [4,5,7,8,13,14,15,39] [7,12,43]] rfl ⟨tt_,(congrArg V.b hc21)⟩ ?_
      cases h
      exact AK.met rfl
     ·refine Qa hC [.say 26 (.b false),.n 3,.o (.any (.b ((mget m9 e16.Name).getD false)) none),.n 2] rfl ⟨⟨tt_,(congrArg V.b hc21)⟩,(fun σ h1 h2 _=>Stp.lookup (e:=V.s) (f:=V.b) (l:=m9) (k:=e16.Name) (z:=false) rfl rfl (bleN hC.n rfl) (h1 _ _ rfl) (h2 _ _ rfl) (h1 _ _ rfl) Qok ky_9 zi_4 rfl)⟩ ?_
      rcases bifE h with⟨hc22,h⟩|⟨hc22,h⟩
      ·refine Qa hC [.say 32 (.b true),.n 8,.keep [4,5,7,8,13,14,15,39] [7,12,43]] rfl ⟨tt_,(congrArg V.b hc22)⟩ ?_
       cases h
       exact AK.met rfl
      ·refine Qa hC [.say 32 (.b false),.n 4] rfl ⟨tt_,(congrArg V.b hc22)⟩ ?_
       rcases bifE h with⟨hc23,h⟩|⟨hc23,h⟩
       ·refine Qa hC [.say 36 (.b true),.n 4,.keep [4,5,7,8,13,14,15,39] [7,12,43]] rfl ⟨tt_,(congrArg V.b hc23)⟩ ?_
        cases h
        exact AK.met rfl
       ·refine Qa hC [.say 36 (.b false),.n 4,.keep [4,5,7,8,13,14,15,39] [7,12,43]] rfl ⟨tt_,(congrArg V.b hc23)⟩ ?_
        cases h
        exact AK.met rfl
    ·rintro σ rfl
     replace h:QeB l10 x17 x8 m9 e16 x18=some o:=h
     unfold QeB at h
     refine Qa hC [.n 1] rfl tt_ ?_
     rcases bifE h with⟨hc24,h⟩|⟨hc24,h⟩
     ·refine Qa hC [.br true,.n 10,.keep [2,3] []] rfl ⟨tt_,hc24⟩ ?_
      cases h
      exact rndR rfl (an_ rfl rfl)
     ·obtain⟨_,hk25,h⟩:=Qb h
      replace hk25:=chkE hk25
      refine Qa hC [.br false,.n 7,.x (fun σ=>σ.set 12 (.map (mapV V.s V.b (mset ltS m9 e16.Name true)))),.n 5,.v (.bd []) [] (.sl 1 (([x17]:List Int).map Qe)),.app ((l10++([x17]:List Int)).map Qe) (l10++([x17]:List Int)).length,.n 8,.keep [4,5,13,14,15] [12,43]] rfl ⟨⟨⟨⟨tt_,hc24⟩,(Stp.mapUpdate (e:=V.s) (f:=V.b) (l:=m9) (k:=e16.Name) (v:=true) ltS rfl rfl rfl rfl rfl rfl Qok ky_9 rfl)⟩,rfl⟩,⟨Qf,Qc9 hk25 Qf,Qb9,QeX Qf⟩⟩ ?_
      cases h
      exact rndN rfl rfl
   ·refine Qa hC [.br false,.n 2,.keep [5] [43]] rfl ⟨tt_,hc15⟩ ?_
    cases h
    exact rndX rfl (an_ rfl rfl)
  ·rcases o26 with(_ | l14)
   ·replace h:Qjo=some r:=h
    unfold Qjo at h
    rintro e σ ⟨rfl,rfl⟩
    refine Qa hC [.n 2,.denil 2 [some 1],.keep [2,3] []] rfl tt_ ?_
    cases h
    exact AK.done (ex_ [_,_] (an_ (an_ rfl (an_ rfl tt_)) (gives tt_)))
   ·replace h:Qjp l14=some r:=h
    unfold Qjp at h
    rintro e σ ⟨rfl,rfl⟩
    refine Qa hC [.n 10,.frz 43 (l14.map Qe) [2] [],.keep [2,3] []] rfl ⟨tt_,⟨tt_,(frzL Qf)⟩⟩ ?_
    cases h
    exact AK.done (ex_ [_,_] (an_ (an_ rfl (an_ rfl tt_)) (gives tt_)))
def QdS (l1:(List Qy))(k2:Int):Option (Bool×Qae):=
 (Qe6 l1).bind fun x7=>
 bif ((!x7.2)||((decide (k2<0))||(decide ((l1.length:Int)≤k2))))then
 some (false,(Qae.mk ([]:(List Qy)) ([]:(List Int)) 0))
 else
 some (true,(Qae.mk l1 x7.1 k2))
theorem Qlf (l1:(List Qy))(k2:Int){r:(Bool×Qae)}(h:QdS l1 k2=some r):Qc Tryz.prog 184 [.sl 7 (l1.map Qu),.i .i64 k2] [] (Gives (.tup [.agg (QK r.2),.b r.1]) []):=by
 refine Qc.walk 30 Tryz.func184 rfl Tryz.ntmps184 rfl fun C hC=>?_
 unfold QdS at h
 obtain⟨x7,hx7,h⟩:=Qb h
 refine Qa hC [.n 9,.o (.c false [.d] (.tup [.sl 1 (x7.1.map Qe),.b x7.2])),.n 9] rfl ⟨tt_,(Ql0 _ hx7)⟩ ?_
 refine AK.meetX (fun σ=>σ=⟨[(0,.sl 7 (l1.map Qu)),(1,.i .i64 k2),(4,.loc 4 0 0),(6,.sl 1 (x7.1.map Qe)),(24,.b ((!x7.2)||((decide (k2<0))||(decide ((l1.length:Int)≤k2)))))],[(4,.var [.lit (.slice none 0 0),.lit (.slice none 0 0),.i .i64 0])]⟩) ?_ ?_
 ·refine Qa hC [.n 4] rfl tt_ ?_
  rcases QJ (!x7.2)with hc9 | hc9
  ·refine Qa hC [.say 15 (.b true),.n 10,.say 24 (.b ((!x7.2)||((decide (k2<0))||(decide ((l1.length:Int)≤k2))))),.keep [0,1,4,6,24] [4]] rfl ⟨⟨tt_,(congrArg V.b hc9)⟩,(congrArg V.b (orT hc9 rfl))⟩ ?_
   exact AK.met rfl
  ·refine Qa hC [.say 15 (.b false),.n 4] rfl ⟨tt_,(congrArg V.b hc9)⟩ ?_
   rcases QJ (decide (k2<0))with hc10 | hc10
   ·refine Qa hC [.say 19 (.b true),.n 6,.say 24 (.b ((!x7.2)||((decide (k2<0))||(decide ((l1.length:Int)≤k2))))),.keep [0,1,4,6,24] [4]] rfl ⟨⟨tt_,(congrArg V.b hc10)⟩,(congrArg V.b (orF hc9 (orT hc10 rfl)))⟩ ?_
    exact AK.met rfl
   ·refine Qa hC [.say 19 (.b false),.n 2,.o (.ln l1.length),.n 3,.say 24 (.b ((!x7.2)||((decide (k2<0))||(decide ((l1.length:Int)≤k2))))),.keep [0,1,4,6,24] [4]] rfl ⟨⟨⟨tt_,(congrArg V.b hc10)⟩,Qf⟩,(congrArg V.b (orF hc9 (orF hc10 rfl)))⟩ ?_
    exact AK.met rfl
 ·rintro σ rfl
  refine Qa hC [.n 1] rfl tt_ ?_
  rcases bifE h with⟨hc11,h⟩|⟨hc11,h⟩
  ·refine Qa hC [.br true,.n 2,.v .no [some 7,some 1,none] (.agg (QK (Qae.mk ([]:(List Qy)) ([]:(List Int)) 0))),.n 1,.sayO 4 (.var (QK (Qae.mk ([]:(List Qy)) ([]:(List Int)) 0))),.n 5,.keep [4,5] [4]] rfl ⟨⟨⟨tt_,hc11⟩,rfl⟩,rfl⟩ ?_
   cases h
   exact AK.done (ex_ [_,_] (an_ (an_ (ex_ _ (ex_ _ (an_ rfl (an_ rfl (Or.inl (an_ (Qo.ag rfl) (an_ (Qo.sz rfl) rfl))))))) (an_ rfl tt_)) (gives tt_)))
  ·refine Qa hC [.br false,.n 7,.v .no [] (.agg (QK (Qae.mk l1 x7.1 k2))),.n 1,.sayO 4 (.var (QK (Qae.mk l1 x7.1 k2))),.n 4,.keep [4,5] [4]] rfl ⟨⟨⟨tt_,hc11⟩,rfl⟩,rfl⟩ ?_
   cases h
   exact AK.done (ex_ [_,_] (an_ (an_ (ex_ _ (ex_ _ (an_ rfl (an_ rfl (Or.inl (an_ (Qo.ag rfl) (an_ (Qo.sz rfl) rfl))))))) (an_ rfl tt_)) (gives tt_)))
def Qdz (m2:Int)(s1:Qae):Option Bool:=
 bif (decide (0≤m2))then
 (idx s1.sizes s1.k).bind fun e7=>
 some (decide (m2<e7))
 else
 some false
def QfU (x4:Bool):Option Bool:=
 some x4
def QbZ (s1:Qae)(m2:Int):Option Bool:=
 (Qdz m2 s1).bind (fun x4=>QfU x4)
theorem Qlc (s1:Qae)(m2:Int){r:Bool}(h:QbZ s1 m2=some r):Qc Tryz.prog 200 [.agg (QK s1),.i .i64 m2] [] (Gives (.b r) []):=by
 refine Qc.walk 17 Tryz.func200 rfl Tryz.ntmps200 rfl fun C hC=>?_
 unfold QbZ at h
 refine Qa hC [.n 7] rfl tt_ ?_
 obtain⟨x4,hv5,h⟩:=Qb h
 replace h:QfU x4=some r:=h
 refine AK.meetX (fun σ=>σ=⟨[(4,.b x4)],[]⟩) ?_ ?_
 ·replace h:=hv5
  unfold Qdz at h
  refine Qa hC [.n 4] rfl tt_ ?_
  rcases bifE h with⟨hc6,h⟩|⟨hc6,h⟩
  ·obtain⟨e7,he7,h⟩:=Qb h
   refine Qa hC [.say 7 (.b true),.n 5,.o (.row (Qe e7)),.n 5,.keep [4] []] rfl ⟨⟨tt_,(congrArg V.b hc6)⟩,(idxM he7)⟩ ?_
   cases h
   exact AK.met rfl
  ·refine Qa hC [.say 7 (.b false),.n 11,.keep [4] []] rfl ⟨tt_,(congrArg V.b hc6)⟩ ?_
   cases h
   exact AK.met rfl
 ·rintro σ rfl
  replace h:QfU x4=some r:=h
  unfold QfU at h
  refine Qa hC [.n 2,.keep [4] []] rfl tt_ ?_
  cases h
  exact AK.done (ex_ [_] (an_ (an_ rfl tt_) (gives tt_)))
def QbL (s1:Qae):Option Qy:=
 (idx s1.all s1.k).bind fun e3=>
 some e3
theorem QgB (s1:Qae){r:Qy}(h:QbL s1=some r):Qc Tryz.prog 201 [.agg (QK s1)] [] (Gives (.agg (Qu r)) []):=by
 refine Qc.walk 9 Tryz.func201 rfl Tryz.ntmps201 rfl fun C hC=>?_
 unfold QbL at h
 obtain⟨e3,he3,h⟩:=Qb h
 refine Qa hC [.n 12,.o (.row (Qu e3)),.v .no [] (.agg (Qu e3)),.n 1,.sayO 2 (.var (Qu e3)),.n 3,.keep [2] [2]] rfl ⟨⟨⟨tt_,(idxM he3)⟩,rfl⟩,rfl⟩ ?_
 cases h
 exact AK.done (ex_ [_] (an_ (an_ (ex_ _ (ex_ _ (an_ rfl (an_ rfl (Or.inl (an_ (Qo.ag rfl) (an_ (Qo.sz rfl) rfl))))))) tt_) (gives tt_)))
def Qgc (x8:(Bool×Qae))(m3:Int):Option Bool:=
 bif (!x8.1)then
 some true
 else
 (QbZ x8.2 m3).bind fun x12=>
 some (!x12)
def QcS (x8:(Bool×Qae))(m3:Int)(x9:Bool):Option (Int×Bool):=
 bif x9 then
 some (0,false)
 else
 (QbL x8.2).bind fun x14=>
 bif (x14.Kind==1)then
 (QbL x8.2).bind fun x16=>
 some ((w64 (x16.Lo+m3)),true)
 else
 some (m3,true)
def Qda (l1:(List Qy))(k2:Int)(m3:Int):Option (Int×Bool):=
 (QdS l1 k2).bind fun x8=>
 (Qgc x8 m3).bind (fun x9=>QcS x8 m3 x9)
theorem Qpi (l1:(List Qy))(k2:Int)(m3:Int){r:(Int×Bool)}(h:Qda l1 k2 m3=some r):Qc Tryz.prog 138 [.sl 7 (l1.map Qu),.i .i64 k2,.i .i64 m3] [] (Gives (.tup [.i .i64 r.1,.b r.2]) []):=by
 refine Qc.walk 36 Tryz.func138 rfl Tryz.ntmps138 rfl fun C hC=>?_
 unfold Qda at h
 obtain⟨x8,hx8,h⟩:=Qb h
 refine Qa hC [.n 10,.o (.c false [.d,.d] (.tup [.agg (QK x8.2),.b x8.1])),.n 5,.sayO 8 (.var (QK x8.2)),.n 6] rfl ⟨⟨tt_,(Qlf _ _ hx8)⟩,rfl⟩ ?_
 obtain⟨x9,hv10,h⟩:=Qb h
 replace h:QcS x8 m3 x9=some r:=h
 refine AK.meetX (fun σ=>σ=⟨[(2,.i .i64 m3),(8,.loc 8 0 0),(16,.b x9)],[(8,.var (QK x8.2))]⟩) ?_ ?_
 ·replace h:=hv10
  unfold Qgc at h
  refine Qa hC [.n 4] rfl tt_ ?_
  rcases bifE h with⟨hc11,h⟩|⟨hc11,h⟩
  ·refine Qa hC [.say 19 (.b true),.n 7,.keep [2,8,16] [8]] rfl ⟨tt_,(congrArg V.b hc11)⟩ ?_
   cases h
   exact AK.met rfl
  ·obtain⟨x12,hx12,h⟩:=Qb h
   refine Qa hC [.say 19 (.b false),.v .no [] (.agg (QK x8.2)),.n 1,.o (.c false [.d,.d] (.b x12)),.n 4,.keep [2,8,16] [8]] rfl ⟨⟨⟨tt_,(congrArg V.b hc11)⟩,rfl⟩,(Qlc _ _ hx12)⟩ ?_
   cases h
   exact AK.met rfl
 ·rintro σ rfl
  replace h:QcS x8 m3 x9=some r:=h
  unfold QcS at h
  refine Qa hC [.n 1] rfl tt_ ?_
  rcases bifE h with⟨hc13,h⟩|⟨hc13,h⟩
  ·refine Qa hC [.br true,.n 9,.keep [6,7] []] rfl ⟨tt_,hc13⟩ ?_
   cases h
   exact AK.done (ex_ [_,_] (an_ (an_ rfl (an_ rfl tt_)) (gives tt_)))
  ·obtain⟨x14,hx14,h⟩:=Qb h
   refine Qa hC [.br false,.n 2,.v .no [] (.agg (QK x8.2)),.o (.c false [.d] (.agg (Qu x14))),.o (.any (.i .i64 x14.Kind) none),.n 4] rfl ⟨⟨⟨⟨tt_,hc13⟩,rfl⟩,(QgB _ hx14)⟩,(fun σ h1 h2 _=>Stp.field rfl rfl (bleN hC.n rfl) (h1 _ _ rfl) QwW rfl)⟩ ?_
   rcases bifE h with⟨hc15,h⟩|⟨hc15,h⟩
   ·obtain⟨x16,hx16,h⟩:=Qb h
    refine Qa hC [.br true,.n 2,.v .no [] (.agg (QK x8.2)),.o (.c false [.d] (.agg (Qu x16))),.o (.any (.i .i64 x16.Lo) none),.n 9,.keep [6,7] []] rfl ⟨⟨⟨⟨tt_,hc15⟩,rfl⟩,(QgB _ hx16)⟩,(fun σ h1 h2 _=>Stp.field rfl rfl (bleN hC.n rfl) (h1 _ _ rfl) QwX rfl)⟩ ?_
    cases h
    exact AK.done (ex_ [_,_] (an_ (an_ rfl (an_ rfl tt_)) (gives tt_)))
   ·refine Qa hC [.br false,.n 11,.keep [6,7] []] rfl ⟨tt_,hc15⟩ ?_
    cases h
    exact AK.done (ex_ [_,_] (an_ (an_ rfl (an_ rfl tt_)) (gives tt_)))
def Qdt (e11:Qr)(vars3:(List Int))(n1:TNet)(x15:Int)(l16:(List Int)):Option ((Int×(List Int))⊕(Unit⊕(List Int))):=
 bif (decide (x15<(e11.Vars.length:Int)))then
 (idx e11.Vars x15).bind fun e21=>
 (idx vars3 x15).bind fun e22=>
 (Qda n1.Colours e21.Colour e22).bind fun x23=>
 bif (!x23.2)then
 some (.inr (.inl ()))
 else
 (idx l16 x15).bind fun e25=>
 some (.inl ((w64 (x15+1)),(l16.set x15.toNat x23.1)))
 else
 some (.inr (.inr l16))
def QlL : Option ((List Int)×Int):=
 some (([]:List Int),1)
def QlM (l19:(List Int)):Option ((List Int)×Int):=
 some (l19,0)
def QdT (n1:TNet)(task2:Int)(vars3:(List Int)):Option ((List Int)×Int):=
 bif ((decide (task2<0))||(decide ((n1.Tasks.length:Int)≤task2)))then
 some (([]:List Int),3)
 else
 (idx n1.Tasks task2).bind fun e11=>
 bif ((vars3.length:Int) != (e11.Vars.length:Int))then
 some (([]:List Int),1)
 else
 (chk (decide (0≤(e11.Vars.length:Int))&&decide ((e11.Vars.length:Int)≤(e11.Vars.length:Int))&&decide ((e11.Vars.length:Int)≤4294967296))).bind fun _=>
 (QC (fun st=>Qdt e11 vars3 n1 st.1 st.2) (0,(List.replicate (e11.Vars.length:Int).toNat (0:Int)))).bind (Sum.elim (fun q=>QlL) (fun q=>QlM q))
theorem QlN (n1:TNet)(task2:Int)(vars3:(List Int)){r:((List Int)×Int)}(h:QdT n1 task2 vars3=some r):Qc Tryz.prog 82 [.agg (Qd n1),.i .i64 task2,.sl 1 (vars3.map Qe)] [] (Gives (.tup [.sl 1 (r.1.map Qe),.i .i64 r.2]) []):=by
 refine Qc.walk 64 Tryz.func82 rfl Tryz.ntmps82 rfl fun C hC=>?_
 unfold QdT at h
 refine Qa hC [.n 9] rfl tt_ ?_
 refine AK.meetX (fun σ=>σ=⟨[(1,.i .i64 task2),(2,.sl 1 (vars3.map Qe)),(3,.loc 3 0 0),(22,.b ((decide (task2<0))||(decide ((n1.Tasks.length:Int)≤task2))))],[(3,.var (Qd n1))]⟩) ?_ ?_
 ·refine Qa hC [.n 4] rfl tt_ ?_
  rcases QJ (decide (task2<0))with hc9 | hc9
  ·refine Qa hC [.say 16 (.b true),.n 7,.say 22 (.b ((decide (task2<0))||(decide ((n1.Tasks.length:Int)≤task2)))),.keep [1,2,3,22] [3]] rfl ⟨⟨tt_,(congrArg V.b hc9)⟩,(congrArg V.b (orT hc9 rfl))⟩ ?_
   exact AK.met rfl
  ·refine Qa hC [.say 16 (.b false),.n 3,.o (.ln n1.Tasks.length),.n 3,.say 22 (.b ((decide (task2<0))||(decide ((n1.Tasks.length:Int)≤task2)))),.keep [1,2,3,22] [3]] rfl ⟨⟨⟨tt_,(congrArg V.b hc9)⟩,Qf⟩,(congrArg V.b (orF hc9 rfl))⟩ ?_
   exact AK.met rfl
 ·rintro σ rfl
  refine Qa hC [.n 1] rfl tt_ ?_
  rcases bifE h with⟨hc10,h⟩|⟨hc10,h⟩
  ·refine Qa hC [.br true,.n 8,.denil 6 [some 1],.keep [6,7] []] rfl ⟨tt_,hc10⟩ ?_
   cases h
   exact AK.done (ex_ [_,_] (an_ (an_ rfl (an_ rfl tt_)) (gives tt_)))
  ·obtain⟨e11,he11,h⟩:=Qb h
   refine Qa hC [.br false,.n 7,.o (.row (Qh e11)),.n 9,.o (.ln vars3.length),.n 1,.o (.ln e11.Vars.length),.n 3] rfl ⟨⟨⟨⟨tt_,hc10⟩,(idxM he11)⟩,Qf⟩,Qf⟩ ?_
   rcases bifE h with⟨hc12,h⟩|⟨hc12,h⟩
   ·refine Qa hC [.br true,.n 8,.denil 6 [some 1],.keep [6,7] []] rfl ⟨tt_,hc12⟩ ?_
    cases h
    exact AK.done (ex_ [_,_] (an_ (an_ rfl (an_ rfl tt_)) (gives tt_)))
   ·obtain⟨_,hk13,h⟩:=Qb h
    replace hk13:=chkE hk13
    refine Qa hC [.br false,.n 5,.o (.ln e11.Vars.length),.o (.rows ((List.replicate (e11.Vars.length:Int).toNat (0:Int)).map Qe)),.say 36 (.own 36 (List.replicate (e11.Vars.length:Int).toNat (0:Int)).length),.n 7,.o (.ln e11.Vars.length),.n 4,.keep [2,3,9,37,38,39] [3,36]] rfl ⟨⟨⟨⟨⟨tt_,hc12⟩,Qf⟩,⟨hk13,Qu7 rfl⟩⟩,(by simp)⟩,Qf⟩ ?_
    obtain⟨o26,hl26,h⟩:=Qb h
    refine AK.loop (body:=(fun st=>Qdt e11 vars3 n1 st.1 st.2)) (fun st σ=>σ=⟨[(2,.sl 1 (vars3.map Qe)),(3,.loc 3 0 0),(9,.own 36 st.2.length),(37,.sl 2 (e11.Vars.map QD)),(38,.i .i64 (e11.Vars.length:Int)),(39,.i .i64 st.1)],[(3,.var (Qd n1)),(36,.arr 1 (st.2.map Qe))]⟩) (Sum.elim (fun q e σ=>e=.ret∧σ=⟨[(6,.lit (.slice none 0 0)),(7,.i .i64 1)],[]⟩) (fun q e σ=>e=.exit 0∧σ=⟨[(9,.own 36 q.length)],[(36,.arr 1 (q.map Qe))]⟩)) hl26 rfl ?_ ?_
    ·rintro ⟨x15,l16⟩ o σ rfl h
     replace h:Qdt e11 vars3 n1 x15 l16=some o:=h
     unfold Qdt at h
     refine Qa hC [.n 6] rfl tt_ ?_
     rcases bifE h with⟨hc20,h⟩|⟨hc20,h⟩
     ·obtain⟨e21,he21,h⟩:=Qb h
      obtain⟨e22,he22,h⟩:=Qb h
      obtain⟨x23,hx23,h⟩:=Qb h
      refine Qa hC [.br true,.n 7,.o (.row (QD e21)),.v .no [] (.agg (QD e21)),.n 3,.sayO 11 (.var (QD e21)),.n 3,.keep [2,3,9,10,11,37,38,39] [3,11,36]] rfl ⟨⟨⟨⟨tt_,hc20⟩,(idxM he21)⟩,rfl⟩,rfl⟩ ?_
      refine AK.draw2 Qo hC mixed [.a .no none false,.a .no none false,.a .no none false,.a .no none false,.a .no none false,.a .no none false,.a (.row (Qe e22)) none false,.a .no none false,.a (.c false [.d,.d,.d] (.tup [.i .i64 x23.1,.b x23.2])) none false,.a .no none false,.a .no none false,.a .no none false,.a .no none false,.a .no none false] [] [] [2,3,9,10,12,13,37,38,39] [3,36] rfl rfl rfl ⟨⟨tt_,(idxM he22)⟩,(Qpi _ _ _ hx23)⟩ rfl (by kernel_rfl) rfl rfl rfl ?_
      refine Qa hC [.n 8] rfl tt_ ?_
      rcases bifE h with⟨hc24,h⟩|⟨hc24,h⟩
      ·refine Qa hC [.br true,.n 10,.keep [6,7] []] rfl ⟨tt_,hc24⟩ ?_
       cases h
       exact rndR rfl (an_ rfl rfl)
      ·obtain⟨e25,he25,h⟩:=Qb h
       refine Qa hC [.br false,.n 7,.st (Qe e25) ((l16.set x15.toNat x23.1).map Qe),.n 7,.say 9 (.own 36 (l16.set x15.toNat x23.1).length),.keep [2,3,9,37,38,39] [3,36]] rfl ⟨⟨⟨⟨tt_,hc24⟩,(QaX he25 rfl)⟩,⟨(Qal (idxE he25).2),Qkx rfl⟩⟩,(congrArg (fun n=>V.own 36 n) (by simp))⟩ ?_
       cases h
       exact rndN rfl rfl
     ·refine Qa hC [.br false,.n 2,.keep [9] [36]] rfl ⟨tt_,hc20⟩ ?_
      cases h
      exact rndX rfl (an_ rfl rfl)
    ·rcases o26 with(_ | l19)
     ·replace h:QlL=some r:=h
      unfold QlL at h
      rintro e σ ⟨rfl,rfl⟩
      refine Qa hC [.n 2,.denil 6 [some 1],.keep [6,7] []] rfl tt_ ?_
      cases h
      exact AK.done (ex_ [_,_] (an_ (an_ rfl (an_ rfl tt_)) (gives tt_)))
     ·replace h:QlM l19=some r:=h
      unfold QlM at h
      rintro e σ ⟨rfl,rfl⟩
      refine Qa hC [.n 10,.frz 36 (l19.map Qe) [6] [],.keep [6,7] []] rfl ⟨tt_,⟨tt_,(frzL Qf)⟩⟩ ?_
      cases h
      exact AK.done (ex_ [_,_] (an_ (an_ rfl (an_ rfl tt_)) (gives tt_)))
def Qa0 (n1:TNet)(m2:QMk)(task3:Int)(vars4:(List Int)):Option (Int×QA):=
 (QdT n1 task3 vars4).bind fun x9=>
 bif (x9.2 != 0)then
 some (x9.2,(QA.mk (TNet.mk ([]:(List Qy)) ([]:(List Qz)) ([]:(List Qr)) 0 0) ([]:QMk) (Qr.mk (⟨#[]⟩:ByteArray) ([]:(List TVar)) (Qg.mk 0 0 ([]:(List Qg))) 0 0 ([]:(List TArc)) ([]:(List TArc)) ([]:(List Int)) 0 (0,0,0)) ([]:(List Int))))
 else
 (idx n1.Tasks task3).bind fun e11=>
 some (0,(QA.mk n1 m2 e11 x9.1))
theorem Qng (n1:TNet)(m2:QMk)(task3:Int)(vars4:(List Int)){r:(Int×QA)}(h:Qa0 n1 m2 task3 vars4=some r):Qc Tryz.prog 41 [.agg (Qd n1),.sl 1 (m2.map Qi),.i .i64 task3,.sl 1 (vars4.map Qe)] [] (Gives (.tup [.agg (Qq r.2),.i .i64 r.1]) []):=by
 refine Qc.walk 32 Tryz.func41 rfl Tryz.ntmps41 rfl fun C hC=>?_
 unfold Qa0 at h
 obtain⟨x9,hx9,h⟩:=Qb h
 refine Qa hC [.n 9,.v .no [] (.agg (Qd n1)),.n 2,.o (.c false [.d,.d,.d] (.tup [.sl 1 (x9.1.map Qe),.i .i64 x9.2])),.n 14] rfl ⟨⟨tt_,rfl⟩,(QlN _ _ _ hx9)⟩ ?_
 rcases bifE h with⟨hc10,h⟩|⟨hc10,h⟩
 ·refine Qa hC [.br true,.n 2,.v .no [some 7,some 3,some 14,none,none,some 1,none,some 2,none,none,some 3,none,none,some 4,some 4,some 1,none,none,none,none,some 1] (.agg (Qq (QA.mk (TNet.mk ([]:(List Qy)) ([]:(List Qz)) ([]:(List Qr)) 0 0) ([]:QMk) (Qr.mk (⟨#[]⟩:ByteArray) ([]:(List TVar)) (Qg.mk 0 0 ([]:(List Qg))) 0 0 ([]:(List TArc)) ([]:(List TArc)) ([]:(List Int)) 0 (0,0,0)) ([]:(List Int))))),.n 2,.sayO 8 (.var (Qq (QA.mk (TNet.mk ([]:(List Qy)) ([]:(List Qz)) ([]:(List Qr)) 0 0) ([]:QMk) (Qr.mk (⟨#[]⟩:ByteArray) ([]:(List TVar)) (Qg.mk 0 0 ([]:(List Qg))) 0 0 ([]:(List TArc)) ([]:(List TArc)) ([]:(List Int)) 0 (0,0,0)) ([]:(List Int))))),.n 5,.keep [8,9] [8]] rfl ⟨⟨⟨tt_,hc10⟩,rfl⟩,rfl⟩ ?_
  cases h
  exact AK.done (ex_ [_,_] (an_ (an_ (ex_ _ (ex_ _ (an_ rfl (an_ rfl (Or.inl (an_ (Qo.ag rfl) (an_ (Qo.sz rfl) rfl))))))) (an_ rfl tt_)) (gives tt_)))
 ·obtain⟨e11,he11,h⟩:=Qb h
  refine Qa hC [.br false,.n 3,.keep [1,2,4,8,9,10] [4,8]] rfl ⟨tt_,hc10⟩ ?_
  refine AK.draw2 Qo hC mixed [.a .no (some ([],.agg (Qd n1))) false,.a .no none false,.a .no none false,.a .no none false,.a .no none false,.a (.row (Qh e11)) none false,.a .no (some ([],.agg (Qh e11))) false,.a .no none false,.a .no (some ([],.agg (Qq (QA.mk n1 m2 e11 x9.1)))) false,.m .s,.m .s] [] [] [8,9] [8] rfl rfl rfl ⟨⟨⟨⟨tt_,rfl⟩,(idxM he11)⟩,rfl⟩,rfl⟩ rfl (by kernel_rfl) rfl rfl rfl ?_
  refine Qa hC [.sayO 8 (.var (Qq (QA.mk n1 m2 e11 x9.1))),.n 2,.keep [8,9] [8]] rfl ⟨tt_,rfl⟩ ?_
  cases h
  exact AK.done (ex_ [_,_] (an_ (an_ (ex_ _ (ex_ _ (an_ rfl (an_ rfl (Or.inl (an_ (Qo.ag rfl) (an_ (Qo.sz rfl) rfl))))))) (an_ rfl tt_)) (gives tt_)))
def Qef (e1:Qg)(rec_expr_Depth:Qg→Option Int)(n3:Int)(x4:Int):Option ((Int×Int)⊕Int):=
 bif (decide (x4<(e1.Kids.length:Int)))then
 (idx e1.Kids x4).bind fun e9=>
 (rec_expr_Depth e9).bind fun x10=>
 some (.inl ((max2 n3 x10),(w64 (x4+1))))
 else
 some (.inr n3)
def Qiq (n7:Int):Option Int:=
 some (w64 (n7+1))
def Qi6 (rec_expr_Depth:Qg→Option Int)(e1:Qg):Option Int:=
 (QC (fun st=>Qef e1 rec_expr_Depth st.1 st.2) (0,0)).bind (fun q=>Qiq q)
def QdL : Nat→Qg→Option Int
 | 0,_=>none
 | n+1,e1=>Qi6 (QdL n) e1
def Qmu (e1:Qg):Option Int:=QdL (SizeOf.sizeOf e1) e1
theorem Qp0 (rec_expr_Depth:Qg→Option Int)(hrec_expr_Depth:∀(e1:Qg) {r:Int},rec_expr_Depth e1=some r→Qc Tryz.prog 202 [.agg (Qm e1)] [] (Gives (.i .i64 r) []))(e1:Qg){r:Int}(h:Qi6 rec_expr_Depth e1=some r):Qc Tryz.prog 202 [.agg (Qm e1)] [] (Gives (.i .i64 r) []):=by
 refine Qc.walk 20 Tryz.func202 rfl Tryz.ntmps202 rfl fun C hC=>?_
 unfold Qi6 at h
 refine Qa hC [.n 16,.o (.ln e1.Kids.length),.n 4,.keep [3,7,8,9] []] rfl ⟨tt_,Qi4 _⟩ ?_
 obtain⟨n7,hl11,h⟩:=Qb h
 refine AK.loop (body:=(fun st=>Qef e1 rec_expr_Depth st.1 st.2)) (fun st σ=>σ=⟨[(3,.i .i64 st.1),(7,.sl 3 (QaZ e1.Kids)),(8,.i .i64 (e1.Kids.length:Int)),(9,.i .i64 st.2)],[]⟩) (fun q e σ=>e=.exit 0∧σ=⟨[(3,.i .i64 q)],[]⟩) hl11 rfl ?_ ?_
 ·rintro ⟨n3,x4⟩ o σ rfl h
  replace h:Qef e1 rec_expr_Depth n3 x4=some o:=h
  unfold Qef at h
  refine Qa hC [.n 6] rfl tt_ ?_
  rcases bifE h with⟨hc8,h⟩|⟨hc8,h⟩
  ·obtain⟨e9,he9,h⟩:=Qb h
   obtain⟨x10,hx10,h⟩:=Qb h
   refine Qa hC [.br true,.n 6,.o (.row (Qm e9)),.v .no [] (.agg (Qm e9)),.n 2,.sayO 5 (.var (Qm e9)),.n 4,.v .no [] (.agg (Qm e9)),.o (.c false [.d] (.i .i64 x10)),.n 9,.keep [3,7,8,9] []] rfl ⟨⟨⟨⟨⟨⟨tt_,hc8⟩,(QdR he9)⟩,rfl⟩,rfl⟩,rfl⟩,(hrec_expr_Depth _ hx10)⟩ ?_
   cases h
   exact rndN rfl rfl
  ·refine Qa hC [.br false,.n 2,.keep [3] []] rfl ⟨tt_,hc8⟩ ?_
   cases h
   exact rndX rfl (an_ rfl rfl)
 ·replace h:Qiq n7=some r:=h
  unfold Qiq at h
  rintro e σ ⟨rfl,rfl⟩
  refine Qa hC [.n 10,.keep [2] []] rfl tt_ ?_
  cases h
  exact AK.done (ex_ [_] (an_ (an_ rfl tt_) (gives tt_)))
theorem Ql1 : ∀(fuel:Nat) (e1:Qg) {r:Int},QdL fuel e1=some r→Qc Tryz.prog 202 [.agg (Qm e1)] [] (Gives (.i .i64 r) [])
 | 0,_,_,h=>by cases h
 | n+1,e1,_,h=>Qp0 (QdL n) (fun _ _ h=>Ql1 n _ h) e1 h
theorem Qrs (e1:Qg){r:Int}(h:Qmu e1=some r):Qc Tryz.prog 202 [.agg (Qm e1)] [] (Gives (.i .i64 r) []):=Ql1 _ e1 h
def Qe7 (e1:Qg)(rec_expr_Size:Qg→Option Int)(n3:Int)(x4:Int):Option ((Int×Int)⊕Int):=
 bif (decide (x4<(e1.Kids.length:Int)))then
 (idx e1.Kids x4).bind fun e9=>
 (rec_expr_Size e9).bind fun x10=>
 some (.inl ((w64 (n3+x10)),(w64 (x4+1))))
 else
 some (.inr n3)
def Qi7 (n7:Int):Option Int:=
 some n7
def QjS (rec_expr_Size:Qg→Option Int)(e1:Qg):Option Int:=
 (QC (fun st=>Qe7 e1 rec_expr_Size st.1 st.2) (1,0)).bind (fun q=>Qi7 q)
def Qeu : Nat→Qg→Option Int
 | 0,_=>none
 | n+1,e1=>QjS (Qeu n) e1
def Qnp (e1:Qg):Option Int:=Qeu (SizeOf.sizeOf e1) e1
theorem QqI (rec_expr_Size:Qg→Option Int)(hrec_expr_Size:∀(e1:Qg) {r:Int},rec_expr_Size e1=some r→Qc Tryz.prog 203 [.agg (Qm e1)] [] (Gives (.i .i64 r) []))(e1:Qg){r:Int}(h:QjS rec_expr_Size e1=some r):Qc Tryz.prog 203 [.agg (Qm e1)] [] (Gives (.i .i64 r) []):=by
 refine Qc.walk 19 Tryz.func203 rfl Tryz.ntmps203 rfl fun C hC=>?_
 unfold QjS at h
 refine Qa hC [.n 16,.o (.ln e1.Kids.length),.n 4,.keep [3,7,8,9] []] rfl ⟨tt_,Qi4 _⟩ ?_
 obtain⟨n7,hl11,h⟩:=Qb h
 refine AK.loop (body:=(fun st=>Qe7 e1 rec_expr_Size st.1 st.2)) (fun st σ=>σ=⟨[(3,.i .i64 st.1),(7,.sl 3 (QaZ e1.Kids)),(8,.i .i64 (e1.Kids.length:Int)),(9,.i .i64 st.2)],[]⟩) (fun q e σ=>e=.exit 0∧σ=⟨[(3,.i .i64 q)],[]⟩) hl11 rfl ?_ ?_
 ·rintro ⟨n3,x4⟩ o σ rfl h
  replace h:Qe7 e1 rec_expr_Size n3 x4=some o:=h
  unfold Qe7 at h
  refine Qa hC [.n 6] rfl tt_ ?_
  rcases bifE h with⟨hc8,h⟩|⟨hc8,h⟩
  ·obtain⟨e9,he9,h⟩:=Qb h
   obtain⟨x10,hx10,h⟩:=Qb h
   refine Qa hC [.br true,.n 6,.o (.row (Qm e9)),.v .no [] (.agg (Qm e9)),.n 2,.sayO 5 (.var (Qm e9)),.n 4,.v .no [] (.agg (Qm e9)),.o (.c false [.d] (.i .i64 x10)),.n 9,.keep [3,7,8,9] []] rfl ⟨⟨⟨⟨⟨⟨tt_,hc8⟩,(QdR he9)⟩,rfl⟩,rfl⟩,rfl⟩,(hrec_expr_Size _ hx10)⟩ ?_
   cases h
   exact rndN rfl rfl
  ·refine Qa hC [.br false,.n 2,.keep [3] []] rfl ⟨tt_,hc8⟩ ?_
   cases h
   exact rndX rfl (an_ rfl rfl)
 ·replace h:Qi7 n7=some r:=h
  unfold Qi7 at h
  rintro e σ ⟨rfl,rfl⟩
  refine Qa hC [.n 9,.keep [2] []] rfl tt_ ?_
  cases h
  exact AK.done (ex_ [_] (an_ (an_ rfl tt_) (gives tt_)))
theorem Qmv : ∀(fuel:Nat) (e1:Qg) {r:Int},Qeu fuel e1=some r→Qc Tryz.prog 203 [.agg (Qm e1)] [] (Gives (.i .i64 r) [])
 | 0,_,_,h=>by cases h
 | n+1,e1,_,h=>QqI (Qeu n) (fun _ _ h=>Qmv n _ h) e1 h
theorem Qr8 (e1:Qg){r:Int}(h:Qnp e1=some r):Qc Tryz.prog 203 [.agg (Qm e1)] [] (Gives (.i .i64 r) []):=Qmv _ e1 h
def Qe8 (kind1:Int)(x6:Bool):Option Int:=
 bif x6 then
 some 1
 else
 bif (kind1==5)then
 some 2
 else
 bif (kind1==6)then
 some 3
 else
 some (-1)
def Qe9 (kind1:Int)(x4:Bool):Option Int:=
 bif x4 then
 some 0
 else
 bif (kind1==3)then
 Qe8 kind1 (kind1==3)
 else
 Qe8 kind1 (kind1==4)
def QjE (kind1:Int):Option Int:=
 bif (kind1==1)then
 Qe9 kind1 (kind1==1)
 else
 Qe9 kind1 (kind1==2)
theorem Qr9 (kind1:Int){r:Int}(h:QjE kind1=some r):Qc Tryz.prog 240 [.i .i64 kind1] [] (Gives (.i .i64 r) []):=by
 refine Qc.walk 14 Tryz.func240 rfl Tryz.ntmps240 rfl fun C hC=>?_
 unfold QjE at h
 refine Qa hC [.n 12] rfl tt_ ?_
 refine AK.meet (fun σ=>∃x4:Bool,σ=⟨[(3,.i .i64 kind1),(4,.b x4)],[]⟩∧Qe9 kind1 x4=some r) ?_ ?_
 ·refine Qa hC [.n 6] rfl tt_ ?_
  rcases bifE h with⟨hc11,h⟩|⟨hc11,h⟩
  ·refine Qa hC [.br true,.n 1,.keep [3,4] []] rfl ⟨tt_,hc11⟩ ?_
   exact AK.met (ex_ _ (an_ rfl h))
  ·refine Qa hC [.br false,.n 4,.keep [3,4] []] rfl ⟨tt_,hc11⟩ ?_
   exact AK.met (ex_ _ (an_ rfl h))
 ·rintro σ ⟨x4,rfl,h⟩
  unfold Qe9 at h
  rcases bifE h with⟨hc5,h⟩|⟨hc5,h⟩
  ·refine Qa hC [.br true,.n 8,.keep [2] []] rfl ⟨tt_,hc5⟩ ?_
   cases h
   exact AK.done (ex_ [_] (an_ (an_ rfl tt_) (gives tt_)))
  ·refine Qa hC [.br false] rfl ⟨tt_,hc5⟩ ?_
   refine AK.meet (fun σ=>∃x6:Bool,σ=⟨[(3,.i .i64 kind1),(7,.b x6)],[]⟩∧Qe8 kind1 x6=some r) ?_ ?_
   ·refine Qa hC [.n 6] rfl tt_ ?_
    rcases bifE h with⟨hc10,h⟩|⟨hc10,h⟩
    ·refine Qa hC [.br true,.n 1,.keep [3,7] []] rfl ⟨tt_,hc10⟩ ?_
     exact AK.met (ex_ _ (an_ rfl h))
    ·refine Qa hC [.br false,.n 4,.keep [3,7] []] rfl ⟨tt_,hc10⟩ ?_
     exact AK.met (ex_ _ (an_ rfl h))
   ·rintro σ ⟨x6,rfl,h⟩
    unfold Qe8 at h
    rcases bifE h with⟨hc7,h⟩|⟨hc7,h⟩
    ·refine Qa hC [.br true,.n 8,.keep [2] []] rfl ⟨tt_,hc7⟩ ?_
     cases h
     exact AK.done (ex_ [_] (an_ (an_ rfl tt_) (gives tt_)))
    ·refine Qa hC [.br false,.n 6] rfl ⟨tt_,hc7⟩ ?_
     rcases bifE h with⟨hc8,h⟩|⟨hc8,h⟩
     ·refine Qa hC [.br true,.n 8,.keep [2] []] rfl ⟨tt_,hc8⟩ ?_
      cases h
      exact AK.done (ex_ [_] (an_ (an_ rfl tt_) (gives tt_)))
     ·refine Qa hC [.br false,.n 6] rfl ⟨tt_,hc8⟩ ?_
      rcases bifE h with⟨hc9,h⟩|⟨hc9,h⟩
      ·refine Qa hC [.br true,.n 8,.keep [2] []] rfl ⟨tt_,hc9⟩ ?_
       cases h
       exact AK.done (ex_ [_] (an_ (an_ rfl tt_) (gives tt_)))
      ·refine Qa hC [.br false,.n 9,.keep [2] []] rfl ⟨tt_,hc9⟩ ?_
       cases h
       exact AK.done (ex_ [_] (an_ (an_ rfl tt_) (gives tt_)))
def QiH (op1:Int):Option Bool:=
 some ((decide (1≤op1))&&(decide (op1≤11)))
theorem Qrt (op1:Int){r:Bool}(h:QiH op1=some r):Qc Tryz.prog 241 [.i .i64 op1] [] (Gives (.b r) []):=by
 refine Qc.walk 9 Tryz.func241 rfl Tryz.ntmps241 rfl fun C hC=>?_
 unfold QiH at h
 refine Qa hC [.n 6] rfl tt_ ?_
 refine AK.meetX (fun σ=>σ=⟨[(2,.b ((decide (1≤op1))&&(decide (op1≤11))))],[]⟩) ?_ ?_
 ·refine Qa hC [.n 4] rfl tt_ ?_
  rcases QJ (decide (1≤op1))with hc4 | hc4
  ·refine Qa hC [.say 5 (.b true),.n 5,.say 2 (.b ((decide (1≤op1))&&(decide (op1≤11)))),.keep [2] []] rfl ⟨⟨tt_,(congrArg V.b hc4)⟩,(congrArg V.b (andT hc4 rfl))⟩ ?_
   exact AK.met rfl
  ·refine Qa hC [.say 5 (.b false),.n 5,.say 2 (.b ((decide (1≤op1))&&(decide (op1≤11)))),.keep [2] []] rfl ⟨⟨tt_,(congrArg V.b hc4)⟩,(congrArg V.b (andF hc4 rfl))⟩ ?_
   exact AK.met rfl
 ·rintro σ rfl
  refine Qa hC [.n 2,.keep [2] []] rfl tt_ ?_
  cases h
  exact AK.done (ex_ [_] (an_ (an_ rfl tt_) (gives tt_)))
def Qi8 (rec_expr_parts:Qg→Int→Option Bool)(k1:Qg)(v2:Int):Option Bool:=
 (rec_expr_parts k1 v2).bind fun x4=>
 some (!x4)
theorem Qp1 (rec_expr_parts:Qg→Int→Option Bool)(hrec_expr_parts:∀(e1:Qg) (vars2:Int) {r:Bool},rec_expr_parts e1 vars2=some r→Qc Tryz.prog 204 [.agg (Qm e1),.i .i64 vars2] [] (Gives (.b r) []))(k1:Qg)(v2:Int){r:Bool}(h:Qi8 rec_expr_parts k1 v2=some r):Qc Tryz.prog 243 [.agg (Qm k1),.loc 200000 0 0] [(200000,.var (Qe v2))] (Gives (.b r) [(200000,.var (Qe v2))]):=by
 refine Qc.walk 8 Tryz.func243 rfl Tryz.ntmps243 rfl fun C hC=>?_
 unfold Qi8 at h
 obtain⟨x4,hx4,h⟩:=Qb h
 refine Qa hC [.n 8,.v .no [] (.agg (Qm k1)),.n 1,.o (.c false [.d,.d] (.b x4)),.n 5,.keep [3] [200000]] rfl ⟨⟨tt_,rfl⟩,(hrec_expr_parts _ _ hx4)⟩ ?_
 cases h
 exact AK.done (ex_ [_] (an_ (an_ rfl tt_) (gives ⟨rfl,tt_⟩)))
def QT (s1:(List Qg))(rec_expr_parts:Qg→Int→Option Bool)(v2:Int)(x5:Int):Option (Int⊕(Int⊕Unit)):=
 bif (decide (x5<(s1.length:Int)))then
 (idx s1 x5).bind fun e9=>
 (Qi8 rec_expr_parts e9 v2).bind fun x10=>
 bif x10 then
 some (.inr (.inl x5))
 else
 some (.inl (w64 (x5+1)))
 else
 some (.inr (.inr ()))
def QbA (x7:Int):Option Int:=
 some x7
def QbB : Option Int:=
 some (-1)
def Qa1 (rec_expr_parts:Qg→Int→Option Bool)(s1:(List Qg))(v2:Int):Option Int:=
 (QC (fun st=>QT s1 rec_expr_parts v2 st) 0).bind (Sum.elim (fun q=>QbA q) (fun q=>QbB))
theorem QhS (rec_expr_parts:Qg→Int→Option Bool)(hrec_expr_parts:∀(e1:Qg) (vars2:Int) {r:Bool},rec_expr_parts e1 vars2=some r→Qc Tryz.prog 204 [.agg (Qm e1),.i .i64 vars2] [] (Gives (.b r) []))(s1:(List Qg))(v2:Int){r:Int}(h:Qa1 rec_expr_parts s1 v2=some r):Qc Tryz.prog 258 [.sl 3 (QaZ s1),.clo (.func 243) [] [.loc 200000 0 0]] [(200000,.var (Qe v2))] (Gives (.i .i64 r) [(200000,.var (Qe v2))]):=by
 refine Qc.walk 19 Tryz.func258 rfl Tryz.ntmps258 rfl fun C hC=>?_
 unfold Qa1 at h
 refine Qa hC [.n 9,.o (.ln s1.length),.n 4,.keep [0,1,7,8] [200000]] rfl ⟨tt_,Qi4 _⟩ ?_
 obtain⟨o12,hl12,h⟩:=Qb h
 refine AK.loop (body:=(fun st=>QT s1 rec_expr_parts v2 st)) (fun st σ=>σ=⟨[(0,.sl 3 (QaZ s1)),(1,.clo (.func 243) [] [.loc 200000 0 0]),(7,.i .i64 (s1.length:Int)),(8,.i .i64 st)],[(200000,.var (Qe v2))]⟩) (Sum.elim (fun q e σ=>e=.ret∧σ=⟨[(4,.i .i64 q)],[(200000,.var (Qe v2))]⟩) (fun q e σ=>e=.exit 0∧σ=⟨[],[(200000,.var (Qe v2))]⟩)) hl12 rfl ?_ ?_
 ·rintro x5 o σ rfl h
  replace h:QT s1 rec_expr_parts v2 x5=some o:=h
  unfold QT at h
  refine Qa hC [.n 6] rfl tt_ ?_
  rcases bifE h with⟨hc8,h⟩|⟨hc8,h⟩
  ·obtain⟨e9,he9,h⟩:=Qb h
   obtain⟨x10,hx10,h⟩:=Qb h
   refine Qa hC [.br true,.n 15,.o (.row (Qm e9)),.v .no [] (.agg (Qm e9)),.cm (.clo) [(200000,200000)] [(200000,200000)] [] [.d,.d] [(200000,.var (Qe v2))] (.b x10),.n 2] rfl ⟨⟨⟨⟨tt_,hc8⟩,(QdR he9)⟩,rfl⟩,(Qp1 rec_expr_parts hrec_expr_parts _ _ hx10)⟩ ?_
   rcases bifE h with⟨hc11,h⟩|⟨hc11,h⟩
   ·refine Qa hC [.br true,.n 9,.keep [4] [200000]] rfl ⟨tt_,hc11⟩ ?_
    cases h
    exact rndR rfl (an_ rfl rfl)
   ·refine Qa hC [.br false,.n 7,.keep [0,1,7,8] [200000]] rfl ⟨tt_,hc11⟩ ?_
    cases h
    exact rndN rfl rfl
  ·refine Qa hC [.br false,.n 2,.keep [] [200000]] rfl ⟨tt_,hc8⟩ ?_
   cases h
   exact rndX rfl (an_ rfl rfl)
 ·rcases o12 with(x7 | _)
  ·replace h:QbA x7=some r:=h
   unfold QbA at h
   rintro e σ ⟨rfl,rfl⟩
   refine Qa hC [.n 2,.keep [4] [200000]] rfl tt_ ?_
   cases h
   exact AK.done (ex_ [_] (an_ (an_ rfl tt_) (gives ⟨rfl,tt_⟩)))
  ·replace h:QbB=some r:=h
   unfold QbB at h
   rintro e σ ⟨rfl,rfl⟩
   refine Qa hC [.n 8,.keep [4] [200000]] rfl tt_ ?_
   cases h
   exact AK.done (ex_ [_] (an_ (an_ rfl tt_) (gives ⟨rfl,tt_⟩)))
def Q9 (rec_expr_parts:Qg→Int→Option Bool)(s1:(List Qg))(v2:Int):Option Bool:=
 (Qa1 rec_expr_parts s1 v2).bind fun x4=>
 some (decide (0≤x4))
theorem Qg1 (rec_expr_parts:Qg→Int→Option Bool)(hrec_expr_parts:∀(e1:Qg) (vars2:Int) {r:Bool},rec_expr_parts e1 vars2=some r→Qc Tryz.prog 204 [.agg (Qm e1),.i .i64 vars2] [] (Gives (.b r) []))(s1:(List Qg))(v2:Int){r:Bool}(h:Q9 rec_expr_parts s1 v2=some r):Qc Tryz.prog 242 [.sl 3 (QaZ s1),.clo (.func 243) [] [.loc 200000 0 0]] [(200000,.var (Qe v2))] (Gives (.b r) [(200000,.var (Qe v2))]):=by
 refine Qc.walk 9 Tryz.func242 rfl Tryz.ntmps242 rfl fun C hC=>?_
 unfold Q9 at h
 obtain⟨x4,hx4,h⟩:=Qb h
 refine Qa hC [.n 9,.cm (.fn) [(200000,200000)] [(200000,200000)] [] [.d,.d] [(200000,.var (Qe v2))] (.i .i64 x4),.n 5,.keep [4] [200000]] rfl ⟨tt_,(QhS rec_expr_parts hrec_expr_parts _ _ hx4)⟩ ?_
 cases h
 exact AK.done (ex_ [_] (an_ (an_ rfl tt_) (gives ⟨rfl,tt_⟩)))
def QkD (e1:Qg):Option Bool:=
 bif (e1.Kind==5)then
 (QiH e1.Num).bind fun x14=>
 some (!x14)
 else
 some false
def Qgd (rec_expr_parts:Qg→Int→Option Bool)(e1:Qg)(vars2:Int)(x11:Bool):Option Bool:=
 bif x11 then
 some false
 else
 (Q9 rec_expr_parts e1.Kids vars2).bind fun x16=>
 some (!x16)
def Qi9 (rec_expr_parts:Qg→Int→Option Bool)(e1:Qg)(vars2:Int):Option Bool:=
 (QjE e1.Kind).bind fun x5=>
 bif ((e1.Kids.length:Int) != x5)then
 some false
 else
 bif ((e1.Kind==2)&&((decide (e1.Num<0))||(decide (vars2≤e1.Num))))then
 some false
 else
 (QkD e1).bind (fun x11=>Qgd rec_expr_parts e1 vars2 x11)
def QdM : Nat→Qg→Int→Option Bool
 | 0,_,_=>none
 | n+1,e1,vars2=>Qi9 (QdM n) e1 vars2
def Qmw (e1:Qg)(vars2:Int):Option Bool:=QdM (SizeOf.sizeOf e1) e1 vars2
theorem Qp2 (rec_expr_parts:Qg→Int→Option Bool)(hrec_expr_parts:∀(e1:Qg) (vars2:Int) {r:Bool},rec_expr_parts e1 vars2=some r→Qc Tryz.prog 204 [.agg (Qm e1),.i .i64 vars2] [] (Gives (.b r) []))(e1:Qg)(vars2:Int){r:Bool}(h:Qi9 rec_expr_parts e1 vars2=some r):Qc Tryz.prog 204 [.agg (Qm e1),.i .i64 vars2] [] (Gives (.b r) []):=by
 refine Qc.walk 43 Tryz.func204 rfl Tryz.ntmps204 rfl fun C hC=>?_
 unfold Qi9 at h
 obtain⟨x5,hx5,h⟩:=Qb h
 refine Qa hC [.n 10,.keep [2,3] [2,3]] rfl tt_ ?_
 refine AK.draw2 Qo hC mixed [.a .no none false,.a .no none false,.a (.ln e1.Kids.length) none false,.a .no none false,.a .no none false,.a (.c false [.d] (.i .i64 x5)) none false,.a .no none false,.a .no none false] [] [] [2,3,5] [2,3] rfl rfl rfl ⟨⟨tt_,Qi4 _⟩,(Qr9 _ hx5)⟩ rfl (by kernel_rfl) rfl rfl rfl ?_
 refine Qa hC [.n 1] rfl tt_ ?_
 rcases bifE h with⟨hc6,h⟩|⟨hc6,h⟩
 ·refine Qa hC [.br true,.n 8,.keep [4] []] rfl ⟨tt_,hc6⟩ ?_
  cases h
  exact AK.done (ex_ [_] (an_ (an_ rfl tt_) (gives tt_)))
 ·refine Qa hC [.br false,.n 1] rfl ⟨tt_,hc6⟩ ?_
  refine AK.meetX (fun σ=>σ=⟨[(2,.loc 2 0 0),(3,.loc 3 0 0),(13,.b ((e1.Kind==2)&&((decide (e1.Num<0))||(decide (vars2≤e1.Num)))))],[(2,.var (Qm e1)),(3,.var (Qe vars2))]⟩) ?_ ?_
  ·refine Qa hC [.n 5] rfl tt_ ?_
   rcases QJ (e1.Kind==2)with hc8 | hc8
   ·refine Qa hC [.say 17 (.b true),.n 4] rfl ⟨tt_,(congrArg V.b hc8)⟩ ?_
    rcases QJ (decide (e1.Num<0))with hc9 | hc9
    ·refine Qa hC [.say 21 (.b true),.n 8,.say 13 (.b ((e1.Kind==2)&&((decide (e1.Num<0))||(decide (vars2≤e1.Num))))),.keep [2,3,13] [2,3]] rfl ⟨⟨tt_,(congrArg V.b hc9)⟩,(congrArg V.b (andT hc8 (orT hc9 rfl)))⟩ ?_
     exact AK.met rfl
    ·refine Qa hC [.say 21 (.b false),.n 8,.say 13 (.b ((e1.Kind==2)&&((decide (e1.Num<0))||(decide (vars2≤e1.Num))))),.keep [2,3,13] [2,3]] rfl ⟨⟨tt_,(congrArg V.b hc9)⟩,(congrArg V.b (andT hc8 (orF hc9 rfl)))⟩ ?_
     exact AK.met rfl
   ·refine Qa hC [.say 17 (.b false),.n 12,.say 13 (.b ((e1.Kind==2)&&((decide (e1.Num<0))||(decide (vars2≤e1.Num))))),.keep [2,3,13] [2,3]] rfl ⟨⟨tt_,(congrArg V.b hc8)⟩,(congrArg V.b (andF hc8 rfl))⟩ ?_
    exact AK.met rfl
  ·rintro σ rfl
   refine Qa hC [.n 1] rfl tt_ ?_
   rcases bifE h with⟨hc10,h⟩|⟨hc10,h⟩
   ·refine Qa hC [.br true,.n 8,.keep [4] []] rfl ⟨tt_,hc10⟩ ?_
    cases h
    exact AK.done (ex_ [_] (an_ (an_ rfl tt_) (gives tt_)))
   ·refine Qa hC [.br false,.n 1] rfl ⟨tt_,hc10⟩ ?_
    obtain⟨x11,hv12,h⟩:=Qb h
    replace h:Qgd rec_expr_parts e1 vars2 x11=some r:=h
    refine AK.meetX (fun σ=>σ=⟨[(2,.loc 2 0 0),(3,.loc 3 0 0),(28,.b x11)],[(2,.var (Qm e1)),(3,.var (Qe vars2))]⟩) ?_ ?_
    ·replace h:=hv12
     unfold QkD at h
     refine Qa hC [.n 5] rfl tt_ ?_
     rcases bifE h with⟨hc13,h⟩|⟨hc13,h⟩
     ·obtain⟨x14,hx14,h⟩:=Qb h
      refine Qa hC [.say 32 (.b true),.n 2,.o (.c false [.d] (.b x14)),.n 4,.keep [2,3,28] [2,3]] rfl ⟨⟨tt_,(congrArg V.b hc13)⟩,(Qrt _ hx14)⟩ ?_
      cases h
      exact AK.met rfl
     ·refine Qa hC [.say 32 (.b false),.n 7,.keep [2,3,28] [2,3]] rfl ⟨tt_,(congrArg V.b hc13)⟩ ?_
      cases h
      exact AK.met rfl
    ·rintro σ rfl
     replace h:Qgd rec_expr_parts e1 vars2 x11=some r:=h
     unfold Qgd at h
     refine Qa hC [.n 1] rfl tt_ ?_
     rcases bifE h with⟨hc15,h⟩|⟨hc15,h⟩
     ·refine Qa hC [.br true,.n 8,.keep [4] []] rfl ⟨tt_,hc15⟩ ?_
      cases h
      exact AK.done (ex_ [_] (an_ (an_ rfl tt_) (gives tt_)))
     ·obtain⟨x16,hx16,h⟩:=Qb h
      refine Qa hC [.br false,.n 8,.cm (.fn) [(200000,3)] [(3,200000)] [] [.d,.d] [(200000,.var (Qe vars2))] (.b x16),.n 5,.keep [4] []] rfl ⟨⟨tt_,hc15⟩,(Qg1 rec_expr_parts hrec_expr_parts _ _ hx16)⟩ ?_
      cases h
      exact AK.done (ex_ [_] (an_ (an_ rfl tt_) (gives tt_)))
theorem Ql2 : ∀(fuel:Nat) (e1:Qg) (vars2:Int) {r:Bool},QdM fuel e1 vars2=some r→Qc Tryz.prog 204 [.agg (Qm e1),.i .i64 vars2] [] (Gives (.b r) [])
 | 0,_,_,_,h=>by cases h
 | n+1,e1,vars2,_,h=>Qp2 (QdM n) (fun _ _ _ h=>Ql2 n _ _ h) e1 vars2 h
theorem Qru (e1:Qg)(vars2:Int){r:Bool}(h:Qmw e1 vars2=some r):Qc Tryz.prog 204 [.agg (Qm e1),.i .i64 vars2] [] (Gives (.b r) []):=Ql2 _ e1 vars2 h
def QkE (e1:Qg)(vars2:Int):Option Bool:=
 (Qmu e1).bind fun x6=>
 bif (decide (x6≤40))then
 (Qnp e1).bind fun x8=>
 bif (decide (x8≤400))then
 (Qmw e1 vars2).bind fun x10=>
 some x10
 else
 some false
 else
 some false
def Qir (x4:Bool):Option Bool:=
 some x4
def Qft (e1:Qg)(vars2:Int):Option Bool:=
 (QkE e1 vars2).bind (fun x4=>Qir x4)
theorem QkF (e1:Qg)(vars2:Int){r:Bool}(h:Qft e1 vars2=some r):Qc Tryz.prog 139 [.agg (Qm e1),.i .i64 vars2] [] (Gives (.b r) []):=by
 refine Qc.walk 18 Tryz.func139 rfl Tryz.ntmps139 rfl fun C hC=>?_
 unfold Qft at h
 refine Qa hC [.n 7] rfl tt_ ?_
 obtain⟨x4,hv5,h⟩:=Qb h
 replace h:Qir x4=some r:=h
 refine AK.meetX (fun σ=>σ=⟨[(4,.b x4)],[]⟩) ?_ ?_
 ·replace h:=hv5
  unfold QkE at h
  obtain⟨x6,hx6,h⟩:=Qb h
  refine Qa hC [.n 1,.v .no [] (.agg (Qm e1)),.o (.c false [.d] (.i .i64 x6)),.n 2] rfl ⟨⟨tt_,rfl⟩,(Qrs _ hx6)⟩ ?_
  rcases bifE h with⟨hc7,h⟩|⟨hc7,h⟩
  ·obtain⟨x8,hx8,h⟩:=Qb h
   refine Qa hC [.say 8 (.b true),.v .no [] (.agg (Qm e1)),.o (.c false [.d] (.i .i64 x8)),.n 3] rfl ⟨⟨⟨tt_,(congrArg V.b hc7)⟩,rfl⟩,(Qr8 _ hx8)⟩ ?_
   rcases bifE h with⟨hc9,h⟩|⟨hc9,h⟩
   ·obtain⟨x10,hx10,h⟩:=Qb h
    refine Qa hC [.say 13 (.b true),.v .no [] (.agg (Qm e1)),.n 1,.o (.c false [.d,.d] (.b x10)),.n 3,.keep [4] []] rfl ⟨⟨⟨tt_,(congrArg V.b hc9)⟩,rfl⟩,(Qru _ _ hx10)⟩ ?_
    cases h
    exact AK.met rfl
   ·refine Qa hC [.say 13 (.b false),.n 6,.keep [4] []] rfl ⟨tt_,(congrArg V.b hc9)⟩ ?_
    cases h
    exact AK.met rfl
  ·refine Qa hC [.say 8 (.b false),.n 11,.keep [4] []] rfl ⟨tt_,(congrArg V.b hc7)⟩ ?_
   cases h
   exact AK.met rfl
 ·rintro σ rfl
  replace h:Qir x4=some r:=h
  unfold Qir at h
  refine Qa hC [.n 2,.keep [4] []] rfl tt_ ?_
  cases h
  exact AK.done (ex_ [_] (an_ (an_ rfl tt_) (gives tt_)))
def Qbt (v1:(List Int))(kind2:Int)(x10:Bool):Option ((List Int)⊕((List Int)⊕((List Int)⊕((List Int)⊕(List Int))))):=
 bif x10 then
 some (.inr (.inr (.inl v1)))
 else
 bif (kind2==5)then
 some (.inr (.inr (.inr (.inl v1))))
 else
 some (.inr (.inr (.inr (.inr v1))))
def QbN (v1:(List Int))(kind2:Int):Option ((List Int)⊕((List Int)⊕((List Int)⊕((List Int)⊕(List Int))))):=
 bif (kind2==1)then
 some (.inl v1)
 else
 bif (kind2==2)then
 some (.inr (.inl v1))
 else
 bif (kind2==3)then
 Qbt v1 kind2 (kind2==3)
 else
 Qbt v1 kind2 (kind2==4)
theorem Qd4 (v1:(List Int))(kind2:Int){r:((List Int)⊕((List Int)⊕((List Int)⊕((List Int)⊕(List Int)))))}(h:QbN v1 kind2=some r):Qc Tryz.prog 205 [.sl 1 (v1.map Qe),.i .i64 kind2] [] ((Sum.elim (fun q=>(Gives (.clo (.func 244) [.sl 1 (q.map Qe)] []) [])) (Sum.elim (fun q=>(Gives (.clo (.func 245) [.sl 1 (q.map Qe)] []) [])) (Sum.elim (fun q=>(Gives (.clo (.func 246) [.sl 1 (q.map Qe)] []) [])) (Sum.elim (fun q=>(Gives (.clo (.func 247) [.sl 1 (q.map Qe)] []) [])) (fun q=>(Gives (.clo (.func 248) [.sl 1 (q.map Qe)] []) [])))))) r):=by
 refine Qc.walk 25 Tryz.func205 rfl Tryz.ntmps205 rfl fun C hC=>?_
 unfold QbN at h
 refine Qa hC [.n 18] rfl tt_ ?_
 rcases bifE h with⟨hc8,h⟩|⟨hc8,h⟩
 ·refine Qa hC [.br true,.n 10,.keep [4] []] rfl ⟨tt_,hc8⟩ ?_
  cases h
  exact AK.done (ex_ [_] (an_ (an_ rfl tt_) (gives tt_)))
 ·refine Qa hC [.br false,.n 6] rfl ⟨tt_,hc8⟩ ?_
  rcases bifE h with⟨hc9,h⟩|⟨hc9,h⟩
  ·refine Qa hC [.br true,.n 10,.keep [4] []] rfl ⟨tt_,hc9⟩ ?_
   cases h
   exact AK.done (ex_ [_] (an_ (an_ rfl tt_) (gives tt_)))
  ·refine Qa hC [.br false] rfl ⟨tt_,hc9⟩ ?_
   refine AK.meet (fun σ=>∃x10:Bool,σ=⟨[(0,.sl 1 (v1.map Qe)),(5,.i .i64 kind2),(14,.b x10)],[]⟩∧Qbt v1 kind2 x10=some r) ?_ ?_
   ·refine Qa hC [.n 6] rfl tt_ ?_
    rcases bifE h with⟨hc13,h⟩|⟨hc13,h⟩
    ·refine Qa hC [.br true,.n 1,.keep [0,5,14] []] rfl ⟨tt_,hc13⟩ ?_
     exact AK.met (ex_ _ (an_ rfl h))
    ·refine Qa hC [.br false,.n 4,.keep [0,5,14] []] rfl ⟨tt_,hc13⟩ ?_
     exact AK.met (ex_ _ (an_ rfl h))
   ·rintro σ ⟨x10,rfl,h⟩
    unfold Qbt at h
    rcases bifE h with⟨hc11,h⟩|⟨hc11,h⟩
    ·refine Qa hC [.br true,.n 10,.keep [4] []] rfl ⟨tt_,hc11⟩ ?_
     cases h
     exact AK.done (ex_ [_] (an_ (an_ rfl tt_) (gives tt_)))
    ·refine Qa hC [.br false,.n 6] rfl ⟨tt_,hc11⟩ ?_
     rcases bifE h with⟨hc12,h⟩|⟨hc12,h⟩
     ·refine Qa hC [.br true,.n 10,.keep [4] []] rfl ⟨tt_,hc12⟩ ?_
      cases h
      exact AK.done (ex_ [_] (an_ (an_ rfl tt_) (gives tt_)))
     ·refine Qa hC [.br false,.n 11,.keep [4] []] rfl ⟨tt_,hc12⟩ ?_
      cases h
      exact AK.done (ex_ [_] (an_ (an_ rfl tt_) (gives tt_)))
def Qjq (v1:(List Int))(e2:Qg):Option (Int×Int):=
 some (e2.Num,0)
theorem Qol (v1:(List Int))(e2:Qg){r:(Int×Int)}(h:Qjq v1 e2=some r):Qc Tryz.prog 244 [.sl 1 (v1.map Qe),.agg (Qm e2)] [] (Gives (.tup [.i .i64 r.1,.i .i64 r.2]) []):=by
 refine Qc.walk 8 Tryz.func244 rfl Tryz.ntmps244 rfl fun C hC=>?_
 unfold Qjq at h
 refine Qa hC [.n 16,.keep [4,5] []] rfl tt_ ?_
 cases h
 exact AK.done (ex_ [_,_] (an_ (an_ rfl (an_ rfl tt_)) (gives tt_)))
def QfV (v1:(List Int))(e2:Qg):Option (Int×Int):=
 (idx v1 e2.Num).bind fun e5=>
 some (e5,0)
theorem Qnq (v1:(List Int))(e2:Qg){r:(Int×Int)}(h:QfV v1 e2=some r):Qc Tryz.prog 245 [.sl 1 (v1.map Qe),.agg (Qm e2)] [] (Gives (.tup [.i .i64 r.1,.i .i64 r.2]) []):=by
 refine Qc.walk 11 Tryz.func245 rfl Tryz.ntmps245 rfl fun C hC=>?_
 unfold QfV at h
 obtain⟨e5,he5,h⟩:=Qb h
 refine Qa hC [.n 12,.o (.row (Qe e5)),.n 6,.keep [4,5] []] rfl ⟨tt_,(idxM he5)⟩ ?_
 cases h
 exact AK.done (ex_ [_,_] (an_ (an_ rfl (an_ rfl tt_)) (gives tt_)))
def QkG (a1:Int)(b2:Int):Option (Int×Int):=
 bif (((decide (a1<0))==(decide (b2<0)))&&((decide ((w64 (a1+b2))<0)) != (decide (a1<0))))then
 some (0,6)
 else
 some ((w64 (a1+b2)),0)
theorem QsL (a1:Int)(b2:Int){r:(Int×Int)}(h:QkG a1 b2=some r):Qc Tryz.prog 266 [.i .i64 a1,.i .i64 b2] [] (Gives (.tup [.i .i64 r.1,.i .i64 r.2]) []):=by
 refine Qc.walk 23 Tryz.func266 rfl Tryz.ntmps266 rfl fun C hC=>?_
 unfold QkG at h
 refine Qa hC [.n 16] rfl tt_ ?_
 refine AK.meetX (fun σ=>σ=⟨[(6,.i .i64 (w64 (a1+b2))),(21,.b (((decide (a1<0))==(decide (b2<0)))&&((decide ((w64 (a1+b2))<0)) != (decide (a1<0)))))],[]⟩) ?_ ?_
 ·refine Qa hC [.n 7] rfl tt_ ?_
  rcases QJ ((decide (a1<0))==(decide (b2<0)))with hc8 | hc8
  ·refine Qa hC [.say 15 (.b true),.n 7,.say 21 (.b (((decide (a1<0))==(decide (b2<0)))&&((decide ((w64 (a1+b2))<0)) != (decide (a1<0))))),.keep [6,21] []] rfl ⟨⟨tt_,(congrArg V.b hc8)⟩,(congrArg V.b (andT hc8 rfl))⟩ ?_
   exact AK.met rfl
  ·refine Qa hC [.say 15 (.b false),.n 7,.say 21 (.b (((decide (a1<0))==(decide (b2<0)))&&((decide ((w64 (a1+b2))<0)) != (decide (a1<0))))),.keep [6,21] []] rfl ⟨⟨tt_,(congrArg V.b hc8)⟩,(congrArg V.b (andF hc8 rfl))⟩ ?_
   exact AK.met rfl
 ·rintro σ rfl
  refine Qa hC [.n 1] rfl tt_ ?_
  rcases bifE h with⟨hc9,h⟩|⟨hc9,h⟩
  ·refine Qa hC [.br true,.n 8,.keep [4,5] []] rfl ⟨tt_,hc9⟩ ?_
   cases h
   exact AK.done (ex_ [_,_] (an_ (an_ rfl (an_ rfl tt_)) (gives tt_)))
  ·refine Qa hC [.br false,.n 10,.keep [4,5] []] rfl ⟨tt_,hc9⟩ ?_
   cases h
   exact AK.done (ex_ [_,_] (an_ (an_ rfl (an_ rfl tt_)) (gives tt_)))
def QeC (a1:Int)(b2:Int):Option (Int×Int):=
 bif (((decide (a1<0)) != (decide (b2<0)))&&((decide ((w64 (a1-b2))<0)) != (decide (a1<0))))then
 some (0,6)
 else
 some ((w64 (a1-b2)),0)
theorem Qom (a1:Int)(b2:Int){r:(Int×Int)}(h:QeC a1 b2=some r):Qc Tryz.prog 267 [.i .i64 a1,.i .i64 b2] [] (Gives (.tup [.i .i64 r.1,.i .i64 r.2]) []):=by
 refine Qc.walk 23 Tryz.func267 rfl Tryz.ntmps267 rfl fun C hC=>?_
 unfold QeC at h
 refine Qa hC [.n 16] rfl tt_ ?_
 refine AK.meetX (fun σ=>σ=⟨[(6,.i .i64 (w64 (a1-b2))),(21,.b (((decide (a1<0)) != (decide (b2<0)))&&((decide ((w64 (a1-b2))<0)) != (decide (a1<0)))))],[]⟩) ?_ ?_
 ·refine Qa hC [.n 7] rfl tt_ ?_
  rcases QJ ((decide (a1<0)) != (decide (b2<0)))with hc8 | hc8
  ·refine Qa hC [.say 15 (.b true),.n 7,.say 21 (.b (((decide (a1<0)) != (decide (b2<0)))&&((decide ((w64 (a1-b2))<0)) != (decide (a1<0))))),.keep [6,21] []] rfl ⟨⟨tt_,(congrArg V.b hc8)⟩,(congrArg V.b (andT hc8 rfl))⟩ ?_
   exact AK.met rfl
  ·refine Qa hC [.say 15 (.b false),.n 7,.say 21 (.b (((decide (a1<0)) != (decide (b2<0)))&&((decide ((w64 (a1-b2))<0)) != (decide (a1<0))))),.keep [6,21] []] rfl ⟨⟨tt_,(congrArg V.b hc8)⟩,(congrArg V.b (andF hc8 rfl))⟩ ?_
   exact AK.met rfl
 ·rintro σ rfl
  refine Qa hC [.n 1] rfl tt_ ?_
  rcases bifE h with⟨hc9,h⟩|⟨hc9,h⟩
  ·refine Qa hC [.br true,.n 8,.keep [4,5] []] rfl ⟨tt_,hc9⟩ ?_
   cases h
   exact AK.done (ex_ [_,_] (an_ (an_ rfl (an_ rfl tt_)) (gives tt_)))
  ·refine Qa hC [.br false,.n 10,.keep [4,5] []] rfl ⟨tt_,hc9⟩ ?_
   cases h
   exact AK.done (ex_ [_,_] (an_ (an_ rfl (an_ rfl tt_)) (gives tt_)))
def Qh9 (a1:Int):Option Int:=
 bif (decide (a1<0))then
 some (IntKind.u64.wrap (0-(IntKind.u64.wrap a1)))
 else
 some (IntKind.u64.wrap a1)
theorem QnI (a1:Int){r:Int}(h:Qh9 a1=some r):Qc Tryz.prog 274 [.i .i64 a1] [] (Gives (.i .u64 r) []):=by
 refine Qc.walk 10 Tryz.func274 rfl Tryz.ntmps274 rfl fun C hC=>?_
 unfold Qh9 at h
 refine Qa hC [.n 12] rfl tt_ ?_
 rcases bifE h with⟨hc4,h⟩|⟨hc4,h⟩
 ·refine Qa hC [.br true,.n 3,.o (.any (.i .u64 (IntKind.u64.wrap a1)) none),.n 6,.keep [2] []] rfl ⟨⟨tt_,hc4⟩,(fun σ h1 h2 _=>Stp.convI rfl rfl (bleN hC.n rfl) (h1 _ _ rfl) it_3 Qpg)⟩ ?_
  cases h
  exact AK.done (ex_ [_] (an_ (an_ rfl tt_) (gives tt_)))
 ·refine Qa hC [.br false,.n 5,.o (.any (.i .u64 (IntKind.u64.wrap a1)) none),.n 4,.keep [2] []] rfl ⟨⟨tt_,hc4⟩,(fun σ h1 h2 _=>Stp.convI rfl rfl (bleN hC.n rfl) (h1 _ _ rfl) it_3 Qpg)⟩ ?_
  cases h
  exact AK.done (ex_ [_] (an_ (an_ rfl tt_) (gives tt_)))
def QeD (p1:Int)(y2:Int):Option (Int×Int):=
 some ((IntKind.u64.wrap ((IntKind.u64.wrap ((IntKind.u64.wrap ((shrI .u64 p1 32)*(shrI .u64 y2 32)))+(shrI .u64 (IntKind.u64.wrap ((IntKind.u64.wrap ((shrI .u64 p1 32)*(andI .u64 y2 4294967295)))+(shrI .u64 (IntKind.u64.wrap ((andI .u64 p1 4294967295)*(andI .u64 y2 4294967295))) 32))) 32)))+(shrI .u64 (IntKind.u64.wrap ((andI .u64 (IntKind.u64.wrap ((IntKind.u64.wrap ((shrI .u64 p1 32)*(andI .u64 y2 4294967295)))+(shrI .u64 (IntKind.u64.wrap ((andI .u64 p1 4294967295)*(andI .u64 y2 4294967295))) 32))) 4294967295)+(IntKind.u64.wrap ((andI .u64 p1 4294967295)*(shrI .u64 y2 32))))) 32))),(IntKind.u64.wrap (p1*y2)))
theorem Qon (p1:Int)(y2:Int){r:(Int×Int)}(h:QeD p1 y2=some r):Qc Tryz.prog 273 [.i .u64 p1,.i .u64 y2] [] (Gives (.tup [.i .u64 r.1,.i .u64 r.2]) []):=by
 refine Qc.walk 51 Tryz.func273 rfl Tryz.ntmps273 rfl fun C hC=>?_
 unfold QeD at h
 refine Qa hC [.n 9,.o (.any (.i .u64 (andI .u64 p1 4294967295)) none),.n 6,.o (.any (.i .u64 (shrI .u64 p1 32)) none),.n 6,.o (.any (.i .u64 (andI .u64 y2 4294967295)) none),.n 6,.o (.any (.i .u64 (shrI .u64 y2 32)) none),.n 17,.o (.any (.i .u64 (shrI .u64 (IntKind.u64.wrap ((andI .u64 p1 4294967295)*(andI .u64 y2 4294967295))) 32)) none),.n 7,.o (.any (.i .u64 (andI .u64 (IntKind.u64.wrap ((IntKind.u64.wrap ((shrI .u64 p1 32)*(andI .u64 y2 4294967295)))+(shrI .u64 (IntKind.u64.wrap ((andI .u64 p1 4294967295)*(andI .u64 y2 4294967295))) 32))) 4294967295)) none),.n 6,.o (.any (.i .u64 (shrI .u64 (IntKind.u64.wrap ((IntKind.u64.wrap ((shrI .u64 p1 32)*(andI .u64 y2 4294967295)))+(shrI .u64 (IntKind.u64.wrap ((andI .u64 p1 4294967295)*(andI .u64 y2 4294967295))) 32))) 32)) none),.n 21,.o (.any (.i .u64 (shrI .u64 (IntKind.u64.wrap ((andI .u64 (IntKind.u64.wrap ((IntKind.u64.wrap ((shrI .u64 p1 32)*(andI .u64 y2 4294967295)))+(shrI .u64 (IntKind.u64.wrap ((andI .u64 p1 4294967295)*(andI .u64 y2 4294967295))) 32))) 4294967295)+(IntKind.u64.wrap ((andI .u64 p1 4294967295)*(shrI .u64 y2 32))))) 32)) none),.n 13,.keep [4,5] []] rfl ⟨⟨⟨⟨⟨⟨⟨⟨tt_,(fun σ h1 h2 _=>Stp.andB rfl rfl (bleN hC.n rfl) (h1 _ _ rfl) (h1 _ _ rfl))⟩,(fun σ h1 h2 _=>Stp.shr rfl rfl (bleN hC.n rfl) (h1 _ _ rfl) (h1 _ _ rfl) (by decide))⟩,(fun σ h1 h2 _=>Stp.andB rfl rfl (bleN hC.n rfl) (h1 _ _ rfl) (h1 _ _ rfl))⟩,(fun σ h1 h2 _=>Stp.shr rfl rfl (bleN hC.n rfl) (h1 _ _ rfl) (h1 _ _ rfl) (by decide))⟩,(fun σ h1 h2 _=>Stp.shr rfl rfl (bleN hC.n rfl) (h1 _ _ rfl) (h1 _ _ rfl) (by decide))⟩,(fun σ h1 h2 _=>Stp.andB rfl rfl (bleN hC.n rfl) (h1 _ _ rfl) (h1 _ _ rfl))⟩,(fun σ h1 h2 _=>Stp.shr rfl rfl (bleN hC.n rfl) (h1 _ _ rfl) (h1 _ _ rfl) (by decide))⟩,(fun σ h1 h2 _=>Stp.shr rfl rfl (bleN hC.n rfl) (h1 _ _ rfl) (h1 _ _ rfl) (by decide))⟩ ?_
 cases h
 exact AK.done (ex_ [_,_] (an_ (an_ rfl (an_ rfl tt_)) (gives tt_)))
def Qdq (x9:(Int×Int))(a1:Int)(b2:Int)(most10:Int):Option (Int×Int):=
 bif ((decide (0<x9.1))||(decide (most10<x9.2)))then
 some (0,6)
 else
 some ((w64 (a1*b2)),0)
def Qg2 (a1:Int)(b2:Int):Option (Int×Int):=
 (Qh9 a1).bind fun x7=>
 (Qh9 b2).bind fun x8=>
 (QeD x7 x8).bind fun x9=>
 bif ((decide (a1<0)) != (decide (b2<0)))then
 Qdq x9 a1 b2 (IntKind.u64.wrap (9223372036854775807+1))
 else
 Qdq x9 a1 b2 9223372036854775807
theorem Qp3 (a1:Int)(b2:Int){r:(Int×Int)}(h:Qg2 a1 b2=some r):Qc Tryz.prog 268 [.i .i64 a1,.i .i64 b2] [] (Gives (.tup [.i .i64 r.1,.i .i64 r.2]) []):=by
 refine Qc.walk 34 Tryz.func268 rfl Tryz.ntmps268 rfl fun C hC=>?_
 unfold Qg2 at h
 obtain⟨x7,hx7,h⟩:=Qb h
 obtain⟨x8,hx8,h⟩:=Qb h
 obtain⟨x9,hx9,h⟩:=Qb h
 refine Qa hC [.n 9,.o (.c false [.d] (.i .u64 x7)),.n 1,.o (.c false [.d] (.i .u64 x8)),.o (.c false [.d,.d] (.tup [.i .u64 x9.1,.i .u64 x9.2])),.n 12] rfl ⟨⟨⟨tt_,(QnI _ hx7)⟩,(QnI _ hx8)⟩,(Qon _ _ hx9)⟩ ?_
 refine AK.meet (fun σ=>∃most10:Int,σ=⟨[(0,.i .i64 a1),(1,.i .i64 b2),(6,.i .u64 x9.1),(7,.i .u64 x9.2),(8,.i .u64 most10)],[]⟩∧Qdq x9 a1 b2 most10=some r) ?_ ?_
 ·refine Qa hC [.n 9] rfl tt_ ?_
  rcases bifE h with⟨hc14,h⟩|⟨hc14,h⟩
  ·refine Qa hC [.br true,.n 5,.keep [0,1,6,7,8] []] rfl ⟨tt_,hc14⟩ ?_
   exact AK.met (ex_ _ (an_ rfl h))
  ·refine Qa hC [.br false,.n 1,.keep [0,1,6,7,8] []] rfl ⟨tt_,hc14⟩ ?_
   exact AK.met (ex_ _ (an_ rfl h))
 ·rintro σ ⟨most10,rfl,h⟩
  unfold Qdq at h
  refine Qa hC [.n 2] rfl tt_ ?_
  refine AK.meetX (fun σ=>σ=⟨[(0,.i .i64 a1),(1,.i .i64 b2),(30,.b ((decide (0<x9.1))||(decide (most10<x9.2))))],[]⟩) ?_ ?_
  ·refine Qa hC [.n 4] rfl tt_ ?_
   rcases QJ (decide (0<x9.1))with hc12 | hc12
   ·refine Qa hC [.say 26 (.b true),.n 5,.say 30 (.b ((decide (0<x9.1))||(decide (most10<x9.2)))),.keep [0,1,30] []] rfl ⟨⟨tt_,(congrArg V.b hc12)⟩,(congrArg V.b (orT hc12 rfl))⟩ ?_
    exact AK.met rfl
   ·refine Qa hC [.say 26 (.b false),.n 5,.say 30 (.b ((decide (0<x9.1))||(decide (most10<x9.2)))),.keep [0,1,30] []] rfl ⟨⟨tt_,(congrArg V.b hc12)⟩,(congrArg V.b (orF hc12 rfl))⟩ ?_
    exact AK.met rfl
  ·rintro σ rfl
   refine Qa hC [.n 1] rfl tt_ ?_
   rcases bifE h with⟨hc13,h⟩|⟨hc13,h⟩
   ·refine Qa hC [.br true,.n 8,.keep [4,5] []] rfl ⟨tt_,hc13⟩ ?_
    cases h
    exact AK.done (ex_ [_,_] (an_ (an_ rfl (an_ rfl tt_)) (gives tt_)))
   ·refine Qa hC [.br false,.n 12,.keep [4,5] []] rfl ⟨tt_,hc13⟩ ?_
    cases h
    exact AK.done (ex_ [_,_] (an_ (an_ rfl (an_ rfl tt_)) (gives tt_)))
def Qeg (a1:Int)(b2:Int):Option (Int×Int×Int):=
 bif (b2==0)then
 some (0,0,7)
 else
 bif ((a1==(-9223372036854775808))&&(b2==(-1)))then
 some (0,0,6)
 else
 (chk (b2 != 0)).bind fun _=>
 (chk (b2 != 0)).bind fun _=>
 some ((w64 (Int.tdiv a1 b2)),(Int.tmod a1 b2),0)
theorem QlF (a1:Int)(b2:Int){r:(Int×Int×Int)}(h:Qeg a1 b2=some r):Qc Tryz.prog 269 [.i .i64 a1,.i .i64 b2] [] (Gives (.tup [.i .i64 r.1,.i .i64 r.2.1,.i .i64 r.2.2]) []):=by
 refine Qc.walk 23 Tryz.func269 rfl Tryz.ntmps269 rfl fun C hC=>?_
 unfold Qeg at h
 refine Qa hC [.n 16] rfl tt_ ?_
 rcases bifE h with⟨hc9,h⟩|⟨hc9,h⟩
 ·refine Qa hC [.br true,.n 10,.keep [4,5,6] []] rfl ⟨tt_,hc9⟩ ?_
  cases h
  exact AK.done (ex_ [_,_,_] (an_ (an_ rfl (an_ rfl (an_ rfl tt_))) (gives tt_)))
 ·refine Qa hC [.br false,.n 1] rfl ⟨tt_,hc9⟩ ?_
  refine AK.meetX (fun σ=>σ=⟨[(0,.i .i64 a1),(1,.i .i64 b2),(10,.b ((a1==(-9223372036854775808))&&(b2==(-1))))],[]⟩) ?_ ?_
  ·refine Qa hC [.n 4] rfl tt_ ?_
   rcases QJ (a1==(-9223372036854775808))with hc11 | hc11
   ·refine Qa hC [.say 13 (.b true),.n 5,.say 10 (.b ((a1==(-9223372036854775808))&&(b2==(-1)))),.keep [0,1,10] []] rfl ⟨⟨tt_,(congrArg V.b hc11)⟩,(congrArg V.b (andT hc11 rfl))⟩ ?_
    exact AK.met rfl
   ·refine Qa hC [.say 13 (.b false),.n 5,.say 10 (.b ((a1==(-9223372036854775808))&&(b2==(-1)))),.keep [0,1,10] []] rfl ⟨⟨tt_,(congrArg V.b hc11)⟩,(congrArg V.b (andF hc11 rfl))⟩ ?_
    exact AK.met rfl
  ·rintro σ rfl
   refine Qa hC [.n 1] rfl tt_ ?_
   rcases bifE h with⟨hc12,h⟩|⟨hc12,h⟩
   ·refine Qa hC [.br true,.n 10,.keep [4,5,6] []] rfl ⟨tt_,hc12⟩ ?_
    cases h
    exact AK.done (ex_ [_,_,_] (an_ (an_ rfl (an_ rfl (an_ rfl tt_))) (gives tt_)))
   ·obtain⟨_,hk13,h⟩:=Qb h
    replace hk13:=chkE hk13
    obtain⟨_,hk14,h⟩:=Qb h
    replace hk14:=chkE hk14
    refine Qa hC [.br false,.n 4,.keep [0,1] []] rfl ⟨tt_,hc12⟩ ?_
    refine AK.draw2 Qo hC mixed [.a .no none false,.a .no none false,.a .no none false,.a .no none false,.a .no none false,.a .no none false,.a .no none false,.a .no none false,.a .no none false] [] [] [4,5,6] [] rfl rfl rfl ⟨⟨tt_,(neZ hk13)⟩,(neZ hk14)⟩ rfl (by kernel_rfl) rfl rfl rfl ?_
    refine Qa hC [.n 2,.keep [4,5,6] []] rfl tt_ ?_
    cases h
    exact AK.done (ex_ [_,_,_] (an_ (an_ rfl (an_ rfl (an_ rfl tt_))) (gives tt_)))
def QcD (is1:Bool):Option (Int×Int):=
 bif is1 then
 some (1,0)
 else
 some (0,0)
theorem Qdu (is1:Bool){r:(Int×Int)}(h:QcD is1=some r):Qc Tryz.prog 270 [.b is1] [] (Gives (.tup [.i .i64 r.1,.i .i64 r.2]) []):=by
 refine Qc.walk 5 Tryz.func270 rfl Tryz.ntmps270 rfl fun C hC=>?_
 unfold QcD at h
 refine Qa hC [.n 12] rfl tt_ ?_
 rcases bifE h with⟨hc5,h⟩|⟨hc5,h⟩
 ·refine Qa hC [.br true,.n 8,.keep [2,3] []] rfl ⟨tt_,hc5⟩ ?_
  cases h
  exact AK.done (ex_ [_,_] (an_ (an_ rfl (an_ rfl tt_)) (gives tt_)))
 ·refine Qa hC [.br false,.n 9,.keep [2,3] []] rfl ⟨tt_,hc5⟩ ?_
  cases h
  exact AK.done (ex_ [_,_] (an_ (an_ rfl (an_ rfl tt_)) (gives tt_)))
def Qmx (a2:Int)(b3:Int):Option (Int×Int):=
 bif (a2 != 0)then
 (QcD (b3 != 0)).bind fun x31=>
 some (x31.1,x31.2)
 else
 (QcD false).bind fun x32=>
 some (x32.1,x32.2)
def QiI (x27:Int)(x28:Int):Option (Int×Int):=
 some (x27,x28)
def Qmy (a2:Int)(b3:Int):Option (Int×Int):=
 bif (a2 != 0)then
 (QcD true).bind fun x38=>
 some (x38.1,x38.2)
 else
 (QcD (b3 != 0)).bind fun x39=>
 some (x39.1,x39.2)
def QiJ (x34:Int)(x35:Int):Option (Int×Int):=
 some (x34,x35)
def Qhr (op1:Int)(a2:Int)(b3:Int):Option (Int×Int):=
 bif (op1==1)then
 (QkG a2 b3).bind fun x9=>
 some (x9.1,x9.2)
 else
 bif (op1==2)then
 (QeC a2 b3).bind fun x11=>
 some (x11.1,x11.2)
 else
 bif (op1==3)then
 (Qg2 a2 b3).bind fun x13=>
 some (x13.1,x13.2)
 else
 bif (op1==4)then
 (Qeg a2 b3).bind fun x15=>
 some (x15.1,x15.2.2)
 else
 bif (op1==5)then
 (Qeg a2 b3).bind fun x17=>
 some (x17.2.1,x17.2.2)
 else
 bif (op1==6)then
 (QcD (a2==b3)).bind fun x19=>
 some (x19.1,x19.2)
 else
 bif (op1==7)then
 (QcD (a2 != b3)).bind fun x21=>
 some (x21.1,x21.2)
 else
 bif (op1==8)then
 (QcD (decide (a2<b3))).bind fun x23=>
 some (x23.1,x23.2)
 else
 bif (op1==9)then
 (QcD (decide (a2≤b3))).bind fun x25=>
 some (x25.1,x25.2)
 else
 bif (op1==10)then
 (Qmx a2 b3).bind (fun v=>QiI v.1 v.2)
 else
 bif (op1==11)then
 (Qmy a2 b3).bind (fun v=>QiJ v.1 v.2)
 else
 some (0,1)
theorem QkH (op1:Int)(a2:Int)(b3:Int){r:(Int×Int)}(h:Qhr op1 a2 b3=some r):Qc Tryz.prog 260 [.i .i64 op1,.i .i64 a2,.i .i64 b3] [] (Gives (.tup [.i .i64 r.1,.i .i64 r.2]) []):=by
 refine Qc.walk 112 Tryz.func260 rfl Tryz.ntmps260 rfl fun C hC=>?_
 unfold Qhr at h
 refine Qa hC [.n 19] rfl tt_ ?_
 rcases bifE h with⟨hc8,h⟩|⟨hc8,h⟩
 ·obtain⟨x9,hx9,h⟩:=Qb h
  refine Qa hC [.br true,.n 4,.o (.c false [.d,.d] (.tup [.i .i64 x9.1,.i .i64 x9.2])),.n 9,.keep [6,7] []] rfl ⟨⟨tt_,hc8⟩,(QsL _ _ hx9)⟩ ?_
  cases h
  exact AK.done (ex_ [_,_] (an_ (an_ rfl (an_ rfl tt_)) (gives tt_)))
 ·refine Qa hC [.br false,.n 6] rfl ⟨tt_,hc8⟩ ?_
  rcases bifE h with⟨hc10,h⟩|⟨hc10,h⟩
  ·obtain⟨x11,hx11,h⟩:=Qb h
   refine Qa hC [.br true,.n 4,.o (.c false [.d,.d] (.tup [.i .i64 x11.1,.i .i64 x11.2])),.n 9,.keep [6,7] []] rfl ⟨⟨tt_,hc10⟩,(Qom _ _ hx11)⟩ ?_
   cases h
   exact AK.done (ex_ [_,_] (an_ (an_ rfl (an_ rfl tt_)) (gives tt_)))
  ·refine Qa hC [.br false,.n 6] rfl ⟨tt_,hc10⟩ ?_
   rcases bifE h with⟨hc12,h⟩|⟨hc12,h⟩
   ·obtain⟨x13,hx13,h⟩:=Qb h
    refine Qa hC [.br true,.n 4,.o (.c false [.d,.d] (.tup [.i .i64 x13.1,.i .i64 x13.2])),.n 9,.keep [6,7] []] rfl ⟨⟨tt_,hc12⟩,(Qp3 _ _ hx13)⟩ ?_
    cases h
    exact AK.done (ex_ [_,_] (an_ (an_ rfl (an_ rfl tt_)) (gives tt_)))
   ·refine Qa hC [.br false,.n 6] rfl ⟨tt_,hc12⟩ ?_
    rcases bifE h with⟨hc14,h⟩|⟨hc14,h⟩
    ·obtain⟨x15,hx15,h⟩:=Qb h
     refine Qa hC [.br true,.n 4,.o (.c false [.d,.d] (.tup [.i .i64 x15.1,.i .i64 x15.2.1,.i .i64 x15.2.2])),.n 20,.keep [6,7] []] rfl ⟨⟨tt_,hc14⟩,(QlF _ _ hx15)⟩ ?_
     cases h
     exact AK.done (ex_ [_,_] (an_ (an_ rfl (an_ rfl tt_)) (gives tt_)))
    ·refine Qa hC [.br false,.n 6] rfl ⟨tt_,hc14⟩ ?_
     rcases bifE h with⟨hc16,h⟩|⟨hc16,h⟩
     ·obtain⟨x17,hx17,h⟩:=Qb h
      refine Qa hC [.br true,.n 4,.o (.c false [.d,.d] (.tup [.i .i64 x17.1,.i .i64 x17.2.1,.i .i64 x17.2.2])),.n 20,.keep [6,7] []] rfl ⟨⟨tt_,hc16⟩,(QlF _ _ hx17)⟩ ?_
      cases h
      exact AK.done (ex_ [_,_] (an_ (an_ rfl (an_ rfl tt_)) (gives tt_)))
     ·refine Qa hC [.br false,.n 6] rfl ⟨tt_,hc16⟩ ?_
      rcases bifE h with⟨hc18,h⟩|⟨hc18,h⟩
      ·obtain⟨x19,hx19,h⟩:=Qb h
       refine Qa hC [.br true,.n 5,.o (.c false [.d] (.tup [.i .i64 x19.1,.i .i64 x19.2])),.n 9,.keep [6,7] []] rfl ⟨⟨tt_,hc18⟩,(Qdu _ hx19)⟩ ?_
       cases h
       exact AK.done (ex_ [_,_] (an_ (an_ rfl (an_ rfl tt_)) (gives tt_)))
      ·refine Qa hC [.br false,.n 6] rfl ⟨tt_,hc18⟩ ?_
       rcases bifE h with⟨hc20,h⟩|⟨hc20,h⟩
       ·obtain⟨x21,hx21,h⟩:=Qb h
        refine Qa hC [.br true,.n 5,.o (.c false [.d] (.tup [.i .i64 x21.1,.i .i64 x21.2])),.n 9,.keep [6,7] []] rfl ⟨⟨tt_,hc20⟩,(Qdu _ hx21)⟩ ?_
        cases h
        exact AK.done (ex_ [_,_] (an_ (an_ rfl (an_ rfl tt_)) (gives tt_)))
       ·refine Qa hC [.br false,.n 6] rfl ⟨tt_,hc20⟩ ?_
        rcases bifE h with⟨hc22,h⟩|⟨hc22,h⟩
        ·obtain⟨x23,hx23,h⟩:=Qb h
         refine Qa hC [.br true,.n 5,.o (.c false [.d] (.tup [.i .i64 x23.1,.i .i64 x23.2])),.n 9,.keep [6,7] []] rfl ⟨⟨tt_,hc22⟩,(Qdu _ hx23)⟩ ?_
         cases h
         exact AK.done (ex_ [_,_] (an_ (an_ rfl (an_ rfl tt_)) (gives tt_)))
        ·refine Qa hC [.br false,.n 6] rfl ⟨tt_,hc22⟩ ?_
         rcases bifE h with⟨hc24,h⟩|⟨hc24,h⟩
         ·obtain⟨x25,hx25,h⟩:=Qb h
          refine Qa hC [.br true,.n 5,.o (.c false [.d] (.tup [.i .i64 x25.1,.i .i64 x25.2])),.n 9,.keep [6,7] []] rfl ⟨⟨tt_,hc24⟩,(Qdu _ hx25)⟩ ?_
          cases h
          exact AK.done (ex_ [_,_] (an_ (an_ rfl (an_ rfl tt_)) (gives tt_)))
         ·refine Qa hC [.br false,.n 6] rfl ⟨tt_,hc24⟩ ?_
          rcases bifE h with⟨hc26,h⟩|⟨hc26,h⟩
          ·refine Qa hC [.br true,.n 1] rfl ⟨tt_,hc26⟩ ?_
           obtain⟨v,hv29,h⟩:=Qb h
           replace h:QiI v.1 v.2=some r:=h
           refine AK.meetX (fun σ=>σ=⟨[(6,.i .i64 v.1),(7,.i .i64 v.2)],[]⟩) ?_ ?_
           ·replace h:=hv29
            unfold Qmx at h
            refine Qa hC [.n 4] rfl tt_ ?_
            rcases bifE h with⟨hc30,h⟩|⟨hc30,h⟩
            ·obtain⟨x31,hx31,h⟩:=Qb h
             refine Qa hC [.say 94 (.b true),.n 3,.o (.c false [.d] (.tup [.i .i64 x31.1,.i .i64 x31.2])),.n 5,.keep [6,7] []] rfl ⟨⟨tt_,(congrArg V.b hc30)⟩,(Qdu _ hx31)⟩ ?_
             cases h
             exact AK.met rfl
            ·obtain⟨x32,hx32,h⟩:=Qb h
             refine Qa hC [.say 94 (.b false),.n 3,.o (.c false [.d] (.tup [.i .i64 x32.1,.i .i64 x32.2])),.n 5,.keep [6,7] []] rfl ⟨⟨tt_,(congrArg V.b hc30)⟩,(Qdu _ hx32)⟩ ?_
             cases h
             exact AK.met rfl
           ·rintro σ rfl
            obtain⟨x27,x28⟩:=v
            replace h:QiI x27 x28=some r:=h
            unfold QiI at h
            refine Qa hC [.n 4,.keep [6,7] []] rfl tt_ ?_
            cases h
            exact AK.done (ex_ [_,_] (an_ (an_ rfl (an_ rfl tt_)) (gives tt_)))
          ·refine Qa hC [.br false,.n 6] rfl ⟨tt_,hc26⟩ ?_
           rcases bifE h with⟨hc33,h⟩|⟨hc33,h⟩
           ·refine Qa hC [.br true,.n 1] rfl ⟨tt_,hc33⟩ ?_
            obtain⟨v,hv36,h⟩:=Qb h
            replace h:QiJ v.1 v.2=some r:=h
            refine AK.meetX (fun σ=>σ=⟨[(6,.i .i64 v.1),(7,.i .i64 v.2)],[]⟩) ?_ ?_
            ·replace h:=hv36
             unfold Qmy at h
             refine Qa hC [.n 4] rfl tt_ ?_
             rcases bifE h with⟨hc37,h⟩|⟨hc37,h⟩
             ·obtain⟨x38,hx38,h⟩:=Qb h
              refine Qa hC [.say 105 (.b true),.n 3,.o (.c false [.d] (.tup [.i .i64 x38.1,.i .i64 x38.2])),.n 5,.keep [6,7] []] rfl ⟨⟨tt_,(congrArg V.b hc37)⟩,(Qdu _ hx38)⟩ ?_
              cases h
              exact AK.met rfl
             ·obtain⟨x39,hx39,h⟩:=Qb h
              refine Qa hC [.say 105 (.b false),.n 3,.o (.c false [.d] (.tup [.i .i64 x39.1,.i .i64 x39.2])),.n 5,.keep [6,7] []] rfl ⟨⟨tt_,(congrArg V.b hc37)⟩,(Qdu _ hx39)⟩ ?_
              cases h
              exact AK.met rfl
            ·rintro σ rfl
             obtain⟨x34,x35⟩:=v
             replace h:QiJ x34 x35=some r:=h
             unfold QiJ at h
             refine Qa hC [.n 4,.keep [6,7] []] rfl tt_ ?_
             cases h
             exact AK.done (ex_ [_,_] (an_ (an_ rfl (an_ rfl tt_)) (gives tt_)))
           ·refine Qa hC [.br false,.n 10,.keep [6,7] []] rfl ⟨tt_,hc33⟩ ?_
            cases h
            exact AK.done (ex_ [_,_] (an_ (an_ rfl (an_ rfl tt_)) (gives tt_)))
def QkI (a1:Int):Option (Int×Int):=
 (Qhr 2 0 a1).bind fun x4=>
 some (x4.1,x4.2)
theorem QsM (a1:Int){r:(Int×Int)}(h:QkI a1=some r):Qc Tryz.prog 259 [.i .i64 a1] [] (Gives (.tup [.i .i64 r.1,.i .i64 r.2]) []):=by
 refine Qc.walk 8 Tryz.func259 rfl Tryz.ntmps259 rfl fun C hC=>?_
 unfold QkI at h
 obtain⟨x4,hx4,h⟩:=Qb h
 refine Qa hC [.n 9,.o (.c false [.d,.d,.d] (.tup [.i .i64 x4.1,.i .i64 x4.2])),.n 7,.keep [2,3] []] rfl ⟨tt_,(QkH _ _ _ hx4)⟩ ?_
 cases h
 exact AK.done (ex_ [_,_] (an_ (an_ rfl (an_ rfl tt_)) (gives tt_)))
def QeE (rec_expr_env_eval:(List Int)→Qg→Option (Int×Int))(v1:(List Int))(e2:Qg):Option (Int×Int):=
 (idx e2.Kids 0).bind fun e7=>
 (rec_expr_env_eval v1 e7).bind fun x8=>
 bif (x8.2 != 0)then
 some (0,x8.2)
 else
 bif (e2.Kind==3)then
 (QkI x8.1).bind fun x11=>
 some (x11.1,x11.2)
 else
 (Qhr 6 x8.1 0).bind fun x12=>
 some (x12.1,x12.2)
theorem Qoo (rec_expr_env_eval:(List Int)→Qg→Option (Int×Int))(hrec_expr_env_eval:∀(v1:(List Int)) (e2:Qg) {r:(Int×Int)},rec_expr_env_eval v1 e2=some r→Qc Tryz.prog 140 [.sl 1 (v1.map Qe),.agg (Qm e2)] [] (Gives (.tup [.i .i64 r.1,.i .i64 r.2]) []))(v1:(List Int))(e2:Qg){r:(Int×Int)}(h:QeE rec_expr_env_eval v1 e2=some r):Qc Tryz.prog 246 [.sl 1 (v1.map Qe),.agg (Qm e2)] [] (Gives (.tup [.i .i64 r.1,.i .i64 r.2]) []):=by
 refine Qc.walk 33 Tryz.func246 rfl Tryz.ntmps246 rfl fun C hC=>?_
 unfold QeE at h
 obtain⟨e7,he7,h⟩:=Qb h
 obtain⟨x8,hx8,h⟩:=Qb h
 refine Qa hC [.n 12,.o (.row (Qm e7)),.v .no [] (.agg (Qm e7)),.o (.c false [.d,.d] (.tup [.i .i64 x8.1,.i .i64 x8.2])),.n 16] rfl ⟨⟨⟨tt_,(QdR he7)⟩,rfl⟩,(hrec_expr_env_eval _ _ hx8)⟩ ?_
 rcases bifE h with⟨hc9,h⟩|⟨hc9,h⟩
 ·refine Qa hC [.br true,.n 10,.keep [4,5] []] rfl ⟨tt_,hc9⟩ ?_
  cases h
  exact AK.done (ex_ [_,_] (an_ (an_ rfl (an_ rfl tt_)) (gives tt_)))
 ·refine Qa hC [.br false,.n 8] rfl ⟨tt_,hc9⟩ ?_
  rcases bifE h with⟨hc10,h⟩|⟨hc10,h⟩
  ·obtain⟨x11,hx11,h⟩:=Qb h
   refine Qa hC [.br true,.n 3,.o (.c false [.d] (.tup [.i .i64 x11.1,.i .i64 x11.2])),.n 9,.keep [4,5] []] rfl ⟨⟨tt_,hc10⟩,(QsM _ hx11)⟩ ?_
   cases h
   exact AK.done (ex_ [_,_] (an_ (an_ rfl (an_ rfl tt_)) (gives tt_)))
  ·obtain⟨x12,hx12,h⟩:=Qb h
   refine Qa hC [.br false,.n 6,.o (.c false [.d,.d,.d] (.tup [.i .i64 x12.1,.i .i64 x12.2])),.n 7,.keep [4,5] []] rfl ⟨⟨tt_,hc10⟩,(QkH _ _ _ hx12)⟩ ?_
   cases h
   exact AK.done (ex_ [_,_] (an_ (an_ rfl (an_ rfl tt_)) (gives tt_)))
def Qcl (x8:(Int×Int))(e2:Qg)(rec_expr_env_eval:(List Int)→Qg→Option (Int×Int))(v1:(List Int))(x10:Bool):Option (Int×Int):=
 bif x10 then
 (Qhr 7 x8.1 0).bind fun x12=>
 some (x12.1,x12.2)
 else
 (idx e2.Kids 1).bind fun e13=>
 (rec_expr_env_eval v1 e13).bind fun x14=>
 bif (x14.2 != 0)then
 some (0,x14.2)
 else
 (Qhr e2.Num x8.1 x14.1).bind fun x16=>
 some (x16.1,x16.2)
def Qja (rec_expr_env_eval:(List Int)→Qg→Option (Int×Int))(v1:(List Int))(e2:Qg):Option (Int×Int):=
 (idx e2.Kids 0).bind fun e7=>
 (rec_expr_env_eval v1 e7).bind fun x8=>
 bif (x8.2 != 0)then
 some (0,x8.2)
 else
 bif ((e2.Num==10)&&(x8.1==0))then
 Qcl x8 e2 rec_expr_env_eval v1 ((e2.Num==10)&&(x8.1==0))
 else
 bif (e2.Num==11)then
 Qcl x8 e2 rec_expr_env_eval v1 (x8.1 != 0)
 else
 Qcl x8 e2 rec_expr_env_eval v1 false
theorem Qp4 (rec_expr_env_eval:(List Int)→Qg→Option (Int×Int))(hrec_expr_env_eval:∀(v1:(List Int)) (e2:Qg) {r:(Int×Int)},rec_expr_env_eval v1 e2=some r→Qc Tryz.prog 140 [.sl 1 (v1.map Qe),.agg (Qm e2)] [] (Gives (.tup [.i .i64 r.1,.i .i64 r.2]) []))(v1:(List Int))(e2:Qg){r:(Int×Int)}(h:Qja rec_expr_env_eval v1 e2=some r):Qc Tryz.prog 247 [.sl 1 (v1.map Qe),.agg (Qm e2)] [] (Gives (.tup [.i .i64 r.1,.i .i64 r.2]) []):=by
 refine Qc.walk 60 Tryz.func247 rfl Tryz.ntmps247 rfl fun C hC=>?_
 unfold Qja at h
 obtain⟨e7,he7,h⟩:=Qb h
 obtain⟨x8,hx8,h⟩:=Qb h
 refine Qa hC [.n 12,.o (.row (Qm e7)),.v .no [] (.agg (Qm e7)),.o (.c false [.d,.d] (.tup [.i .i64 x8.1,.i .i64 x8.2])),.n 16] rfl ⟨⟨⟨tt_,(QdR he7)⟩,rfl⟩,(hrec_expr_env_eval _ _ hx8)⟩ ?_
 rcases bifE h with⟨hc9,h⟩|⟨hc9,h⟩
 ·refine Qa hC [.br true,.n 10,.keep [4,5] []] rfl ⟨tt_,hc9⟩ ?_
  cases h
  exact AK.done (ex_ [_,_] (an_ (an_ rfl (an_ rfl tt_)) (gives tt_)))
 ·refine Qa hC [.br false] rfl ⟨tt_,hc9⟩ ?_
  refine AK.meet (fun σ=>∃x10:Bool,σ=⟨[(0,.sl 1 (v1.map Qe)),(3,.loc 3 0 0),(6,.i .i64 x8.1),(22,.b x10)],[(3,.var (Qm e2))]⟩∧Qcl x8 e2 rec_expr_env_eval v1 x10=some r) ?_ ?_
  ·refine Qa hC [.n 1] rfl tt_ ?_
   refine AK.meetX (fun σ=>σ=⟨[(0,.sl 1 (v1.map Qe)),(3,.loc 3 0 0),(6,.i .i64 x8.1),(22,.b ((e2.Num==10)&&(x8.1==0)))],[(3,.var (Qm e2))]⟩) ?_ ?_
   ·refine Qa hC [.n 5] rfl tt_ ?_
    rcases QJ (e2.Num==10)with hc18 | hc18
    ·refine Qa hC [.say 26 (.b true),.n 5,.say 22 (.b ((e2.Num==10)&&(x8.1==0))),.keep [0,3,6,22] [3]] rfl ⟨⟨tt_,(congrArg V.b hc18)⟩,(congrArg V.b (andT hc18 rfl))⟩ ?_
     exact AK.met rfl
    ·refine Qa hC [.say 26 (.b false),.n 5,.say 22 (.b ((e2.Num==10)&&(x8.1==0))),.keep [0,3,6,22] [3]] rfl ⟨⟨tt_,(congrArg V.b hc18)⟩,(congrArg V.b (andF hc18 rfl))⟩ ?_
     exact AK.met rfl
   ·rintro σ rfl
    refine Qa hC [.n 1] rfl tt_ ?_
    rcases bifE h with⟨hc19,h⟩|⟨hc19,h⟩
    ·refine Qa hC [.br true,.n 1,.keep [0,3,6,22] [3]] rfl ⟨tt_,hc19⟩ ?_
     exact AK.met (ex_ _ (an_ rfl h))
    ·refine Qa hC [.br false,.n 5] rfl ⟨tt_,hc19⟩ ?_
     rcases bifE h with⟨hc20,h⟩|⟨hc20,h⟩
     ·refine Qa hC [.say 33 (.b true),.n 5,.keep [0,3,6,22] [3]] rfl ⟨tt_,(congrArg V.b hc20)⟩ ?_
      exact AK.met (ex_ _ (an_ rfl h))
     ·refine Qa hC [.say 33 (.b false),.n 5,.keep [0,3,6,22] [3]] rfl ⟨tt_,(congrArg V.b hc20)⟩ ?_
      exact AK.met (ex_ _ (an_ rfl h))
  ·rintro σ ⟨x10,rfl,h⟩
   unfold Qcl at h
   rcases bifE h with⟨hc11,h⟩|⟨hc11,h⟩
   ·obtain⟨x12,hx12,h⟩:=Qb h
    refine Qa hC [.br true,.n 3,.o (.c false [.d,.d,.d] (.tup [.i .i64 x12.1,.i .i64 x12.2])),.n 9,.keep [4,5] []] rfl ⟨⟨tt_,hc11⟩,(QkH _ _ _ hx12)⟩ ?_
    cases h
    exact AK.done (ex_ [_,_] (an_ (an_ rfl (an_ rfl tt_)) (gives tt_)))
   ·obtain⟨e13,he13,h⟩:=Qb h
    obtain⟨x14,hx14,h⟩:=Qb h
    refine Qa hC [.br false,.n 8,.o (.row (Qm e13)),.v .no [] (.agg (Qm e13)),.o (.c false [.d,.d] (.tup [.i .i64 x14.1,.i .i64 x14.2])),.n 14] rfl ⟨⟨⟨⟨tt_,hc11⟩,(QdR he13)⟩,rfl⟩,(hrec_expr_env_eval _ _ hx14)⟩ ?_
    rcases bifE h with⟨hc15,h⟩|⟨hc15,h⟩
    ·refine Qa hC [.br true,.n 9,.keep [4,5] []] rfl ⟨tt_,hc15⟩ ?_
     cases h
     exact AK.done (ex_ [_,_] (an_ (an_ rfl (an_ rfl tt_)) (gives tt_)))
    ·obtain⟨x16,hx16,h⟩:=Qb h
     refine Qa hC [.br false,.n 8,.o (.c false [.d,.d,.d] (.tup [.i .i64 x16.1,.i .i64 x16.2])),.n 7,.keep [4,5] []] rfl ⟨⟨tt_,hc15⟩,(QkH _ _ _ hx16)⟩ ?_
     cases h
     exact AK.done (ex_ [_,_] (an_ (an_ rfl (an_ rfl tt_)) (gives tt_)))
def QgS (rec_expr_env_eval:(List Int)→Qg→Option (Int×Int))(v1:(List Int))(e2:Qg):Option (Int×Int):=
 (idx e2.Kids 0).bind fun e7=>
 (rec_expr_env_eval v1 e7).bind fun x8=>
 bif (x8.2 != 0)then
 some (0,x8.2)
 else
 bif (x8.1 != 0)then
 (idx e2.Kids 1).bind fun e11=>
 (rec_expr_env_eval v1 e11).bind fun x12=>
 some (x12.1,x12.2)
 else
 (idx e2.Kids 2).bind fun e13=>
 (rec_expr_env_eval v1 e13).bind fun x14=>
 some (x14.1,x14.2)
theorem Qop (rec_expr_env_eval:(List Int)→Qg→Option (Int×Int))(hrec_expr_env_eval:∀(v1:(List Int)) (e2:Qg) {r:(Int×Int)},rec_expr_env_eval v1 e2=some r→Qc Tryz.prog 140 [.sl 1 (v1.map Qe),.agg (Qm e2)] [] (Gives (.tup [.i .i64 r.1,.i .i64 r.2]) []))(v1:(List Int))(e2:Qg){r:(Int×Int)}(h:QgS rec_expr_env_eval v1 e2=some r):Qc Tryz.prog 248 [.sl 1 (v1.map Qe),.agg (Qm e2)] [] (Gives (.tup [.i .i64 r.1,.i .i64 r.2]) []):=by
 refine Qc.walk 40 Tryz.func248 rfl Tryz.ntmps248 rfl fun C hC=>?_
 unfold QgS at h
 obtain⟨e7,he7,h⟩:=Qb h
 obtain⟨x8,hx8,h⟩:=Qb h
 refine Qa hC [.n 12,.o (.row (Qm e7)),.v .no [] (.agg (Qm e7)),.o (.c false [.d,.d] (.tup [.i .i64 x8.1,.i .i64 x8.2])),.n 16] rfl ⟨⟨⟨tt_,(QdR he7)⟩,rfl⟩,(hrec_expr_env_eval _ _ hx8)⟩ ?_
 rcases bifE h with⟨hc9,h⟩|⟨hc9,h⟩
 ·refine Qa hC [.br true,.n 10,.keep [4,5] []] rfl ⟨tt_,hc9⟩ ?_
  cases h
  exact AK.done (ex_ [_,_] (an_ (an_ rfl (an_ rfl tt_)) (gives tt_)))
 ·refine Qa hC [.br false,.n 7] rfl ⟨tt_,hc9⟩ ?_
  rcases bifE h with⟨hc10,h⟩|⟨hc10,h⟩
  ·obtain⟨e11,he11,h⟩:=Qb h
   obtain⟨x12,hx12,h⟩:=Qb h
   refine Qa hC [.br true,.n 5,.o (.row (Qm e11)),.v .no [] (.agg (Qm e11)),.o (.c false [.d,.d] (.tup [.i .i64 x12.1,.i .i64 x12.2])),.n 9,.keep [4,5] []] rfl ⟨⟨⟨⟨tt_,hc10⟩,(QdR he11)⟩,rfl⟩,(hrec_expr_env_eval _ _ hx12)⟩ ?_
   cases h
   exact AK.done (ex_ [_,_] (an_ (an_ rfl (an_ rfl tt_)) (gives tt_)))
  ·obtain⟨e13,he13,h⟩:=Qb h
   obtain⟨x14,hx14,h⟩:=Qb h
   refine Qa hC [.br false,.n 8,.o (.row (Qm e13)),.v .no [] (.agg (Qm e13)),.o (.c false [.d,.d] (.tup [.i .i64 x14.1,.i .i64 x14.2])),.n 7,.keep [4,5] []] rfl ⟨⟨⟨⟨tt_,hc10⟩,(QdR he13)⟩,rfl⟩,(hrec_expr_env_eval _ _ hx14)⟩ ?_
   cases h
   exact AK.done (ex_ [_,_] (an_ (an_ rfl (an_ rfl tt_)) (gives tt_)))
def QiK (e2:Qg)(a8:(List Int)):Option (Int×Int):=
 (Qjq a8 e2).bind fun x13=>
 some (x13.1,x13.2)
def Qd5 (e2:Qg)(a9:(List Int)):Option (Int×Int):=
 (QfV a9 e2).bind fun x14=>
 some (x14.1,x14.2)
def Qb0 (rec_expr_env_eval:(List Int)→Qg→Option (Int×Int))(e2:Qg)(a10:(List Int)):Option (Int×Int):=
 (QeE rec_expr_env_eval a10 e2).bind fun x15=>
 some (x15.1,x15.2)
def Qd6 (rec_expr_env_eval:(List Int)→Qg→Option (Int×Int))(e2:Qg)(a11:(List Int)):Option (Int×Int):=
 (Qja rec_expr_env_eval a11 e2).bind fun x16=>
 some (x16.1,x16.2)
def Qd7 (rec_expr_env_eval:(List Int)→Qg→Option (Int×Int))(e2:Qg)(a12:(List Int)):Option (Int×Int):=
 (QgS rec_expr_env_eval a12 e2).bind fun x17=>
 some (x17.1,x17.2)
def QgT (rec_expr_env_eval:(List Int)→Qg→Option (Int×Int))(v1:(List Int))(e2:Qg):Option (Int×Int):=
 (QbN v1 e2.Kind).bind fun x7=>
 (Sum.elim (fun q=>QiK e2 q) (Sum.elim (fun q=>Qd5 e2 q) (Sum.elim (fun q=>Qb0 rec_expr_env_eval e2 q) (Sum.elim (fun q=>Qd6 rec_expr_env_eval e2 q) (fun q=>Qd7 rec_expr_env_eval e2 q))))) x7
def Qap : Nat→(List Int)→Qg→Option (Int×Int)
 | 0,_,_=>none
 | n+1,v1,e2=>QgT (Qap n) v1 e2
def QkJ (v1:(List Int))(e2:Qg):Option (Int×Int):=Qap (SizeOf.sizeOf e2) v1 e2
theorem Qoq (rec_expr_env_eval:(List Int)→Qg→Option (Int×Int))(hrec_expr_env_eval:∀(v1:(List Int)) (e2:Qg) {r:(Int×Int)},rec_expr_env_eval v1 e2=some r→Qc Tryz.prog 140 [.sl 1 (v1.map Qe),.agg (Qm e2)] [] (Gives (.tup [.i .i64 r.1,.i .i64 r.2]) []))(v1:(List Int))(e2:Qg){r:(Int×Int)}(h:QgT rec_expr_env_eval v1 e2=some r):Qc Tryz.prog 140 [.sl 1 (v1.map Qe),.agg (Qm e2)] [] (Gives (.tup [.i .i64 r.1,.i .i64 r.2]) []):=by
 refine Qc.walk 14 Tryz.func140 rfl Tryz.ntmps140 rfl fun C hC=>?_
 unfold QgT at h
 refine Qa hC [.n 8] rfl tt_ ?_
 obtain⟨x7,hx7,h⟩:=Qb h
 rcases x7 with(a8 | (a9 | (a10 | (a11 | a12))))
 ·replace h:QiK e2 a8=some r:=h
  unfold QiK at h
  obtain⟨x13,hx13,h⟩:=Qb h
  refine Qa hC [.keep [0,3,4,5] [3]] rfl tt_ ?_
  refine AK.draw2 Qo hC mixed [.a .no none false,.a .no none false,.a .no none false,.a (.any (.clo (.func 244) [.sl 1 (a8.map Qe)] []) none) none false,.a .no (some ([],.agg (Qm e2))) false,.a (.c false [.d,.d] (.tup [.i .i64 x13.1,.i .i64 x13.2])) none false,.a .no none false,.a .no none false,.m .s,.m .s] [] [] [4,5] [] rfl rfl rfl ⟨⟨⟨tt_,(fun σ h1 h2 _=>Stp.callSame (md:=.cm (.fn) [] [] [] [.d,.d] [] (.clo (.func 244) [.sl 1 (a8.map Qe)] []) []) Qo hC h1 h2 rfl ⟨tt_,(Qd4 _ _ hx7)⟩)⟩,rfl⟩,(Qol _ _ hx13)⟩ rfl (by kernel_rfl) rfl rfl rfl ?_
  refine Qa hC [.n 2,.keep [4,5] []] rfl tt_ ?_
  cases h
  exact AK.done (ex_ [_,_] (an_ (an_ rfl (an_ rfl tt_)) (gives tt_)))
 ·replace h:Qd5 e2 a9=some r:=h
  unfold Qd5 at h
  obtain⟨x14,hx14,h⟩:=Qb h
  refine Qa hC [.keep [0,3,4,5] [3]] rfl tt_ ?_
  refine AK.draw2 Qo hC mixed [.a .no none false,.a .no none false,.a .no none false,.a (.any (.clo (.func 245) [.sl 1 (a9.map Qe)] []) none) none false,.a .no (some ([],.agg (Qm e2))) false,.a (.c false [.d,.d] (.tup [.i .i64 x14.1,.i .i64 x14.2])) none false,.a .no none false,.a .no none false,.m .s,.m .s] [] [] [4,5] [] rfl rfl rfl ⟨⟨⟨tt_,(fun σ h1 h2 _=>Stp.callSame (md:=.cm (.fn) [] [] [] [.d,.d] [] (.clo (.func 245) [.sl 1 (a9.map Qe)] []) []) Qo hC h1 h2 rfl ⟨tt_,(Qd4 _ _ hx7)⟩)⟩,rfl⟩,(Qnq _ _ hx14)⟩ rfl (by kernel_rfl) rfl rfl rfl ?_
  refine Qa hC [.n 2,.keep [4,5] []] rfl tt_ ?_
  cases h
  exact AK.done (ex_ [_,_] (an_ (an_ rfl (an_ rfl tt_)) (gives tt_)))
 ·replace h:Qb0 rec_expr_env_eval e2 a10=some r:=h
  unfold Qb0 at h
  obtain⟨x15,hx15,h⟩:=Qb h
  refine Qa hC [.keep [0,3,4,5] [3]] rfl tt_ ?_
  refine AK.draw2 Qo hC mixed [.a .no none false,.a .no none false,.a .no none false,.a (.any (.clo (.func 246) [.sl 1 (a10.map Qe)] []) none) none false,.a .no (some ([],.agg (Qm e2))) false,.a (.c false [.d,.d] (.tup [.i .i64 x15.1,.i .i64 x15.2])) none false,.a .no none false,.a .no none false,.m .s,.m .s] [] [] [4,5] [] rfl rfl rfl ⟨⟨⟨tt_,(fun σ h1 h2 _=>Stp.callSame (md:=.cm (.fn) [] [] [] [.d,.d] [] (.clo (.func 246) [.sl 1 (a10.map Qe)] []) []) Qo hC h1 h2 rfl ⟨tt_,(Qd4 _ _ hx7)⟩)⟩,rfl⟩,(Qoo rec_expr_env_eval hrec_expr_env_eval _ _ hx15)⟩ rfl (by kernel_rfl) rfl rfl rfl ?_
  refine Qa hC [.n 2,.keep [4,5] []] rfl tt_ ?_
  cases h
  exact AK.done (ex_ [_,_] (an_ (an_ rfl (an_ rfl tt_)) (gives tt_)))
 ·replace h:Qd6 rec_expr_env_eval e2 a11=some r:=h
  unfold Qd6 at h
  obtain⟨x16,hx16,h⟩:=Qb h
  refine Qa hC [.keep [0,3,4,5] [3]] rfl tt_ ?_
  refine AK.draw2 Qo hC mixed [.a .no none false,.a .no none false,.a .no none false,.a (.any (.clo (.func 247) [.sl 1 (a11.map Qe)] []) none) none false,.a .no (some ([],.agg (Qm e2))) false,.a (.c false [.d,.d] (.tup [.i .i64 x16.1,.i .i64 x16.2])) none false,.a .no none false,.a .no none false,.m .s,.m .s] [] [] [4,5] [] rfl rfl rfl ⟨⟨⟨tt_,(fun σ h1 h2 _=>Stp.callSame (md:=.cm (.fn) [] [] [] [.d,.d] [] (.clo (.func 247) [.sl 1 (a11.map Qe)] []) []) Qo hC h1 h2 rfl ⟨tt_,(Qd4 _ _ hx7)⟩)⟩,rfl⟩,(Qp4 rec_expr_env_eval hrec_expr_env_eval _ _ hx16)⟩ rfl (by kernel_rfl) rfl rfl rfl ?_
  refine Qa hC [.n 2,.keep [4,5] []] rfl tt_ ?_
  cases h
  exact AK.done (ex_ [_,_] (an_ (an_ rfl (an_ rfl tt_)) (gives tt_)))
 ·replace h:Qd7 rec_expr_env_eval e2 a12=some r:=h
  unfold Qd7 at h
  obtain⟨x17,hx17,h⟩:=Qb h
  refine Qa hC [.keep [0,3,4,5] [3]] rfl tt_ ?_
  refine AK.draw2 Qo hC mixed [.a .no none false,.a .no none false,.a .no none false,.a (.any (.clo (.func 248) [.sl 1 (a12.map Qe)] []) none) none false,.a .no (some ([],.agg (Qm e2))) false,.a (.c false [.d,.d] (.tup [.i .i64 x17.1,.i .i64 x17.2])) none false,.a .no none false,.a .no none false,.m .s,.m .s] [] [] [4,5] [] rfl rfl rfl ⟨⟨⟨tt_,(fun σ h1 h2 _=>Stp.callSame (md:=.cm (.fn) [] [] [] [.d,.d] [] (.clo (.func 248) [.sl 1 (a12.map Qe)] []) []) Qo hC h1 h2 rfl ⟨tt_,(Qd4 _ _ hx7)⟩)⟩,rfl⟩,(Qop rec_expr_env_eval hrec_expr_env_eval _ _ hx17)⟩ rfl (by kernel_rfl) rfl rfl rfl ?_
  refine Qa hC [.n 2,.keep [4,5] []] rfl tt_ ?_
  cases h
  exact AK.done (ex_ [_,_] (an_ (an_ rfl (an_ rfl tt_)) (gives tt_)))
theorem QkK : ∀(fuel:Nat) (v1:(List Int)) (e2:Qg) {r:(Int×Int)},Qap fuel v1 e2=some r→Qc Tryz.prog 140 [.sl 1 (v1.map Qe),.agg (Qm e2)] [] (Gives (.tup [.i .i64 r.1,.i .i64 r.2]) [])
 | 0,_,_,_,h=>by cases h
 | n+1,v1,e2,_,h=>Qoq (Qap n) (fun _ _ _ h=>QkK n _ _ h) v1 e2 h
theorem Qpj (v1:(List Int))(e2:Qg){r:(Int×Int)}(h:QkJ v1 e2=some r):Qc Tryz.prog 140 [.sl 1 (v1.map Qe),.agg (Qm e2)] [] (Gives (.tup [.i .i64 r.1,.i .i64 r.2]) []):=QkK _ v1 e2 h
def Qia (e1:Qg)(vars2:(List Int)):Option (Int×Int):=
 (Qft e1 (vars2.length:Int)).bind fun x7=>
 bif (!x7)then
 some (0,1)
 else
 (QkJ vars2 e1).bind fun x9=>
 some (x9.1,x9.2)
theorem QnJ (e1:Qg)(vars2:(List Int)){r:(Int×Int)}(h:Qia e1 vars2=some r):Qc Tryz.prog 83 [.agg (Qm e1),.sl 1 (vars2.map Qe)] [] (Gives (.tup [.i .i64 r.1,.i .i64 r.2]) []):=by
 refine Qc.walk 16 Tryz.func83 rfl Tryz.ntmps83 rfl fun C hC=>?_
 unfold Qia at h
 obtain⟨x7,hx7,h⟩:=Qb h
 refine Qa hC [.n 10,.v .no [] (.agg (Qm e1)),.n 1,.o (.ln vars2.length),.o (.c false [.d,.d] (.b x7)),.n 3] rfl ⟨⟨⟨tt_,rfl⟩,Qf⟩,(QkF _ _ hx7)⟩ ?_
 rcases bifE h with⟨hc8,h⟩|⟨hc8,h⟩
 ·refine Qa hC [.br true,.n 8,.keep [4,5] []] rfl ⟨tt_,hc8⟩ ?_
  cases h
  exact AK.done (ex_ [_,_] (an_ (an_ rfl (an_ rfl tt_)) (gives tt_)))
 ·obtain⟨x9,hx9,h⟩:=Qb h
  refine Qa hC [.br false,.n 5,.v .no [] (.agg (Qm e1)),.o (.c false [.d,.d] (.tup [.i .i64 x9.1,.i .i64 x9.2])),.n 7,.keep [4,5] []] rfl ⟨⟨⟨tt_,hc8⟩,rfl⟩,(Qpj _ _ hx9)⟩ ?_
  cases h
  exact AK.done (ex_ [_,_] (an_ (an_ rfl (an_ rfl tt_)) (gives tt_)))
def QP (b1:QA):Option Int:=
 (Qia b1.task.Guard b1.env).bind fun x4=>
 bif (x4.2 != 0)then
 some x4.2
 else
 bif (x4.1==0)then
 some 9
 else
 some 0
theorem QiL (b1:QA){r:Int}(h:QP b1=some r):Qc Tryz.prog 42 [.agg (Qq b1)] [] (Gives (.i .i64 r) []):=by
 refine Qc.walk 21 Tryz.func42 rfl Tryz.ntmps42 rfl fun C hC=>?_
 unfold QP at h
 obtain⟨x4,hx4,h⟩:=Qb h
 refine Qa hC [.n 10,.v .no [] (.agg (Qm b1.task.Guard)),.n 2,.o (.c false [.d,.d] (.tup [.i .i64 x4.1,.i .i64 x4.2])),.n 16] rfl ⟨⟨tt_,rfl⟩,(QnJ _ _ hx4)⟩ ?_
 rcases bifE h with⟨hc5,h⟩|⟨hc5,h⟩
 ·refine Qa hC [.br true,.n 9,.keep [2] []] rfl ⟨tt_,hc5⟩ ?_
  cases h
  exact AK.done (ex_ [_] (an_ (an_ rfl tt_) (gives tt_)))
 ·refine Qa hC [.br false,.n 7] rfl ⟨tt_,hc5⟩ ?_
  rcases bifE h with⟨hc6,h⟩|⟨hc6,h⟩
  ·refine Qa hC [.br true,.n 8,.keep [2] []] rfl ⟨tt_,hc6⟩ ?_
   cases h
   exact AK.done (ex_ [_] (an_ (an_ rfl tt_) (gives tt_)))
  ·refine Qa hC [.br false,.n 9,.keep [2] []] rfl ⟨tt_,hc6⟩ ?_
   cases h
   exact AK.done (ex_ [_] (an_ (an_ rfl tt_) (gives tt_)))
def Qc4 (s1:QLL):Option QLL:=
 (chk (decide (([]:List (List Int)).length+s1.length≤4294967296))).bind fun _=>
 some (([]:List (List Int))++s1)
theorem Qlg (s1:QLL){r:QLL}(h:Qc4 s1=some r):Qc Tryz.prog 79 [.sl 1 (s1.map Qx)] [] (Gives (.own 30000 r.length) [(30000,.arr 1 (r.map Qx))]):=by
 refine Qc.walk 8 Tryz.func79 rfl Tryz.ntmps79 rfl fun C hC=>?_
 unfold Qc4 at h
 refine Qa hC [.n 9] rfl tt_ ?_
 refine AK.eqNil rfl rfl rfl (bleN hC.n rfl) rfl rfl Qxn ?_ ?_
 ·intro hz4
  replace h:some ([]:List (List Int))=some r:=by simpa [chk,List.map_eq_nil_iff.1 hz4] using h
  refine Qa hC [.n 10,.adopt 2 30000 1,.sayO 30000 (.arr 1 (([]:List (List Int)).map Qx)),.say 2 (.own 30000 ([]:List (List Int)).length),.keep [2] [30000]] rfl ⟨⟨tt_,rfl⟩,rfl⟩ ?_
  cases h
  exact AK.done (ex_ [_] (an_ (an_ rfl tt_) (gives ⟨rfl,tt_⟩)))
 ·obtain⟨_,hk5,h⟩:=Qb h
  replace hk5:=chkE hk5
  refine Qa hC [.n 8,.sayO 5 (.arr 1 (([]:List (List Int)).map Qx)),.say 5 (.own 5 ([]:List (List Int)).length),.n 1,.app ((([]:List (List Int))++s1).map Qx) (([]:List (List Int))++s1).length,.n 4,.keep [2] [5],.ren 5 30000,.keep [2] [30000]] rfl ⟨⟨⟨tt_,rfl⟩,rfl⟩,⟨Qf,Qc9 hk5 Qf,Qb9,QeX Qf⟩⟩ ?_
  cases h
  exact AK.done (ex_ [_] (an_ (an_ rfl tt_) (gives ⟨rfl,tt_⟩)))
def Qbu (x8:(Bool×Qae))(n10:Int):Option (Int×Bool):=
 (QbZ x8.2 n10).bind fun x11=>
 bif (!x11)then
 some (0,false)
 else
 some (n10,true)
def Qdb (l1:(List Qy))(k2:Int)(n3:Int):Option (Int×Bool):=
 (QdS l1 k2).bind fun x8=>
 bif (!x8.1)then
 some (0,false)
 else
 (QbL x8.2).bind fun x13=>
 bif (x13.Kind==1)then
 bif ((decide (n3<x13.Lo))||(decide (x13.Hi<n3)))then
 some (0,false)
 else
 Qbu x8 (w64 (n3-x13.Lo))
 else
 Qbu x8 n3
theorem Qpk (l1:(List Qy))(k2:Int)(n3:Int){r:(Int×Bool)}(h:Qdb l1 k2 n3=some r):Qc Tryz.prog 141 [.sl 7 (l1.map Qu),.i .i64 k2,.i .i64 n3] [] (Gives (.tup [.i .i64 r.1,.b r.2]) []):=by
 refine Qc.walk 43 Tryz.func141 rfl Tryz.ntmps141 rfl fun C hC=>?_
 unfold Qdb at h
 obtain⟨x8,hx8,h⟩:=Qb h
 refine Qa hC [.n 10,.o (.c false [.d,.d] (.tup [.agg (QK x8.2),.b x8.1])),.n 5,.sayO 8 (.var (QK x8.2)),.n 10] rfl ⟨⟨tt_,(Qlf _ _ hx8)⟩,rfl⟩ ?_
 rcases bifE h with⟨hc9,h⟩|⟨hc9,h⟩
 ·refine Qa hC [.br true,.n 8,.keep [6,7] []] rfl ⟨tt_,hc9⟩ ?_
  cases h
  exact AK.done (ex_ [_,_] (an_ (an_ rfl (an_ rfl tt_)) (gives tt_)))
 ·refine Qa hC [.br false,.n 2] rfl ⟨tt_,hc9⟩ ?_
  refine AK.meet (fun σ=>∃n10:Int,σ=⟨[(2,.i .i64 n10),(8,.loc 8 0 0)],[(8,.var (QK x8.2))]⟩∧Qbu x8 n10=some r) ?_ ?_
  ·obtain⟨x13,hx13,h⟩:=Qb h
   refine Qa hC [.n 2,.v .no [] (.agg (QK x8.2)),.o (.c false [.d] (.agg (Qu x13))),.n 2,.sayO 10 (.var (Qu x13)),.n 9] rfl ⟨⟨⟨tt_,rfl⟩,(QgB _ hx13)⟩,rfl⟩ ?_
   rcases bifE h with⟨hc14,h⟩|⟨hc14,h⟩
   ·refine Qa hC [.br true,.n 2] rfl ⟨tt_,hc14⟩ ?_
    refine AK.meetX (fun σ=>σ=⟨[(2,.i .i64 n3),(8,.loc 8 0 0),(10,.loc 10 0 0),(33,.b ((decide (n3<x13.Lo))||(decide (x13.Hi<n3))))],[(8,.var (QK x8.2)),(10,.var (Qu x13))]⟩) ?_ ?_
    ·refine Qa hC [.n 6] rfl tt_ ?_
     rcases QJ (decide (n3<x13.Lo))with hc16 | hc16
     ·refine Qa hC [.say 28 (.b true),.n 6,.say 33 (.b ((decide (n3<x13.Lo))||(decide (x13.Hi<n3)))),.keep [2,8,10,33] [8,10]] rfl ⟨⟨tt_,(congrArg V.b hc16)⟩,(congrArg V.b (orT hc16 rfl))⟩ ?_
      exact AK.met rfl
     ·refine Qa hC [.say 28 (.b false),.n 6,.say 33 (.b ((decide (n3<x13.Lo))||(decide (x13.Hi<n3)))),.keep [2,8,10,33] [8,10]] rfl ⟨⟨tt_,(congrArg V.b hc16)⟩,(congrArg V.b (orF hc16 rfl))⟩ ?_
      exact AK.met rfl
    ·rintro σ rfl
     refine Qa hC [.n 1] rfl tt_ ?_
     rcases bifE h with⟨hc17,h⟩|⟨hc17,h⟩
     ·refine Qa hC [.br true,.n 9,.keep [6,7] []] rfl ⟨tt_,hc17⟩ ?_
      cases h
      exact AK.done (ex_ [_,_] (an_ (an_ rfl (an_ rfl tt_)) (gives tt_)))
     ·refine Qa hC [.br false,.n 9,.keep [2,8] [8]] rfl ⟨tt_,hc17⟩ ?_
      exact AK.met (ex_ _ (an_ rfl h))
   ·refine Qa hC [.br false,.n 1,.keep [2,8] [8]] rfl ⟨tt_,hc14⟩ ?_
    exact AK.met (ex_ _ (an_ rfl h))
  ·rintro σ ⟨n10,rfl,h⟩
   unfold Qbu at h
   obtain⟨x11,hx11,h⟩:=Qb h
   refine Qa hC [.n 3,.v .no [] (.agg (QK x8.2)),.n 1,.o (.c false [.d,.d] (.b x11)),.n 3] rfl ⟨⟨tt_,rfl⟩,(Qlc _ _ hx11)⟩ ?_
   rcases bifE h with⟨hc12,h⟩|⟨hc12,h⟩
   ·refine Qa hC [.br true,.n 8,.keep [6,7] []] rfl ⟨tt_,hc12⟩ ?_
    cases h
    exact AK.done (ex_ [_,_] (an_ (an_ rfl (an_ rfl tt_)) (gives tt_)))
   ·refine Qa hC [.br false,.n 10,.keep [6,7] []] rfl ⟨tt_,hc12⟩ ?_
    cases h
    exact AK.done (ex_ [_,_] (an_ (an_ rfl (an_ rfl tt_)) (gives tt_)))
def QbO (m1:QBg):Option Unit:=
 some ()
theorem QjF (m1:QBg){r:Unit}(h:QbO m1=some r):Qc Tryz.prog 207 [.map 200000] [(200000,.map (mapV (V.i .i64) (V.i .i64) m1))] (Gives (.clo (.func 250) [] [.loc 1 0 0]) [(1,.var [.map 200000]),(200000,.map (mapV (V.i .i64) (V.i .i64) m1))]):=by
 refine Qc.walk 4 Tryz.func207 rfl Tryz.ntmps207 rfl fun C hC=>?_
 unfold QbO at h
 refine Qa hC [.n 13,.keep [2] [1,200000]] rfl tt_ ?_
 cases h
 exact AK.done (ex_ [_] (an_ (an_ rfl tt_) (gives ⟨rfl,rfl,tt_⟩)))
def Qa5 (l1:(List Int))(p2:Int):Option (List Int):=
 (chk (decide (l1.length+([p2]:List Int).length≤4294967296))).bind fun _=>
 some (l1++([p2]:List Int))
theorem Qie (lpl lpf:Nat)(l1:(List Int))(p2:Int){r:(List Int)}(h:Qa5 l1 p2=some r):QlC Tryz.prog lpl (Qfm lpf) [.J,.J,.loc 200001 0 0,.J,.J,.J,.J,.i .i64 p2,.J,.J,.J,.J,.J] [(200000,.lp lpl (Qfm lpf) [.J,.J,.loc 200001 0 0,.J,.J,.J,.J,.J,.J,.J,.J,.J,.J] 0),(200001,.var [.own 100000 l1.length]),(100000,.arr 1 (l1.map Qe))] (Gives (.b true) [(100000,.arr 1 (r.map Qe)),(200000,.lp lpl (Qfm lpf) [.J,.J,.loc 200001 0 0,.J,.J,.J,.J,.J,.J,.J,.J,.J,.J] 0),(200001,.var [.own 100000 r.length])]):=by
 refine QlC.walk (b:=200000) 13 rfl rfl fun C hC=>?_
 unfold Qa5 at h
 refine Qa hC [.n 3] rfl tt_ ?_
 refine AK.done (an_ rfl (ex_ _ (an_ rfl ?_)))
 obtain⟨_,hk4,h⟩:=Qb h
 replace hk4:=chkE hk4
 refine Qa hC [.n 4,.v (.bd []) [] (.sl 1 (([p2]:List Int).map Qe)),.app ((l1++([p2]:List Int)).map Qe) (l1++([p2]:List Int)).length,.n 1,.sayO 200001 (.var [.own 100000 (l1++([p2]:List Int)).length]),.n 2,.keep [] [100000,200000,200001]] rfl ⟨⟨⟨tt_,rfl⟩,⟨Qf,Qc9 hk4 Qf,Qb9,QeX Qf⟩⟩,rfl⟩ ?_
 cases h
 refine AK.done ?_
 exact ex_ _ (an_ rfl (gives ⟨rfl,rfl,rfl,tt_⟩))
theorem Qjb (lpl lpf:Nat)(l1:(List Int))(m2:QBg)(hlen:l1.length+m2.length≤4294967296):Qc Tryz.prog 250 [.clo (.yield lpl) [] [],.loc 200002 0 0] [(200000,.lp lpl (Qfm lpf) [.J,.J,.loc 200001 0 0,.J,.J,.J,.J,.J,.J,.J,.J,.J,.J] 0),(200001,.var [.own 100000 l1.length]),(100000,.arr 1 (l1.map Qe)),(200002,.var [.map 200003]),(200003,.map (mapV (V.i .i64) (V.i .i64) m2))] (fun v hs=>∃r:List Int,r.Perm (l1++m2.map Prod.fst)∧Gives (.tup []) [(100000,.arr 1 (r.map Qe)),(200000,.lp lpl (Qfm lpf) [.J,.J,.loc 200001 0 0,.J,.J,.J,.J,.J,.J,.J,.J,.J,.J] 0),(200001,.var [.own 100000 r.length]),(200002,.var [.map 200003]),(200003,.map (mapV (V.i .i64) (V.i .i64) m2))] v hs):=by
 refine Qc.walk 14 Tryz.func250 rfl Tryz.ntmps250 rfl fun C hC=>?_
 refine Qa hC [.n 3] rfl tt_ ?_
 refine AK.openMap (b:=200003) ky_3 rfl fun bm4 cl4 L4 hbn4 hpm4=>?_
 refine Qa hC [.x (fun σ=>(σ.set 5 (.itr bm4 cl4 #[] none)).put 5 (.loc 5 0 0)),.n 3,.keep [0,5] [5,100000,200000,200001,200002,200003]] rfl ⟨tt_,(Stp.range (b:=200003) rfl rfl (bleN hC.n rfl) rfl rfl Qd3 rfl)⟩ ?_
 have hL0:QaY L4 #[]=L4:=by simp [QaY]
 have hp0:(l1++(QaY L4 #[]).map (fun q=>q.2.1)).Perm (l1++m2.map Prod.fst):=by
  rw [hL0]
  refine List.Perm.append_left l1 ?_
  have:=hpm4.map Prod.fst
  rwa [List.map_map]at this
 refine AK.range (body:=cntM) (fun (_:Nat) seen σ=>∃(cur:Option MapEntry) (st:List Int),(st++(QaY L4 seen).map (fun q=>q.2.1)).Perm (l1++m2.map Prod.fst)∧σ=⟨[(0,.clo (.yield lpl) [] []),(5,.loc 5 0 0)],[(5,.itr bm4 cl4 seen cur),(100000,.arr 1 (st.map Qe)),(200000,.lp lpl (Qfm lpf) [.J,.J,.loc 200001 0 0,.J,.J,.J,.J,.J,.J,.J,.J,.J,.J] 0),(200001,.var [.own 100000 st.length]),(200002,.var [.map 200003]),(200003,.mapX bm4 cl4 (typV (V.i .i64) (V.i .i64) L4) (mapV (V.i .i64) (V.i .i64) m2))]⟩) (fun (q:Empty) _ _=>False) (fun _ e σ=>∃st:List Int,st.Perm (l1++m2.map Prod.fst)∧e=.exit 0∧σ=⟨[],[(100000,.arr 1 (st.map Qe)),(200000,.lp lpl (Qfm lpf) [.J,.J,.loc 200001 0 0,.J,.J,.J,.J,.J,.J,.J,.J,.J,.J] 0),(200001,.var [.own 100000 st.length]),(200002,.var [.map 200003]),(200003,.mapX bm4 cl4 (typV (V.i .i64) (V.i .i64) L4) (mapV (V.i .i64) (V.i .i64) m2))]⟩) hbn4 hpm4 (Qvo m2 0) (ex_ _ (ex_ l1 (an_ hp0 rfl))) ?_ ?_
 ·rintro n0 seen σ ⟨cur,l6,hpp,rfl⟩ hex
  refine Qa hC [.n 2] rfl tt_ ?_
  refine AK.nextT (b:=5) (m:=200003) rfl rfl rfl (bleN hC.n rfl) rfl rfl rfl rfl ?_ ?_
  ·intro hleft
   refine Qa hC [.n 7,.keep [] [100000,200000,200001,200002,200003]] rfl tt_ ?_
   exact AK.done (Or.inl (an_ hleft (an_ (fun h=>(by cases h)) (ex_ l6 (an_ (by simpa [hleft] using hpp) (an_ rfl rfl))))))
  ·intro xk8 k8 v9 hq5
   have hpk:=(Qoa hbn4 hq5).map (fun q=>q.2.1)
   have hp2:((l6++[k8])++(QaY L4 (seen.push xk8.born)).map (fun q=>q.2.1)).Perm (l1++m2.map Prod.fst):=List.Perm.trans (by simpa using (List.Perm.append_left l6 hpk).symm) hpp
   have hl2:l6.length+([k8]:List Int).length≤4294967296:=by
    have:=hp2.length_eq
    simp at this ⊢
    omega
   have hx10:Qa5 l6 k8=some (l6++[k8]):=by
    unfold Qa5
    rw [decide_eq_true hl2];rfl
   obtain⟨x10,hxe⟩:∃x,x=l6++[k8]:=⟨_,rfl⟩
   rw [←hxe]at hx10 hp2
   refine Qa hC [.n 10,.x (fun σ=>σ.put 8 (.tup [.i .i64 k8,.i .i64 v9])),.n 8,.x (fun σ=>(σ.after [100000] [(100000,.arr 1 (x10.map Qe)),(200000,.lp lpl (Qfm lpf) [.J,.J,.loc 200001 0 0,.J,.J,.J,.J,.J,.J,.J,.J,.J,.J] 0),(200001,.var [.own 100000 x10.length])]).put 12 (.b true)),.n 6,.keep [0,5] [5,100000,200000,200001,200002,200003]] rfl ⟨⟨tt_,(Stp.entryT (b:=5) (m:=200003) rfl rfl (bleN hC.n rfl) rfl hq5 rfl rfl)⟩,(Stp.yieldV (b:=200000) (M:=[(200000,200000),(200001,200001),(100000,100000)]) (N:=[(100000,100000),(200000,200000),(200001,200001)]) (dead:=[100000]) (ms:=[.d,.d,.d,.d,.d,.d,.d,.d,.d,.d,.d,.d,.d]) (outs:=[(100000,.arr 1 (x10.map Qe)),(200000,.lp lpl (Qfm lpf) [.J,.J,.loc 200001 0 0,.J,.J,.J,.J,.J,.J,.J,.J,.J,.J] 0),(200001,.var [.own 100000 x10.length])]) (r:=.b true) rfl rfl rfl rfl rfl rfl rfl (bleN hC.n rfl) hC.g rfl rfl (Qie _ _ _ _ hx10))⟩ ?_
   exact AK.done (Or.inr (ex_ _ (an_ hq5 (Or.inl (ex_ (n0+1) (an_ rfl (an_ rfl (ex_ _ (ex_ x10 (an_ hp2 rfl))))))))))
 ·rintro e σ ⟨l6,hpp,rfl,rfl⟩
  refine Qa hC [.n 1] rfl tt_ ?_
  refine AK.closeMap (b:=200003) rfl ?_
  refine Qa hC [.keep [] [100000,200000,200001,200002,200003]] rfl tt_ ?_
  refine AK.done ?_
  exact ex_ [] (an_ tt_ (ex_ l6 (an_ hpp (gives ⟨rfl,rfl,rfl,rfl,rfl,tt_⟩))))
theorem Qlb (m1:QBg)(hlen:m1.length≤4294967296):Qc Tryz.prog 261 [.lit (.slice none 0 0),.clo (.func 250) [] [.loc 200000 0 0]] [(200000,.var [.map 200001]),(200001,.map (mapV (V.i .i64) (V.i .i64) m1))] (fun v hs=>∃r:List Int,r.Perm (m1.map Prod.fst)∧Gives (.own 30000 r.length) [(30000,.arr 1 (r.map Qe)),(200000,.var [.map 200001]),(200001,.map (mapV (V.i .i64) (V.i .i64) m1))] v hs):=by
 refine Qc.walkR 13 Tryz.func261 rfl Tryz.ntmps261 rfl fun C hC hR=>?_
 refine Qa hC [.n 13,.keep [2,4,6] [2,200000,200001]] rfl tt_ ?_
 refine Qa hC [.adoptO 2 0 45040 1,.sayO 45040 (.arr 1 (([]:List Int).map Qe)),.sayO 2 (.var [.own 45040 ([]:List Int).length])] rfl ⟨⟨tt_,rfl⟩,rfl⟩ ?_
 refine AK.rangeFE (ι:=List Int) (Φ:=fun x=>x.Perm (m1.map Prod.fst)) 60000 [2] [(200000,60000),(200001,2),(100000,45040),(200002,200000),(200003,200001)] [(45040,100000),(60000,200000),(2,200001),(200000,200002),(200001,200003)] [45040] [.d,.d] Qfm hC hR (fun _=>rfl) rfl rfl rfl rfl fun lpl lpf=>?_
 refine ex_ (fun x3:List Int=>[(100000,.arr 1 (x3.map Qe)),(200000,.lp lpl (Qfm lpf) [.J,.J,.loc 200001 0 0,.J,.J,.J,.J,.J,.J,.J,.J,.J,.J] 0),(200001,.var [.own 100000 x3.length]),(200002,.var [.map 200003]),(200003,.map (mapV (V.i .i64) (V.i .i64) m1))]) (ex_ (fun _=>.tup []) (ex_ (fun x3=>_) (ex_ _ (ex_ _ (an_ rfl (an_ rfl (an_ (Qjb _ _ ([]:List Int) m1 (by simpa using hlen)) fun x3=>ex_ _ (ex_ [.J,.J,.loc 2 0 0,.J,.J,.J,.J,.J,.J,.J,.J,.J,.J] (ex_ 0 (an_ rfl (an_ rfl (an_ (bne_iff_ne.1 (show(0 != 1)=true from rfl)) fun hpp=>?_))))))))))))
 refine atJ0 rfl ?_
 refine Qa hC [.n 9,.keep [4] [45040,200000,200001],.ren 45040 30000,.keep [4] [30000,200000,200001]] rfl tt_ ?_
 exact AK.done (ex_ [_] (an_ (an_ rfl tt_) (ex_ x3 (an_ hpp (gives ⟨rfl,rfl,rfl,tt_⟩)))))
theorem Qm0 (m1:QBg)(hlen:m1.length≤4294967296):Qc Tryz.prog 249 [.clo (.func 250) [] [.loc 200000 0 0]] [(200000,.var [.map 200001]),(200001,.map (mapV (V.i .i64) (V.i .i64) m1))] (fun v hs=>∃r:List Int,r.Perm (m1.map Prod.fst)∧Gives (.own 30000 r.length) [(30000,.arr 1 (r.map Qe)),(200000,.var [.map 200001]),(200001,.map (mapV (V.i .i64) (V.i .i64) m1))] v hs):=by
 refine Qc.walk 5 Tryz.func249 rfl Tryz.ntmps249 rfl fun C hC=>?_
 refine Qa hC [.n 8] rfl tt_ ?_
 refine AK.callE (ι:=List Int) (Φ:=fun x=>x.Perm (m1.map Prod.fst)) [(200000,200000),(200001,200001)] [(4,30000),(200000,200000),(200001,200001)] [] [.d,.d] (fun x3=>[(30000,.arr 1 (x3.map Qe)),(200000,.var [.map 200001]),(200001,.map (mapV (V.i .i64) (V.i .i64) m1))]) (fun x3=>(.own 30000 x3.length)) (fun x3=>_) rfl hC (Qbh.fn rfl rfl rfl) rfl (bleN hC.n rfl) rfl rfl (Qlb m1 hlen) (fun x3=>ex_ _ rfl) fun x3 hpp=>?_
 refine Qa hC [.n 4,.keep [2] [4,200000,200001],.ren 4 30000,.keep [2] [30000,200000,200001]] rfl tt_ ?_
 exact AK.done (ex_ [_] (an_ (an_ rfl tt_) (ex_ x3 (an_ hpp (gives ⟨rfl,rfl,rfl,tt_⟩)))))
def QaQ (l:List Int):Option (List Int):=(chk (decide (l.length<4611686018427387904))).bind fun _=>some (QdP l)
theorem Qfu (l:List Int){r:List Int}(h:QaQ l=some r):Qc Tryz.prog 38 [.own 200000 l.length] [(200000,.arr 1 (l.map Qe))] (Gives (.tup []) [(200000,.arr 1 (r.map Qe))]):=by
 unfold QaQ at h
 obtain⟨_,h1,h⟩:=Qb h
 cases h
 exact QtU Qvt l (of_decide_eq_true (chkE h1))
def QfW (m1:QBg):Option (List Int):=
 (chk (decide (m1.length≤4294967296))).bind fun _=>
 some (QdP (m1.map Prod.fst))
theorem Qnr (m1:QBg){r:(List Int)}(h:QfW m1=some r):Qc Tryz.prog 206 [.clo (.func 250) [] [.loc 200000 0 0]] [(200000,.var [.map 200001]),(200001,.map (mapV (V.i .i64) (V.i .i64) m1))] (Gives (.own 30000 r.length) [(30000,.arr 1 (r.map Qe)),(200000,.var [.map 200001]),(200001,.map (mapV (V.i .i64) (V.i .i64) m1))]):=by
 refine Qc.walk 9 Tryz.func206 rfl Tryz.ntmps206 rfl fun C hC=>?_
 unfold QfW at h
 obtain⟨_,hlen,h⟩:=Qb h
 replace hlen:=of_decide_eq_true (chkE hlen)
 cases h
 refine Qa hC [.n 8] rfl tt_ ?_
 refine AK.callE (ι:=List Int) (Φ:=fun x=>x.Perm (m1.map Prod.fst)) [(200000,200000),(200001,200001)] [(5,30000),(200000,200000),(200001,200001)] [] [.d] (fun x3=>[(30000,.arr 1 (x3.map Qe)),(200000,.var [.map 200001]),(200001,.map (mapV (V.i .i64) (V.i .i64) m1))]) (fun x3=>(.own 30000 x3.length)) (fun x3=>_) rfl hC (Qbh.fn rfl rfl rfl) rfl (bleN hC.n rfl) rfl rfl (Qm0 m1 hlen) (fun x3=>ex_ _ rfl) fun x3 hpp=>?_
 have hx4:QaQ x3=some (QdP (m1.map Prod.fst)):=by
  unfold QaQ
  rw [decide_eq_true (by have:=hpp.length_eq;simp at this;omega),QuG hpp];rfl
 have hk5:(QdP (m1.map Prod.fst)).length=x3.length:=by rw [Qkp,hpp.length_eq]
 refine Qa hC [.n 6,.cm (.fn) [(200000,5)] [(5,200000)] [] [.d] [(200000,.arr 1 (((QdP (m1.map Prod.fst))).map Qe))] (.tup []),.say 3 (.own 5 (QdP (m1.map Prod.fst)).length),.say 5 (.own 5 (QdP (m1.map Prod.fst)).length),.say 6 (.own 5 (QdP (m1.map Prod.fst)).length),.n 9,.keep [2] [5,200000,200001],.ren 5 30000,.keep [2] [30000,200000,200001]] rfl ⟨⟨⟨⟨tt_,(Qfu _ hx4)⟩,(by simp [hk5])⟩,(by simp [hk5])⟩,(by simp [hk5])⟩ ?_
 exact AK.done (ex_ [_] (an_ (an_ rfl tt_) (gives ⟨rfl,rfl,rfl,tt_⟩)))
def Qcr (x6:Int)(l12:QBg):Option ((Int×QBg)⊕QBg):=
 some (.inl ((w64 (x6+1)),l12))
def QaP (x4:(List Int))(m1:QBg)(x6:Int)(l7:QBg):Option ((Int×QBg)⊕QBg):=
 bif (decide (x6<(x4.length:Int)))then
 (idx x4 x6).bind fun e13=>
 bif (decide (0<((mget m1 e13).getD 0)))then
 (chk (decide (l7.length+([(e13,((mget m1 e13).getD 0))]:List (Int×Int)).length≤4294967296))).bind fun _=>
 Qcr x6 (l7++([(e13,((mget m1 e13).getD 0))]:List (Int×Int)))
 else
 Qcr x6 l7
 else
 some (.inr l7)
def Qif (l10:QBg):Option QBg:=
 some l10
def QcJ (m1:QBg):Option QBg:=
 (QbO m1).bind fun x3=>
 (QfW m1).bind fun x4=>
 (QC (fun st=>QaP x4 m1 st.1 st.2) (0,([]:List (Int×Int)))).bind (fun q=>Qif q)
theorem Qig (m1:QBg){r:QBg}(h:QcJ m1=some r):Qc Tryz.prog 147 [.map 200000] [(200000,.map (mapV (V.i .i64) (V.i .i64) m1))] (Gives (.own 30000 r.length) [(30000,.arr 2 (r.map QB)),(200000,.map (mapV (V.i .i64) (V.i .i64) m1))]):=by
 refine Qc.walk 28 Tryz.func147 rfl Tryz.ntmps147 rfl fun C hC=>?_
 unfold QcJ at h
 obtain⟨x3,hx3,h⟩:=Qb h
 obtain⟨x4,hx4,h⟩:=Qb h
 refine Qa hC [.n 14,.cm (.fn) [(200000,200000)] [(7,1),(200000,200000)] [] [.d] [(1,.var [.map 200000]),(200000,.map (mapV (V.i .i64) (V.i .i64) m1))] (.clo (.func 250) [] [.loc 1 0 0]),.cm (.fn) [(200000,7),(200001,200000)] [(8,30000),(7,200000),(200000,200001)] [] [.d] [(30000,.arr 1 (x4.map Qe)),(200000,.var [.map 200001]),(200001,.map (mapV (V.i .i64) (V.i .i64) m1))] (.own 30000 x4.length),.n 5,.adopt 3 18 2,.sayO 18 (.arr 2 (([]:List (Int×Int)).map QB)),.say 3 (.own 18 ([]:List (Int×Int)).length),.keep [0,3,8,9,10] [8,18,200000]] rfl ⟨⟨⟨⟨tt_,(QjF _ hx3)⟩,(Qnr _ hx4)⟩,rfl⟩,(congrArg (fun n=>V.own 18 n) (by simp))⟩ ?_
 obtain⟨l10,hl16,h⟩:=Qb h
 refine AK.loop (body:=(fun st=>QaP x4 m1 st.1 st.2)) (fun st σ=>σ=⟨[(0,.map 200000),(3,.own 18 st.2.length),(8,.own 8 x4.length),(9,.i .i64 (x4.length:Int)),(10,.i .i64 st.1)],[(8,.arr 1 (x4.map Qe)),(18,.arr 2 (st.2.map QB)),(200000,.map (mapV (V.i .i64) (V.i .i64) m1))]⟩) (fun q e σ=>e=.exit 0∧σ=⟨[(3,.own 18 q.length)],[(18,.arr 2 (q.map QB)),(200000,.map (mapV (V.i .i64) (V.i .i64) m1))]⟩) hl16 rfl ?_ ?_
 ·rintro ⟨x6,l7⟩ o σ rfl h
  replace h:QaP x4 m1 x6 l7=some o:=h
  unfold QaP at h
  refine Qa hC [.n 6] rfl tt_ ?_
  rcases bifE h with⟨hc11,h⟩|⟨hc11,h⟩
  ·refine Qa hC [.br true,.n 2] rfl ⟨tt_,hc11⟩ ?_
   refine AK.meet (fun σ=>∃l12:QBg,σ=⟨[(0,.map 200000),(3,.own 18 l12.length),(8,.own 8 x4.length),(9,.i .i64 (x4.length:Int)),(10,.i .i64 x6)],[(8,.arr 1 (x4.map Qe)),(18,.arr 2 (l12.map QB)),(200000,.map (mapV (V.i .i64) (V.i .i64) m1))]⟩∧Qcr x6 l12=some o) ?_ ?_
   ·obtain⟨e13,he13,h⟩:=Qb h
    refine Qa hC [.n 4,.o (.row (Qe e13)),.n 7,.o (.any (.i .i64 ((mget m1 e13).getD 0)) none),.n 3] rfl ⟨⟨⟨tt_,(QaX he13 rfl)⟩,(Qal (idxE he13).2)⟩,(fun σ h1 h2 _=>Stp.lookup (e:=(V.i .i64)) (f:=(V.i .i64)) (l:=m1) (k:=e13) (z:=0) rfl rfl (bleN hC.n rfl) (h1 _ _ rfl) (h2 _ _ rfl) (h1 _ _ rfl) Qd3 ky_3 zi_3 rfl)⟩ ?_
    rcases bifE h with⟨hc14,h⟩|⟨hc14,h⟩
    ·obtain⟨_,hk15,h⟩:=Qb h
     replace hk15:=chkE hk15
     refine Qa hC [.br true,.n 5,.o (.any (.i .i64 ((mget m1 e13).getD 0)) none),.v .no [] (.agg (QB (e13,((mget m1 e13).getD 0)))),.v (.bd []) [] (.sl 2 (([(e13,((mget m1 e13).getD 0))]:List (Int×Int)).map QB)),.app ((l7++([(e13,((mget m1 e13).getD 0))]:List (Int×Int))).map QB) (l7++([(e13,((mget m1 e13).getD 0))]:List (Int×Int))).length,.n 3,.keep [0,3,8,9,10] [8,18,200000]] rfl ⟨⟨⟨⟨⟨tt_,hc14⟩,(fun σ h1 h2 _=>Stp.lookup (e:=(V.i .i64)) (f:=(V.i .i64)) (l:=m1) (k:=e13) (z:=0) rfl rfl (bleN hC.n rfl) (h1 _ _ rfl) (h2 _ _ rfl) (h1 _ _ rfl) Qd3 ky_3 zi_3 rfl)⟩,rfl⟩,rfl⟩,⟨Qf,Qc9 hk15 Qf,Qb9,QeX Qf⟩⟩ ?_
     exact AK.met (ex_ _ (an_ rfl h))
    ·refine Qa hC [.br false,.n 2,.keep [0,3,8,9,10] [8,18,200000]] rfl ⟨tt_,hc14⟩ ?_
     exact AK.met (ex_ _ (an_ rfl h))
   ·rintro σ ⟨l12,rfl,h⟩
    unfold Qcr at h
    refine Qa hC [.n 4,.keep [0,3,8,9,10] [8,18,200000]] rfl tt_ ?_
    cases h
    exact rndN rfl rfl
  ·refine Qa hC [.br false,.n 2,.keep [3] [18,200000]] rfl ⟨tt_,hc11⟩ ?_
   cases h
   exact rndX rfl (an_ rfl rfl)
 ·replace h:Qif l10=some r:=h
  unfold Qif at h
  rintro e σ ⟨rfl,rfl⟩
  refine Qa hC [.n 9,.keep [2] [18,200000],.ren 18 30000,.keep [2] [30000,200000]] rfl tt_ ?_
  cases h
  exact AK.done (ex_ [_] (an_ (an_ rfl tt_) (gives ⟨rfl,rfl,tt_⟩)))
def QjG (x4:Int)(m10:QBg):Option ((Int×QBg)⊕QBg):=
 some (.inl ((w64 (x4+1)),m10))
def Qc7 (l1:(List Int))(x4:Int)(m5:QBg):Option ((Int×QBg)⊕QBg):=
 bif (decide (x4<(l1.length:Int)))then
 (idx l1 x4).bind fun e11=>
 bif (decide (0≤e11))then
 QjG x4 (mset ltI m5 e11 (min2 (w64 (((mget m5 e11).getD 0)+1)) 1048576))
 else
 QjG x4 m5
 else
 some (.inr m5)
def QjH (m8:QBg):Option QBg:=
 (QcJ m8).bind fun x14=>
 some x14
def Qmz (l1:(List Int)):Option QBg:=
 (QC (fun st=>Qc7 l1 st.1 st.2) (0,([]:QBg))).bind (fun q=>QjH q)
theorem QtY (l1:(List Int)){r:QBg}(h:Qmz l1=some r):Qc Tryz.prog 142 [.sl 1 (l1.map Qe)] [] (Gives (.own 30000 r.length) [(30000,.arr 2 (r.map QB))]):=by
 refine Qc.walk 25 Tryz.func142 rfl Tryz.ntmps142 rfl fun C hC=>?_
 unfold Qmz at h
 refine Qa hC [.n 8,.sayO 6 (.map (mapV (V.i .i64) (V.i .i64) ([]:QBg))),.n 7,.o (.ln l1.length),.n 4,.keep [3,7,8,9] [6]] rfl ⟨⟨tt_,rfl⟩,Qf⟩ ?_
 obtain⟨m8,hl13,h⟩:=Qb h
 refine AK.loop (body:=(fun st=>Qc7 l1 st.1 st.2)) (fun st σ=>σ=⟨[(3,.map 6),(7,.sl 1 (l1.map Qe)),(8,.i .i64 (l1.length:Int)),(9,.i .i64 st.1)],[(6,.map (mapV (V.i .i64) (V.i .i64) st.2))]⟩) (fun q e σ=>e=.exit 0∧σ=⟨[(3,.map 6)],[(6,.map (mapV (V.i .i64) (V.i .i64) q))]⟩) hl13 rfl ?_ ?_
 ·rintro ⟨x4,m5⟩ o σ rfl h
  replace h:Qc7 l1 x4 m5=some o:=h
  unfold Qc7 at h
  refine Qa hC [.n 6] rfl tt_ ?_
  rcases bifE h with⟨hc9,h⟩|⟨hc9,h⟩
  ·refine Qa hC [.br true,.n 2] rfl ⟨tt_,hc9⟩ ?_
   refine AK.meet (fun σ=>∃m10:QBg,σ=⟨[(3,.map 6),(7,.sl 1 (l1.map Qe)),(8,.i .i64 (l1.length:Int)),(9,.i .i64 x4)],[(6,.map (mapV (V.i .i64) (V.i .i64) m10))]⟩∧QjG x4 m10=some o) ?_ ?_
   ·obtain⟨e11,he11,h⟩:=Qb h
    refine Qa hC [.n 3,.o (.row (Qe e11)),.n 10] rfl ⟨tt_,(idxM he11)⟩ ?_
    rcases bifE h with⟨hc12,h⟩|⟨hc12,h⟩
    ·refine Qa hC [.br true,.n 5,.o (.any (.i .i64 ((mget m5 e11).getD 0)) none),.n 2,.x (fun σ=>σ.set 6 (.map (mapV (V.i .i64) (V.i .i64) (mset ltI m5 e11 (min2 (w64 (((mget m5 e11).getD 0)+1)) 1048576))))),.n 2,.keep [3,7,8,9] [6]] rfl ⟨⟨⟨tt_,hc12⟩,(fun σ h1 h2 _=>Stp.lookup (e:=(V.i .i64)) (f:=(V.i .i64)) (l:=m5) (k:=e11) (z:=0) rfl rfl (bleN hC.n rfl) (h1 _ _ rfl) (h2 _ _ rfl) (h1 _ _ rfl) Qd3 ky_3 zi_3 rfl)⟩,(Stp.mapUpdate (e:=(V.i .i64)) (f:=(V.i .i64)) (l:=m5) (k:=e11) (v:=(min2 (w64 (((mget m5 e11).getD 0)+1)) 1048576)) ltI rfl rfl rfl rfl rfl rfl Qd3 ky_3 rfl)⟩ ?_
     exact AK.met (ex_ _ (an_ rfl h))
    ·refine Qa hC [.br false,.n 2,.keep [3,7,8,9] [6]] rfl ⟨tt_,hc12⟩ ?_
     exact AK.met (ex_ _ (an_ rfl h))
   ·rintro σ ⟨m10,rfl,h⟩
    unfold QjG at h
    refine Qa hC [.n 4,.keep [3,7,8,9] [6]] rfl tt_ ?_
    cases h
    exact rndN rfl rfl
  ·refine Qa hC [.br false,.n 2,.keep [3] [6]] rfl ⟨tt_,hc9⟩ ?_
   cases h
   exact rndX rfl (an_ rfl rfl)
 ·replace h:QjH m8=some r:=h
  unfold QjH at h
  rintro e σ ⟨rfl,rfl⟩
  obtain⟨x14,hx14,h⟩:=Qb h
  refine Qa hC [.n 5,.cm (.fn) [(200000,6)] [(24,30000),(6,200000)] [] [.d] [(30000,.arr 2 (x14.map QB)),(200000,.map (mapV (V.i .i64) (V.i .i64) m8))] (.own 30000 x14.length),.n 4,.keep [2] [24],.ren 24 30000,.keep [2] [30000]] rfl ⟨tt_,(Qig _ hx14)⟩ ?_
  cases h
  exact AK.done (ex_ [_] (an_ (an_ rfl tt_) (gives ⟨rfl,tt_⟩)))
def QdU (b1:QBg)(x6:Int)(m7:QBg):Option ((Int×QBg)⊕QBg):=
 bif (decide (x6<(b1.length:Int)))then
 (idx b1 x6).bind fun e12=>
 some (.inl ((w64 (x6+1)),(mset ltI m7 e12.1 e12.2)))
 else
 some (.inr m7)
def Qns (m10:QBg):Option (Unit⊕QBg):=
 some (.inr m10)
def QiM (b1:QBg):Option (Unit⊕QBg):=
 (Qc6 b1).bind fun x3=>
 bif (!x3)then
 some (.inl ())
 else
 (QC (fun st=>QdU b1 st.1 st.2) (0,([]:QBg))).bind (fun q=>Qns q)
theorem Qe3 (b1:QBg){r:(Unit⊕QBg)}(h:QiM b1=some r):Qc Tryz.prog 112 [.sl 2 (b1.map QB)] [] ((Sum.elim (fun q=>(Gives (.tup [.lit (.map none),.b false]) [])) (fun q=>(Gives (.tup [.map 30002,.b true]) [(30002,.map (mapV (V.i .i64) (V.i .i64) q))]))) r):=by
 refine Qc.walk 24 Tryz.func112 rfl Tryz.ntmps112 rfl fun C hC=>?_
 unfold QiM at h
 obtain⟨x3,hx3,h⟩:=Qb h
 refine Qa hC [.n 10,.o (.c false [.d] (.b x3)),.n 3] rfl ⟨tt_,(Qi5 _ hx3)⟩ ?_
 rcases bifE h with⟨hc4,h⟩|⟨hc4,h⟩
 ·refine Qa hC [.br true,.n 8,.keep [2,3] []] rfl ⟨tt_,hc4⟩ ?_
  cases h
  exact AK.done (ex_ [_,_] (an_ (an_ rfl (an_ rfl tt_)) (gives tt_)))
 ·refine Qa hC [.br false,.n 5,.sayO 10 (.map (mapV (V.i .i64) (V.i .i64) ([]:QBg))),.n 7,.o (.ln b1.length),.n 4,.keep [4,11,12,13] [10]] rfl ⟨⟨⟨tt_,hc4⟩,rfl⟩,Qf⟩ ?_
  obtain⟨m10,hl13,h⟩:=Qb h
  refine AK.loop (body:=(fun st=>QdU b1 st.1 st.2)) (fun st σ=>σ=⟨[(4,.map 10),(11,.sl 2 (b1.map QB)),(12,.i .i64 (b1.length:Int)),(13,.i .i64 st.1)],[(10,.map (mapV (V.i .i64) (V.i .i64) st.2))]⟩) (fun q e σ=>e=.exit 0∧σ=⟨[(4,.map 10)],[(10,.map (mapV (V.i .i64) (V.i .i64) q))]⟩) hl13 rfl ?_ ?_
  ·rintro ⟨x6,m7⟩ o σ rfl h
   replace h:QdU b1 x6 m7=some o:=h
   unfold QdU at h
   refine Qa hC [.n 6] rfl tt_ ?_
   rcases bifE h with⟨hc11,h⟩|⟨hc11,h⟩
   ·obtain⟨e12,he12,h⟩:=Qb h
    refine Qa hC [.br true,.n 6,.o (.row (QB e12)),.v .no [] (.agg (QB e12)),.n 2,.sayO 6 (.var (QB e12)),.n 8,.x (fun σ=>σ.set 10 (.map (mapV (V.i .i64) (V.i .i64) (mset ltI m7 e12.1 e12.2)))),.n 7,.keep [4,11,12,13] [10]] rfl ⟨⟨⟨⟨⟨tt_,hc11⟩,(idxM he12)⟩,rfl⟩,rfl⟩,(Stp.mapUpdate (e:=(V.i .i64)) (f:=(V.i .i64)) (l:=m7) (k:=e12.1) (v:=e12.2) ltI rfl rfl rfl rfl rfl rfl Qd3 ky_3 rfl)⟩ ?_
    cases h
    exact rndN rfl rfl
   ·refine Qa hC [.br false,.n 2,.keep [4] [10]] rfl ⟨tt_,hc11⟩ ?_
    cases h
    exact rndX rfl (an_ rfl rfl)
  ·replace h:Qns m10=some r:=h
   unfold Qns at h
   rintro e σ ⟨rfl,rfl⟩
   refine Qa hC [.n 10,.keep [2,3] [10],.ren 10 30002,.keep [2,3] [30002]] rfl tt_ ?_
   cases h
   exact AK.done (ex_ [_,_] (an_ (an_ rfl (an_ rfl tt_)) (gives ⟨rfl,tt_⟩)))
def QlO (a11:Unit):Option (Unit⊕(QBg⊕(QBg⊕(QBg×QBg)))):=
 some (.inl ())
def QlP (a12:QBg):Option (Unit⊕(QBg⊕(QBg⊕(QBg×QBg)))):=
 some (.inr (.inl a12))
def QjT (b2:QBg)(a8:Unit):Option (Unit⊕(QBg⊕(QBg⊕(QBg×QBg)))):=
 (QiM b2).bind (Sum.elim (fun q=>QlO q) (fun q=>QlP q))
def QlQ (a9:QBg)(a14:Unit):Option (Unit⊕(QBg⊕(QBg⊕(QBg×QBg)))):=
 some (.inr (.inr (.inl a9)))
def QlR (a9:QBg)(a15:QBg):Option (Unit⊕(QBg⊕(QBg⊕(QBg×QBg)))):=
 some (.inr (.inr (.inr (a9,a15))))
def QjU (b2:QBg)(a9:QBg):Option (Unit⊕(QBg⊕(QBg⊕(QBg×QBg)))):=
 (QiM b2).bind (Sum.elim (fun q=>QlQ a9 q) (fun q=>QlR a9 q))
def QhB (a1:QBg)(b2:QBg):Option (Unit⊕(QBg⊕(QBg⊕(QBg×QBg)))):=
 (QiM a1).bind (Sum.elim (fun q=>QjT b2 q) (fun q=>QjU b2 q))
theorem Qbg (a1:QBg)(b2:QBg){r:(Unit⊕(QBg⊕(QBg⊕(QBg×QBg))))}(h:QhB a1 b2=some r):Qc Tryz.prog 145 [.sl 2 (a1.map QB),.sl 2 (b2.map QB)] [] ((Sum.elim (fun q=>(Gives (.tup [.lit (.map none),.lit (.map none),.b false]) [])) (Sum.elim (fun q=>(Gives (.tup [.lit (.map none),.map 30005,.b false]) [(30005,.map (mapV (V.i .i64) (V.i .i64) q))])) (Sum.elim (fun q=>(Gives (.tup [.map 30004,.lit (.map none),.b false]) [(30004,.map (mapV (V.i .i64) (V.i .i64) q))])) (fun q=>(Gives (.tup [.map 30004,.map 30005,.b true]) [(30004,.map (mapV (V.i .i64) (V.i .i64) q.1)),(30005,.map (mapV (V.i .i64) (V.i .i64) q.2))]))))) r):=by
 refine Qc.walk 25 Tryz.func145 rfl Tryz.ntmps145 rfl fun C hC=>?_
 unfold QhB at h
 obtain⟨x7,hx7,h⟩:=Qb h
 refine Qa hC [.n 10] rfl tt_ ?_
 rcases x7 with(a8 | a9)
 ·replace h:QjT b2 a8=some r:=h
  unfold QjT at h
  obtain⟨x10,hx10,h⟩:=Qb h
  refine Qa hC [.cm (.fn) [] [] [] [.d] [] (.tup [.lit (.map none),.b false]),.n 10] rfl ⟨tt_,(Qe3 _ hx7)⟩ ?_
  rcases x10 with(a11 | a12)
  ·replace h:QlO a11=some r:=h
   unfold QlO at h
   refine Qa hC [.cm (.fn) [] [] [] [.d] [] (.tup [.lit (.map none),.b false]),.n 21,.keep [4,5,6] []] rfl ⟨tt_,(Qe3 _ hx10)⟩ ?_
   cases h
   exact AK.done (ex_ [_,_,_] (an_ (an_ rfl (an_ rfl (an_ rfl tt_))) (gives tt_)))
  ·replace h:QlP a12=some r:=h
   unfold QlP at h
   refine Qa hC [.cm (.fn) [] [(16,30002)] [] [.d] [(30002,.map (mapV (V.i .i64) (V.i .i64) a12))] (.tup [.map 30002,.b true]),.n 21,.keep [4,5,6] [16],.ren 16 30005,.keep [4,5,6] [30005]] rfl ⟨tt_,(Qe3 _ hx10)⟩ ?_
   cases h
   exact AK.done (ex_ [_,_,_] (an_ (an_ rfl (an_ rfl (an_ rfl tt_))) (gives ⟨rfl,tt_⟩)))
 ·replace h:QjU b2 a9=some r:=h
  unfold QjU at h
  obtain⟨x13,hx13,h⟩:=Qb h
  refine Qa hC [.cm (.fn) [] [(11,30002)] [] [.d] [(30002,.map (mapV (V.i .i64) (V.i .i64) a9))] (.tup [.map 30002,.b true]),.n 10] rfl ⟨tt_,(Qe3 _ hx7)⟩ ?_
  rcases x13 with(a14 | a15)
  ·replace h:QlQ a9 a14=some r:=h
   unfold QlQ at h
   refine Qa hC [.cm (.fn) [] [] [] [.d] [] (.tup [.lit (.map none),.b false]),.n 21,.keep [4,5,6] [11],.ren 11 30004,.keep [4,5,6] [30004]] rfl ⟨tt_,(Qe3 _ hx13)⟩ ?_
   cases h
   exact AK.done (ex_ [_,_,_] (an_ (an_ rfl (an_ rfl (an_ rfl tt_))) (gives ⟨rfl,tt_⟩)))
  ·replace h:QlR a9 a15=some r:=h
   unfold QlR at h
   refine Qa hC [.cm (.fn) [] [(16,30002)] [] [.d] [(30002,.map (mapV (V.i .i64) (V.i .i64) a15))] (.tup [.map 30002,.b true]),.n 21,.keep [4,5,6] [11,16],.ren 11 30004,.keep [4,5,6] [16,30004],.ren 16 30005,.keep [4,5,6] [30004,30005]] rfl ⟨tt_,(Qe3 _ hx13)⟩ ?_
   cases h
   exact AK.done (ex_ [_,_,_] (an_ (an_ rfl (an_ rfl (an_ rfl tt_))) (gives ⟨rfl,rfl,tt_⟩)))
def QmA (a8:Unit):Option (QBg×Int):=
 some (([]:List (Int×Int)),1)
def QmB (a9:QBg):Option (QBg×Int):=
 some (([]:List (Int×Int)),1)
def QmC (a10:QBg):Option (QBg×Int):=
 some (([]:List (Int×Int)),1)
def Qfv (m14:QBg)(k16:Int)(v17:Int):Option (QBg⊕Unit):=
 bif (decide (1048576<((mget (mset ltI m14 k16 (w64 (((mget m14 k16).getD 0)+v17))) k16).getD 0)))then
 some (.inr ())
 else
 some (.inl (mset ltI m14 k16 (w64 (((mget m14 k16).getD 0)+v17))))
def QkL (m14:QBg):Option (QBg×Int):=
 (QcJ m14).bind fun x20=>
 some (x20,0)
def QmD : Option (QBg×Int):=
 some (([]:List (Int×Int)),2)
def QkM (a11:(QBg×QBg)):Option (QBg×Int):=
 (QhP (fun st p=>Qfv st p.1 p.2) a11.1 a11.2).bind (Sum.elim (fun q=>QkL q) (fun q=>QmD))
def Qbb (a1:QBg)(b2:QBg):Option (QBg×Int):=
 (QhB a1 b2).bind (Sum.elim (fun q=>QmA q) (Sum.elim (fun q=>QmB q) (Sum.elim (fun q=>QmC q) (fun q=>QkM q))))
theorem Qpl (a1:QBg)(b2:QBg){r:(QBg×Int)}(h:Qbb a1 b2=some r):Qc Tryz.prog 96 [.sl 2 (a1.map QB),.sl 2 (b2.map QB)] [] (Gives (.tup [.sl 2 (r.1.map QB),.i .i64 r.2]) []):=by
 refine Qc.walk 38 Tryz.func96 rfl Tryz.ntmps96 rfl fun C hC=>?_
 unfold Qbb at h
 obtain⟨x7,hx7,h⟩:=Qb h
 refine Qa hC [.n 10] rfl tt_ ?_
 rcases x7 with(a8 | (a9 | (a10 | a11)))
 ·replace h:QmA a8=some r:=h
  unfold QmA at h
  refine Qa hC [.cm (.fn) [] [] [] [.d,.d] [] (.tup [.lit (.map none),.lit (.map none),.b false]),.n 25,.denil 4 [some 2],.keep [4,5] []] rfl ⟨tt_,(Qbg _ _ hx7)⟩ ?_
  cases h
  exact AK.done (ex_ [_,_] (an_ (an_ rfl (an_ rfl tt_)) (gives tt_)))
 ·replace h:QmB a9=some r:=h
  unfold QmB at h
  refine Qa hC [.cm (.fn) [] [(14,30005)] [] [.d,.d] [(30005,.map (mapV (V.i .i64) (V.i .i64) a9))] (.tup [.lit (.map none),.map 30005,.b false]),.n 25,.denil 4 [some 2],.keep [4,5] []] rfl ⟨tt_,(Qbg _ _ hx7)⟩ ?_
  cases h
  exact AK.done (ex_ [_,_] (an_ (an_ rfl (an_ rfl tt_)) (gives tt_)))
 ·replace h:QmC a10=some r:=h
  unfold QmC at h
  refine Qa hC [.cm (.fn) [] [(14,30004)] [] [.d,.d] [(30004,.map (mapV (V.i .i64) (V.i .i64) a10))] (.tup [.map 30004,.lit (.map none),.b false]),.n 25,.denil 4 [some 2],.keep [4,5] []] rfl ⟨tt_,(Qbg _ _ hx7)⟩ ?_
  cases h
  exact AK.done (ex_ [_,_] (an_ (an_ rfl (an_ rfl tt_)) (gives tt_)))
 ·replace h:QkM a11=some r:=h
  unfold QkM at h
  refine Qa hC [.cm (.fn) [] [(14,30004),(50000,30005)] [] [.d,.d] [(30004,.map (mapV (V.i .i64) (V.i .i64) a11.1)),(30005,.map (mapV (V.i .i64) (V.i .i64) a11.2))] (.tup [.map 30004,.map 30005,.b true]),.n 23] rfl ⟨tt_,(Qbg _ _ hx7)⟩ ?_
  refine AK.openMap (b:=50000) ky_3 rfl fun bm12 cl12 L12 hbn12 hpm12=>?_
  refine Qa hC [.x (fun σ=>(σ.set 21 (.itr bm12 cl12 #[] none)).put 21 (.loc 21 0 0)),.n 3,.keep [6,21] [14,21,50000]] rfl ⟨tt_,(Stp.range (b:=50000) rfl rfl (bleN hC.n rfl) rfl rfl Qd3 rfl)⟩ ?_
  obtain⟨o19,hl19,h⟩:=Qb h
  refine AK.range (body:=(fun st p=>Qfv st p.1 p.2)) (fun st seen σ=>∃cur:Option MapEntry,σ=⟨[(6,.map 14),(21,.loc 21 0 0)],[(14,.map (mapV (V.i .i64) (V.i .i64) st)),(21,.itr bm12 cl12 seen cur),(50000,.mapX bm12 cl12 (typV (V.i .i64) (V.i .i64) L12) (mapV (V.i .i64) (V.i .i64) a11.2))]⟩) (fun q e σ=>e=.ret∧σ=⟨[(4,.lit (.slice none 0 0)),(5,.i .i64 2)],[]⟩) (fun st e σ=>e=.exit 0∧σ=⟨[(6,.map 14)],[(14,.map (mapV (V.i .i64) (V.i .i64) st))]⟩) hbn12 hpm12 hl19 (ex_ _ rfl) ?_ ?_
  ·rintro m14 seen σ ⟨cur,rfl⟩ hex
   refine Qa hC [.n 2] rfl tt_ ?_
   refine AK.nextT (b:=21) (m:=50000) rfl rfl rfl (bleN hC.n rfl) rfl rfl rfl rfl ?_ ?_
   ·intro hleft
    refine Qa hC [.n 7,.keep [6] [14]] rfl tt_ ?_
    exact AK.done (Or.inl (an_ hleft (an_ (fun h=>(by cases h)) (an_ rfl rfl))))
   ·intro xk16 k16 v17 hq13
    obtain⟨o,h⟩:=hex _ hq13
    have ho:=h
    replace h:Qfv m14 k16 v17=some o:=h
    unfold Qfv at h
    refine Qa hC [.n 10,.x (fun σ=>σ.put 24 (.tup [.i .i64 k16,.i .i64 v17])),.n 10,.o (.any (.i .i64 ((mget m14 k16).getD 0)) none),.n 2,.x (fun σ=>σ.set 14 (.map (mapV (V.i .i64) (V.i .i64) (mset ltI m14 k16 (w64 (((mget m14 k16).getD 0)+v17)))))),.n 6,.o (.any (.i .i64 ((mget (mset ltI m14 k16 (w64 (((mget m14 k16).getD 0)+v17))) k16).getD 0)) none),.n 3] rfl ⟨⟨⟨⟨tt_,(Stp.entryT (b:=21) (m:=50000) rfl rfl (bleN hC.n rfl) rfl hq13 rfl rfl)⟩,(fun σ h1 h2 _=>Stp.lookup (e:=(V.i .i64)) (f:=(V.i .i64)) (l:=m14) (k:=k16) (z:=0) rfl rfl (bleN hC.n rfl) (h1 _ _ rfl) (h2 _ _ rfl) (h1 _ _ rfl) Qd3 ky_3 zi_3 rfl)⟩,(Stp.mapUpdate (e:=(V.i .i64)) (f:=(V.i .i64)) (l:=m14) (k:=k16) (v:=(w64 (((mget m14 k16).getD 0)+v17))) ltI rfl rfl rfl rfl rfl rfl Qd3 ky_3 rfl)⟩,(fun σ h1 h2 _=>Stp.lookup (e:=(V.i .i64)) (f:=(V.i .i64)) (l:=(mset ltI m14 k16 (w64 (((mget m14 k16).getD 0)+v17)))) (k:=k16) (z:=0) rfl rfl (bleN hC.n rfl) (h1 _ _ rfl) (h2 _ _ rfl) (h1 _ _ rfl) Qd3 ky_3 zi_3 rfl)⟩ ?_
    rcases bifE h with⟨hc18,h⟩|⟨hc18,h⟩
    ·refine Qa hC [.br true,.n 8,.keep [4,5] []] rfl ⟨tt_,hc18⟩ ?_
     cases h
     exact AK.done (Or.inr (ex_ _ (an_ hq13 (Or.inr (ex_ _ (an_ ho (an_ (fun h=>(by cases h)) (an_ rfl rfl))))))))
    ·refine Qa hC [.br false,.n 2,.keep [6,21] [14,21,50000]] rfl ⟨tt_,hc18⟩ ?_
     cases h
     exact AK.done (Or.inr (ex_ _ (an_ hq13 (Or.inl (ex_ _ (an_ ho (an_ rfl (ex_ _ rfl))))))))
  ·rcases o19 with(m14 | _)
   ·replace h:QkL m14=some r:=h
    unfold QkL at h
    rintro e σ ⟨rfl,rfl⟩
    obtain⟨x20,hx20,h⟩:=Qb h
    refine Qa hC [.n 5,.cm (.fn) [(200000,14)] [(37,30000),(14,200000)] [] [.d] [(30000,.arr 2 (x20.map QB)),(200000,.map (mapV (V.i .i64) (V.i .i64) m14))] (.own 30000 x20.length),.n 5,.frz 37 (x20.map QB) [4] [],.keep [4,5] []] rfl ⟨⟨tt_,(Qig _ hx20)⟩,⟨tt_,(frzL Qf)⟩⟩ ?_
    cases h
    exact AK.done (ex_ [_,_] (an_ (an_ rfl (an_ rfl tt_)) (gives tt_)))
   ·replace h:QmD=some r:=h
    unfold QmD at h
    rintro e σ ⟨rfl,rfl⟩
    refine Qa hC [.n 2,.denil 4 [some 2],.keep [4,5] []] rfl tt_ ?_
    cases h
    exact AK.done (ex_ [_,_] (an_ (an_ rfl (an_ rfl tt_)) (gives tt_)))
def QdN (which3:(List Int))(l2:(List TArc))(env4:(List Int))(n1:TNet)(x11:Int)(l12:QMk):Option ((Int×QMk)⊕(Int⊕QMk)):=
 bif (decide (x11<(which3.length:Int)))then
 (idx which3 x11).bind fun e18=>
 bif ((decide (e18<0))||(decide ((l2.length:Int)≤e18)))then
 some (.inr (.inl 11))
 else
 (idx l2 e18).bind fun e22=>
 (Qia e22.Expr env4).bind fun x23=>
 bif (x23.2 != 0)then
 some (.inr (.inl x23.2))
 else
 (idx l2 e18).bind fun e25=>
 bif ((decide (e25.Place<0))||(decide ((n1.Places.length:Int)≤e25.Place)))then
 some (.inr (.inl 3))
 else
 (idx n1.Places e25.Place).bind fun e29=>
 (Qdb n1.Colours e29.Colour x23.1).bind fun x30=>
 bif (!x30.2)then
 some (.inr (.inl 8))
 else
 (idx l12 e25.Place).bind fun e32=>
 (Qmz ([x30.1]:List Int)).bind fun x33=>
 (Qbb e32 x33).bind fun x34=>
 (idx l12 e25.Place).bind fun e35=>
 bif (x34.2 != 0)then
 some (.inr (.inl x34.2))
 else
 some (.inl ((w64 (x11+1)),(l12.set e25.Place.toNat x34.1)))
 else
 some (.inr (.inr l12))
def Qka (x15:Int):Option (QMk×Int):=
 some (([]:List QBg),x15)
def Qkb (l16:QMk):Option (QMk×Int):=
 some (l16,0)
def QcE (n1:TNet)(l2:(List TArc))(which3:(List Int))(env4:(List Int)):Option (QMk×Int):=
 (chk (decide (0≤(n1.Places.length:Int))&&decide ((n1.Places.length:Int)≤(n1.Places.length:Int))&&decide ((n1.Places.length:Int)≤4294967296))).bind fun _=>
 (QC (fun st=>QdN which3 l2 env4 n1 st.1 st.2) (0,(List.replicate (n1.Places.length:Int).toNat (([]:QBg):QBg)))).bind (Sum.elim (fun q=>Qka q) (fun q=>Qkb q))
theorem Qfw (n1:TNet)(l2:(List TArc))(which3:(List Int))(env4:(List Int)){r:(QMk×Int)}(h:QcE n1 l2 which3 env4=some r):Qc Tryz.prog 87 [.agg (Qd n1),.sl 4 (l2.map QF),.sl 1 (which3.map Qe),.sl 1 (env4.map Qe)] [] (Gives (.tup [.sl 1 (r.1.map Qi),.i .i64 r.2]) []):=by
 refine Qc.walk 97 Tryz.func87 rfl Tryz.ntmps87 rfl fun C hC=>?_
 unfold QcE at h
 obtain⟨_,hk9,h⟩:=Qb h
 replace hk9:=chkE hk9
 refine Qa hC [.n 11,.o (.ln n1.Places.length),.o (.rows (List.replicate (n1.Places.length:Int).toNat [.lit (.slice none 0 0)]))] rfl ⟨⟨tt_,Qf⟩,⟨hk9,rfl⟩⟩ ?_
 refine AK.denilA (b:=21) [some 2] rfl (Qto (f:=Qi) (x:=([]:QBg)) rfl) ?_
 refine Qa hC [.say 21 (.own 21 (List.replicate (n1.Places.length:Int).toNat (([]:QBg):QBg)).length),.n 7,.o (.ln which3.length),.n 4,.keep [1,3,4,10,22,23,24] [4,21]] rfl ⟨⟨tt_,(by simp)⟩,Qf⟩ ?_
 obtain⟨o37,hl37,h⟩:=Qb h
 refine AK.loop (body:=(fun st=>QdN which3 l2 env4 n1 st.1 st.2)) (fun st σ=>σ=⟨[(1,.sl 4 (l2.map QF)),(3,.sl 1 (env4.map Qe)),(4,.loc 4 0 0),(10,.own 21 st.2.length),(22,.sl 1 (which3.map Qe)),(23,.i .i64 (which3.length:Int)),(24,.i .i64 st.1)],[(4,.var (Qd n1)),(21,.arr 1 (st.2.map Qi))]⟩) (Sum.elim (fun q e σ=>e=.ret∧σ=⟨[(8,.lit (.slice none 0 0)),(9,.i .i64 q)],[]⟩) (fun q e σ=>e=.exit 0∧σ=⟨[(10,.own 21 q.length)],[(21,.arr 1 (q.map Qi))]⟩)) hl37 rfl ?_ ?_
 ·rintro ⟨x11,l12⟩ o σ rfl h
  replace h:QdN which3 l2 env4 n1 x11 l12=some o:=h
  unfold QdN at h
  refine Qa hC [.n 6] rfl tt_ ?_
  rcases bifE h with⟨hc17,h⟩|⟨hc17,h⟩
  ·obtain⟨e18,he18,h⟩:=Qb h
   refine Qa hC [.br true,.n 6,.o (.row (Qe e18)),.n 6] rfl ⟨⟨tt_,hc17⟩,(idxM he18)⟩ ?_
   refine AK.meetX (fun σ=>σ=⟨[(1,.sl 4 (l2.map QF)),(3,.sl 1 (env4.map Qe)),(4,.loc 4 0 0),(10,.own 21 l12.length),(12,.i .i64 e18),(22,.sl 1 (which3.map Qe)),(23,.i .i64 (which3.length:Int)),(24,.i .i64 x11),(35,.b ((decide (e18<0))||(decide ((l2.length:Int)≤e18))))],[(4,.var (Qd n1)),(21,.arr 1 (l12.map Qi))]⟩) ?_ ?_
   ·refine Qa hC [.n 4] rfl tt_ ?_
    rcases QJ (decide (e18<0))with hc20 | hc20
    ·refine Qa hC [.say 30 (.b true),.n 6,.say 35 (.b ((decide (e18<0))||(decide ((l2.length:Int)≤e18)))),.keep [1,3,4,10,12,22,23,24,35] [4,21]] rfl ⟨⟨tt_,(congrArg V.b hc20)⟩,(congrArg V.b (orT hc20 rfl))⟩ ?_
     exact AK.met rfl
    ·refine Qa hC [.say 30 (.b false),.n 2,.o (.ln l2.length),.n 3,.say 35 (.b ((decide (e18<0))||(decide ((l2.length:Int)≤e18)))),.keep [1,3,4,10,12,22,23,24,35] [4,21]] rfl ⟨⟨⟨tt_,(congrArg V.b hc20)⟩,Qf⟩,(congrArg V.b (orF hc20 rfl))⟩ ?_
     exact AK.met rfl
   ·rintro σ rfl
    refine Qa hC [.n 1] rfl tt_ ?_
    rcases bifE h with⟨hc21,h⟩|⟨hc21,h⟩
    ·refine Qa hC [.br true,.n 10,.keep [8,9] []] rfl ⟨tt_,hc21⟩ ?_
     cases h
     exact rndR rfl (an_ rfl rfl)
    ·obtain⟨e22,he22,h⟩:=Qb h
     obtain⟨x23,hx23,h⟩:=Qb h
     refine Qa hC [.br false,.n 6,.o (.row (QF e22)),.n 1,.v .no [] (.agg (Qm e22.Expr)),.n 1,.o (.c false [.d,.d] (.tup [.i .i64 x23.1,.i .i64 x23.2])),.n 14] rfl ⟨⟨⟨⟨tt_,hc21⟩,(idxM he22)⟩,rfl⟩,(QnJ _ _ hx23)⟩ ?_
     rcases bifE h with⟨hc24,h⟩|⟨hc24,h⟩
     ·refine Qa hC [.br true,.n 11,.keep [8,9] []] rfl ⟨tt_,hc24⟩ ?_
      cases h
      exact rndR rfl (an_ rfl rfl)
     ·obtain⟨e25,he25,h⟩:=Qb h
      refine Qa hC [.br false,.n 6,.o (.row (QF e25)),.n 7] rfl ⟨⟨tt_,hc24⟩,(idxM he25)⟩ ?_
      refine AK.meetX (fun σ=>σ=⟨[(1,.sl 4 (l2.map QF)),(3,.sl 1 (env4.map Qe)),(4,.loc 4 0 0),(10,.own 21 l12.length),(13,.i .i64 x23.1),(15,.i .i64 e25.Place),(22,.sl 1 (which3.map Qe)),(23,.i .i64 (which3.length:Int)),(24,.i .i64 x11),(62,.b ((decide (e25.Place<0))||(decide ((n1.Places.length:Int)≤e25.Place))))],[(4,.var (Qd n1)),(21,.arr 1 (l12.map Qi))]⟩) ?_ ?_
      ·refine Qa hC [.n 4] rfl tt_ ?_
       rcases QJ (decide (e25.Place<0))with hc27 | hc27
       ·refine Qa hC [.say 56 (.b true),.n 7,.say 62 (.b ((decide (e25.Place<0))||(decide ((n1.Places.length:Int)≤e25.Place)))),.keep [1,3,4,10,13,15,22,23,24,62] [4,21]] rfl ⟨⟨tt_,(congrArg V.b hc27)⟩,(congrArg V.b (orT hc27 rfl))⟩ ?_
        exact AK.met rfl
       ·refine Qa hC [.say 56 (.b false),.n 3,.o (.ln n1.Places.length),.n 3,.say 62 (.b ((decide (e25.Place<0))||(decide ((n1.Places.length:Int)≤e25.Place)))),.keep [1,3,4,10,13,15,22,23,24,62] [4,21]] rfl ⟨⟨⟨tt_,(congrArg V.b hc27)⟩,Qf⟩,(congrArg V.b (orF hc27 rfl))⟩ ?_
        exact AK.met rfl
      ·rintro σ rfl
       refine Qa hC [.n 1] rfl tt_ ?_
       rcases bifE h with⟨hc28,h⟩|⟨hc28,h⟩
       ·refine Qa hC [.br true,.n 10,.keep [8,9] []] rfl ⟨tt_,hc28⟩ ?_
        cases h
        exact rndR rfl (an_ rfl rfl)
       ·obtain⟨e29,he29,h⟩:=Qb h
        obtain⟨x30,hx30,h⟩:=Qb h
        refine Qa hC [.br false,.n 3,.keep [1,3,4,10,13,15,22,23,24] [4,21]] rfl ⟨tt_,hc28⟩ ?_
        refine AK.draw2 Qo hC mixed [.a .no none false,.a .no none false,.a .no none false,.a .no none false,.a .no none false,.a (.row (Qs e29)) none false,.a .no none false,.a .no none false,.a .no none false,.a (.c false [.d,.d,.d] (.tup [.i .i64 x30.1,.b x30.2])) none false,.a .no none false,.a .no none false,.a .no none false,.a .no none false,.a .no none false] [] [] [1,3,4,10,15,16,17,22,23,24] [4,21] rfl rfl rfl ⟨⟨tt_,(idxM he29)⟩,(Qpk _ _ _ hx30)⟩ rfl (by kernel_rfl) rfl rfl rfl ?_
        refine Qa hC [.n 8] rfl tt_ ?_
        rcases bifE h with⟨hc31,h⟩|⟨hc31,h⟩
        ·refine Qa hC [.br true,.n 10,.keep [8,9] []] rfl ⟨tt_,hc31⟩ ?_
         cases h
         exact rndR rfl (an_ rfl rfl)
        ·obtain⟨e32,he32,h⟩:=Qb h
         obtain⟨x33,hx33,h⟩:=Qb h
         obtain⟨x34,hx34,h⟩:=Qb h
         obtain⟨e35,he35,h⟩:=Qb h
         refine Qa hC [.br false,.n 3,.keep [1,3,4,10,15,16,22,23,24] [4,21]] rfl ⟨tt_,hc31⟩ ?_
         refine AK.draw2 Qo hC mixed [.a .no none false,.a .no none false,.a .no none false,.a .no none false,.a .no none false,.a (.row (Qi e32)) none false,.a .no none false,.a (.bd []) (some ([],.sl 1 (([x30.1]:List Int).map Qe))) false,.a (.cd false [.d] 2 (x33.map QB) x33.length) none false,.a (.c false [.d,.d] (.tup [.sl 2 (x34.1.map QB),.i .i64 x34.2])) none false,.a .no none true true,.a .no none false,.a .no none true,.a .no none false,.m (.st (Qi e35) ((l12.set e25.Place.toNat x34.1).map Qi)),.a .no none false] [1,3,4,10,15,16,22,23,24] [4] [1,3,4,10,14,22,23,24] [4,21] rfl rfl rfl ⟨⟨⟨⟨⟨⟨⟨tt_,(QaX he32 rfl)⟩,(Qal (idxE he32).2)⟩,rfl⟩,⟨(QtY _ hx33),Qf⟩⟩,(Qpl _ _ hx34)⟩,(QaX he35 rfl)⟩,⟨(Qal (idxE he35).2),Qkx rfl⟩⟩ rfl (by kernel_rfl) rfl rfl rfl ?_
         refine Qa hC [.n 7] rfl tt_ ?_
         rcases bifE h with⟨hc36,h⟩|⟨hc36,h⟩
         ·refine Qa hC [.br true,.n 10,.keep [8,9] []] rfl ⟨tt_,hc36⟩ ?_
          cases h
          exact rndR rfl (an_ rfl rfl)
         ·refine Qa hC [.br false,.n 7,.say 10 (.own 21 (l12.set e25.Place.toNat x34.1).length),.keep [1,3,4,10,22,23,24] [4,21]] rfl ⟨⟨tt_,hc36⟩,(congrArg (fun n=>V.own 21 n) (by simp))⟩ ?_
          cases h
          exact rndN rfl rfl
  ·refine Qa hC [.br false,.n 2,.keep [10] [21]] rfl ⟨tt_,hc17⟩ ?_
   cases h
   exact rndX rfl (an_ rfl rfl)
 ·rcases o37 with(x15 | l16)
  ·replace h:Qka x15=some r:=h
   unfold Qka at h
   rintro e σ ⟨rfl,rfl⟩
   refine Qa hC [.n 2,.denil 8 [some 1],.keep [8,9] []] rfl tt_ ?_
   cases h
   exact AK.done (ex_ [_,_] (an_ (an_ rfl (an_ rfl tt_)) (gives tt_)))
  ·replace h:Qkb l16=some r:=h
   unfold Qkb at h
   rintro e σ ⟨rfl,rfl⟩
   refine Qa hC [.n 10,.frz 21 (l16.map Qi) [8] [],.keep [8,9] []] rfl ⟨tt_,⟨tt_,(frzL Qf)⟩⟩ ?_
   cases h
   exact AK.done (ex_ [_,_] (an_ (an_ rfl (an_ rfl tt_)) (gives tt_)))
def Q0 (b1:QA)(outs2:(List Int)):Option Int:=
 (QcE b1.net b1.task.Outs outs2 b1.env).bind fun x4=>
 some x4.2
theorem QjI (b1:QA)(outs2:(List Int)){r:Int}(h:Q0 b1 outs2=some r):Qc Tryz.prog 45 [.agg (Qq b1),.sl 1 (outs2.map Qe)] [] (Gives (.i .i64 r) []):=by
 refine Qc.walk 20 Tryz.func45 rfl Tryz.ntmps45 rfl fun C hC=>?_
 unfold Q0 at h
 obtain⟨x4,hx4,h⟩:=Qb h
 refine Qa hC [.n 9,.v .no [] (.agg (Qd b1.net)),.n 6,.o (.c false [.d,.d,.d,.d] (.tup [.sl 1 (x4.1.map Qi),.i .i64 x4.2])),.n 14,.keep [4] []] rfl ⟨⟨tt_,rfl⟩,(Qfw _ _ _ _ hx4)⟩ ?_
 cases h
 exact AK.done (ex_ [_] (an_ (an_ rfl tt_) (gives tt_)))
def Qfa (row1:(List Int))(v2:QA):Option Bool:=
 (Q0 v2 row1).bind fun x4=>
 some (x4 != 0)
theorem Ql3 (row1:(List Int))(v2:QA){r:Bool}(h:Qfa row1 v2=some r):Qc Tryz.prog 80 [.sl 1 (row1.map Qe),.loc 200000 0 0] [(200000,.var (Qq v2))] (Gives (.b r) [(200000,.var (Qq v2))]):=by
 refine Qc.walk 8 Tryz.func80 rfl Tryz.ntmps80 rfl fun C hC=>?_
 unfold Qfa at h
 obtain⟨x4,hx4,h⟩:=Qb h
 refine Qa hC [.n 7,.v .no [] (.agg (Qq v2)),.n 1,.o (.c false [.d,.d] (.i .i64 x4)),.n 5,.keep [3] [200000]] rfl ⟨⟨tt_,rfl⟩,(QjI _ _ hx4)⟩ ?_
 cases h
 exact AK.done (ex_ [_] (an_ (an_ rfl tt_) (gives ⟨rfl,tt_⟩)))
def Qak (l1:QLL)(v2:QA)(x5:Int):Option (Int⊕(Int⊕Unit)):=
 bif (decide (x5<(l1.length:Int)))then
 (idx l1 x5).bind fun e9=>
 (Qfa e9 v2).bind fun x10=>
 bif x10 then
 some (.inr (.inl x5))
 else
 some (.inl (w64 (x5+1)))
 else
 some (.inr (.inr ()))
def QcK (x7:Int):Option Int:=
 some x7
def QcL : Option Int:=
 some (-1)
def Qa8 (l1:QLL)(v2:QA):Option Int:=
 (QC (fun st=>Qak l1 v2 st) 0).bind (Sum.elim (fun q=>QcK q) (fun q=>QcL))
theorem Qkc (l1:QLL)(v2:QA){r:Int}(h:Qa8 l1 v2=some r):Qc Tryz.prog 137 [.own 200000 l1.length,.clo (.func 80) [] [.loc 200001 0 0]] [(200000,.arr 1 (l1.map Qx)),(200001,.var (Qq v2))] (Gives (.i .i64 r) [(200000,.arr 1 (l1.map Qx)),(200001,.var (Qq v2))]):=by
 refine Qc.walk 19 Tryz.func137 rfl Tryz.ntmps137 rfl fun C hC=>?_
 unfold Qa8 at h
 refine Qa hC [.n 14,.keep [0,1,7,8] [200000,200001]] rfl tt_ ?_
 obtain⟨o12,hl12,h⟩:=Qb h
 refine AK.loop (body:=(fun st=>Qak l1 v2 st)) (fun st σ=>σ=⟨[(0,.own 200000 l1.length),(1,.clo (.func 80) [] [.loc 200001 0 0]),(7,.i .i64 (l1.length:Int)),(8,.i .i64 st)],[(200000,.arr 1 (l1.map Qx)),(200001,.var (Qq v2))]⟩) (Sum.elim (fun q e σ=>e=.ret∧σ=⟨[(4,.i .i64 q)],[(200000,.arr 1 (l1.map Qx)),(200001,.var (Qq v2))]⟩) (fun q e σ=>e=.exit 0∧σ=⟨[],[(200000,.arr 1 (l1.map Qx)),(200001,.var (Qq v2))]⟩)) hl12 rfl ?_ ?_
 ·rintro x5 o σ rfl h
  replace h:Qak l1 v2 x5=some o:=h
  unfold Qak at h
  refine Qa hC [.n 6] rfl tt_ ?_
  rcases bifE h with⟨hc8,h⟩|⟨hc8,h⟩
  ·obtain⟨e9,he9,h⟩:=Qb h
   obtain⟨x10,hx10,h⟩:=Qb h
   refine Qa hC [.br true,.n 16,.o (.row (Qx e9)),.cm (.clo) [(200000,200001)] [(200001,200000)] [] [.d,.d] [(200000,.var (Qq v2))] (.b x10),.n 2] rfl ⟨⟨⟨⟨tt_,hc8⟩,(QaX he9 rfl)⟩,(Qal (idxE he9).2)⟩,(Ql3 _ _ hx10)⟩ ?_
   rcases bifE h with⟨hc11,h⟩|⟨hc11,h⟩
   ·refine Qa hC [.br true,.n 9,.keep [4] [200000,200001]] rfl ⟨tt_,hc11⟩ ?_
    cases h
    exact rndR rfl (an_ rfl rfl)
   ·refine Qa hC [.br false,.n 7,.keep [0,1,7,8] [200000,200001]] rfl ⟨tt_,hc11⟩ ?_
    cases h
    exact rndN rfl rfl
  ·refine Qa hC [.br false,.n 2,.keep [] [200000,200001]] rfl ⟨tt_,hc8⟩ ?_
   cases h
   exact rndX rfl (an_ rfl rfl)
 ·rcases o12 with(x7 | _)
  ·replace h:QcK x7=some r:=h
   unfold QcK at h
   rintro e σ ⟨rfl,rfl⟩
   refine Qa hC [.n 2,.keep [4] [200000,200001]] rfl tt_ ?_
   cases h
   exact AK.done (ex_ [_] (an_ (an_ rfl tt_) (gives ⟨rfl,rfl,tt_⟩)))
  ·replace h:QcL=some r:=h
   unfold QcL at h
   rintro e σ ⟨rfl,rfl⟩
   refine Qa hC [.n 8,.keep [4] [200000,200001]] rfl tt_ ?_
   cases h
   exact AK.done (ex_ [_] (an_ (an_ rfl tt_) (gives ⟨rfl,rfl,tt_⟩)))
def Qbs (j10:Int)(i18:Int)(l19:QLL):Option ((Int×Int×QLL)⊕(Int×QLL)):=
 some (.inl (i18,(w64 (j10+1)),l19))
def Qaf (v2:QA)(i9:Int)(j10:Int)(l11:QLL):Option ((Int×Int×QLL)⊕(Int×QLL)):=
 bif (decide (j10<(l11.length:Int)))then
 (idx l11 j10).bind fun e20=>
 (Qfa e20 v2).bind fun x21=>
 bif (!x21)then
 (idx l11 i9).bind fun e23=>
 Qbs j10 (w64 (i9+1)) (l11.set i9.toNat e20)
 else
 Qbs j10 i9 l11
 else
 some (.inr (i9,l11))
def QaH (i15:Int)(l16:QLL):Option QLL:=
 (chk (decide (0≤i15)&&decide (i15.toNat≤l16.length))).bind fun _=>
 (chk (decide (0≤i15)&&decide (i15.toNat≤(l16.take i15.toNat++List.replicate (l16.length-i15.toNat) (([]:(List Int)):(List Int))).length))).bind fun _=>
 some ((l16.take i15.toNat++List.replicate (l16.length-i15.toNat) (([]:(List Int)):(List Int))).take i15.toNat)
def Qa2 (l1:QLL)(v2:QA):Option QLL:=
 (Qa8 l1 v2).bind fun x5=>
 bif (x5==(-1))then
 some l1
 else
 (QC (fun st=>Qaf v2 st.1 st.2.1 st.2.2) (x5,(w64 (x5+1)),l1)).bind (fun q=>QaH q.1 q.2)
theorem QjJ (l1:QLL)(v2:QA){r:QLL}(h:Qa2 l1 v2=some r):Qc Tryz.prog 78 [.own 200000 l1.length,.clo (.func 80) [] [.loc 200001 0 0]] [(200000,.arr 1 (l1.map Qx)),(200001,.var (Qq v2))] (Gives (.own 200000 r.length) [(200000,.arr 1 (r.map Qx)),(200001,.var (Qq v2))]):=by
 refine Qc.walk 42 Tryz.func78 rfl Tryz.ntmps78 rfl fun C hC=>?_
 unfold Qa2 at h
 obtain⟨x5,hx5,h⟩:=Qb h
 refine Qa hC [.n 9,.cm (.fn) [(200000,200000),(200001,200001)] [(200000,200000),(200001,200001)] [] [.d,.d] [(200000,.arr 1 (l1.map Qx)),(200001,.var (Qq v2))] (.i .i64 x5),.n 10] rfl ⟨tt_,(Qkc _ _ hx5)⟩ ?_
 rcases bifE h with⟨hc6,h⟩|⟨hc6,h⟩
 ·refine Qa hC [.br true,.n 8,.keep [4] [200000,200001]] rfl ⟨tt_,hc6⟩ ?_
  cases h
  exact AK.done (ex_ [_] (an_ (an_ rfl tt_) (gives ⟨rfl,rfl,tt_⟩)))
 ·refine Qa hC [.br false,.n 11,.keep [0,1,5,6] [200000,200001]] rfl ⟨tt_,hc6⟩ ?_
  obtain⟨o24,hl24,h⟩:=Qb h
  refine AK.loop (body:=(fun st=>Qaf v2 st.1 st.2.1 st.2.2)) (fun st σ=>σ=⟨[(0,.own 200000 st.2.2.length),(1,.clo (.func 80) [] [.loc 200001 0 0]),(5,.i .i64 st.1),(6,.i .i64 st.2.1)],[(200000,.arr 1 (st.2.2.map Qx)),(200001,.var (Qq v2))]⟩) (fun q e σ=>e=.exit 0∧σ=⟨[(0,.own 200000 q.2.length),(5,.i .i64 q.1)],[(200000,.arr 1 (q.2.map Qx)),(200001,.var (Qq v2))]⟩) hl24 rfl ?_ ?_
  ·rintro ⟨i9,j10,l11⟩ o σ rfl h
   replace h:Qaf v2 i9 j10 l11=some o:=h
   unfold Qaf at h
   refine Qa hC [.n 9] rfl tt_ ?_
   rcases bifE h with⟨hc17,h⟩|⟨hc17,h⟩
   ·refine Qa hC [.br true,.n 2] rfl ⟨tt_,hc17⟩ ?_
    refine AK.meet (fun σ=>∃i18:Int,∃l19:QLL,σ=⟨[(0,.own 200000 l19.length),(1,.clo (.func 80) [] [.loc 200001 0 0]),(5,.i .i64 i18),(6,.i .i64 j10)],[(200000,.arr 1 (l19.map Qx)),(200001,.var (Qq v2))]⟩∧Qbs j10 i18 l19=some o) ?_ ?_
    ·obtain⟨e20,he20,h⟩:=Qb h
     obtain⟨x21,hx21,h⟩:=Qb h
     refine Qa hC [.n 6,.o (.row (Qx e20)),.n 7,.cm (.clo) [(200000,200001)] [(200001,200000)] [] [.d,.d] [(200000,.var (Qq v2))] (.b x21),.n 3] rfl ⟨⟨⟨tt_,(QaX he20 rfl)⟩,(Qal (idxE he20).2)⟩,(Ql3 _ _ hx21)⟩ ?_
     rcases bifE h with⟨hc22,h⟩|⟨hc22,h⟩
     ·obtain⟨e23,he23,h⟩:=Qb h
      refine Qa hC [.br true,.n 6,.st (Qx e23) ((l11.set i9.toNat e20).map Qx),.n 8,.say 0 (.own 200000 (l11.set i9.toNat e20).length),.keep [0,1,5,6] [200000,200001]] rfl ⟨⟨⟨⟨tt_,hc22⟩,(QaX he23 rfl)⟩,⟨(Qal (idxE he23).2),Qkx rfl⟩⟩,(congrArg (fun n=>V.own 200000 n) (by simp))⟩ ?_
      exact AK.met (ex_ _ (ex_ _ (an_ rfl h)))
     ·refine Qa hC [.br false,.n 2,.keep [0,1,5,6] [200000,200001]] rfl ⟨tt_,hc22⟩ ?_
      exact AK.met (ex_ _ (ex_ _ (an_ rfl h)))
    ·rintro σ ⟨i18,l19,rfl,h⟩
     unfold Qbs at h
     refine Qa hC [.n 5,.keep [0,1,5,6] [200000,200001]] rfl tt_ ?_
     cases h
     exact rndN rfl rfl
   ·refine Qa hC [.br false,.n 2,.keep [0,5] [200000,200001]] rfl ⟨tt_,hc17⟩ ?_
    cases h
    exact rndX rfl (an_ rfl rfl)
  ·obtain⟨i15,l16⟩:=o24
   replace h:QaH i15 l16=some r:=h
   unfold QaH at h
   rintro e σ ⟨rfl,rfl⟩
   refine Qa hC [.n 6] rfl tt_ ?_
   obtain⟨_,hk25,h⟩:=Qb h
   replace hk25:=chkE hk25
   refine AK.clearTail (b:=200000) (l:=i15.toNat) (n:=l16.length) rfl rfl rfl rfl rfl rfl (bleN hC.n rfl) rfl rfl Qf (Qo.es rfl) QwO rfl rfl rfl (Bnd.val rfl (of_decide_eq_true (Qo9 hk25)) rfl) (of_decide_eq_true (QlB hk25)) rfl ?_
   refine AK.denilA (b:=200000) [some 1] rfl (Qxi (f:=Qx) (x:=(([]:(List Int)):(List Int))) (fun _=>rfl) rfl) ?_
   obtain⟨_,hk26,h⟩:=Qb h
   replace hk26:=chkE hk26
   refine Qa hC [.say 0 (.own 200000 (l16.take i15.toNat++List.replicate (l16.length-i15.toNat) (([]:(List Int)):(List Int))).length),.say 36 (.own 200000 (l16.take i15.toNat++List.replicate (l16.length-i15.toNat) (([]:(List Int)):(List Int))).length),.n 6] rfl ⟨⟨tt_,(Qvn (of_decide_eq_true (QlB hk25)))⟩,(Qvn (of_decide_eq_true (QlB hk25)))⟩ ?_
   have hl27:i15.toNat=((l16.take i15.toNat++List.replicate (l16.length-i15.toNat) (([]:(List Int)):(List Int))).take i15.toNat).length:=by rw [List.length_take,Nat.min_eq_left (of_decide_eq_true (QlB hk26))]
   refine Qa hC [.x (fun σ=>(σ.set 200000 (.arr 1 (((l16.take i15.toNat++List.replicate (l16.length-i15.toNat) (([]:(List Int)):(List Int))).take i15.toNat).map Qx))).put 41 (.own 200000 i15.toNat)),.say 41 (.own 200000 ((l16.take i15.toNat++List.replicate (l16.length-i15.toNat) (([]:(List Int)):(List Int))).take i15.toNat).length),.n 4,.keep [4] [200000,200001]] rfl ⟨⟨tt_,(Stp.sliceO rfl rfl (bleN hC.n rfl) rfl rfl (Qo.es rfl) Bnd.no (Bnd.val rfl (of_decide_eq_true (Qo9 hk26)) rfl) (of_decide_eq_true (QlB hk26)) (by simp))⟩,(Qxe (of_decide_eq_true (QlB hk26)))⟩ ?_
   cases h
   exact AK.done (ex_ [_] (an_ (an_ rfl tt_) (gives ⟨rfl,rfl,tt_⟩)))
def QbG (m2:QBg)(k7:Int)(v8:Int):Option (Unit⊕Unit):=
 bif (decide (((mget m2 k7).getD 0)<v8))then
 some (.inr ())
 else
 some (.inl ())
def QgC : Option Bool:=
 some true
def QgD : Option Bool:=
 some false
def Qcs (m1:QBg)(m2:QBg):Option Bool:=
 (QhP (fun st p=>QbG m2 p.1 p.2) () m1).bind (Sum.elim (fun q=>QgC) (fun q=>QgD))
theorem QjK (m1:QBg)(m2:QBg){r:Bool}(h:Qcs m1 m2=some r):Qc Tryz.prog 146 [.map 200000,.map 200001] [(200000,.map (mapV (V.i .i64) (V.i .i64) m1)),(200001,.map (mapV (V.i .i64) (V.i .i64) m2))] (Gives (.b r) [(200000,.map (mapV (V.i .i64) (V.i .i64) m1)),(200001,.map (mapV (V.i .i64) (V.i .i64) m2))]):=by
 refine Qc.walk 19 Tryz.func146 rfl Tryz.ntmps146 rfl fun C hC=>?_
 unfold Qcs at h
 refine Qa hC [.n 9] rfl tt_ ?_
 refine AK.openMap (b:=200000) ky_3 rfl fun bm5 cl5 L5 hbn5 hpm5=>?_
 refine Qa hC [.x (fun σ=>(σ.set 8 (.itr bm5 cl5 #[] none)).put 8 (.loc 8 0 0)),.n 3,.keep [1,8] [8,200000,200001]] rfl ⟨tt_,(Stp.range (b:=200000) rfl rfl (bleN hC.n rfl) rfl rfl Qd3 rfl)⟩ ?_
 obtain⟨o10,hl10,h⟩:=Qb h
 refine AK.range (body:=(fun st p=>QbG m2 p.1 p.2)) (fun st seen σ=>∃cur:Option MapEntry,σ=⟨[(1,.map 200001),(8,.loc 8 0 0)],[(8,.itr bm5 cl5 seen cur),(200000,.mapX bm5 cl5 (typV (V.i .i64) (V.i .i64) L5) (mapV (V.i .i64) (V.i .i64) m1)),(200001,.map (mapV (V.i .i64) (V.i .i64) m2))]⟩) (fun q e σ=>e=.ret∧σ=⟨[(4,.b false)],[(200000,.mapX bm5 cl5 (typV (V.i .i64) (V.i .i64) L5) (mapV (V.i .i64) (V.i .i64) m1)),(200001,.map (mapV (V.i .i64) (V.i .i64) m2))]⟩) (fun st e σ=>e=.exit 0∧σ=⟨[],[(200000,.mapX bm5 cl5 (typV (V.i .i64) (V.i .i64) L5) (mapV (V.i .i64) (V.i .i64) m1)),(200001,.map (mapV (V.i .i64) (V.i .i64) m2))]⟩) hbn5 hpm5 hl10 (ex_ _ rfl) ?_ ?_
 ·rintro _ seen σ ⟨cur,rfl⟩ hex
  refine Qa hC [.n 2] rfl tt_ ?_
  refine AK.nextT (b:=8) (m:=200000) rfl rfl rfl (bleN hC.n rfl) rfl rfl rfl rfl ?_ ?_
  ·intro hleft
   refine Qa hC [.n 7,.keep [] [200000,200001]] rfl tt_ ?_
   exact AK.done (Or.inl (an_ hleft (an_ (fun h=>(by cases h)) (an_ rfl rfl))))
  ·intro xk7 k7 v8 hq6
   obtain⟨o,h⟩:=hex _ hq6
   have ho:=h
   replace h:QbG m2 k7 v8=some o:=h
   unfold QbG at h
   refine Qa hC [.n 10,.x (fun σ=>σ.put 11 (.tup [.i .i64 k7,.i .i64 v8])),.n 11,.o (.any (.i .i64 ((mget m2 k7).getD 0)) none),.n 3] rfl ⟨⟨tt_,(Stp.entryT (b:=8) (m:=200000) rfl rfl (bleN hC.n rfl) rfl hq6 rfl rfl)⟩,(fun σ h1 h2 _=>Stp.lookup (e:=(V.i .i64)) (f:=(V.i .i64)) (l:=m2) (k:=k7) (z:=0) rfl rfl (bleN hC.n rfl) (h1 _ _ rfl) (h2 _ _ rfl) (h1 _ _ rfl) Qd3 ky_3 zi_3 rfl)⟩ ?_
   rcases bifE h with⟨hc9,h⟩|⟨hc9,h⟩
   ·refine Qa hC [.br true,.n 7,.keep [4] [200000,200001]] rfl ⟨tt_,hc9⟩ ?_
    cases h
    exact AK.done (Or.inr (ex_ _ (an_ hq6 (Or.inr (ex_ _ (an_ ho (an_ (fun h=>(by cases h)) (an_ rfl rfl))))))))
   ·refine Qa hC [.br false,.n 2,.keep [1,8] [8,200000,200001]] rfl ⟨tt_,hc9⟩ ?_
    cases h
    exact AK.done (Or.inr (ex_ _ (an_ hq6 (Or.inl (ex_ _ (an_ ho (an_ rfl (ex_ _ rfl))))))))
 ·rcases o10 with(_ | _)
  ·replace h:QgC=some r:=h
   unfold QgC at h
   rintro e σ ⟨rfl,rfl⟩
   refine Qa hC [.n 8] rfl tt_ ?_
   refine AK.closeMap (b:=200000) rfl ?_
   refine Qa hC [.keep [4] [200000,200001]] rfl tt_ ?_
   cases h
   exact AK.done (ex_ [_] (an_ (an_ rfl tt_) (gives ⟨rfl,rfl,tt_⟩)))
  ·replace h:QgD=some r:=h
   unfold QgD at h
   rintro e σ ⟨rfl,rfl⟩
   refine Qa hC [.n 2] rfl tt_ ?_
   refine AK.closeMap (b:=200000) rfl ?_
   refine Qa hC [.keep [4] [200000,200001]] rfl tt_ ?_
   cases h
   exact AK.done (ex_ [_] (an_ (an_ rfl tt_) (gives ⟨rfl,rfl,tt_⟩)))
def QkN (a6:Unit):Option Bool:=
 some false
def QkO (a7:QBg):Option Bool:=
 some false
def QkP (a8:QBg):Option Bool:=
 some false
def Qis (a9:(QBg×QBg)):Option Bool:=
 (Qcs a9.1 a9.2).bind fun x10=>
 some x10
def QiN (a1:QBg)(b2:QBg):Option Bool:=
 (QhB a1 b2).bind (Sum.elim (fun q=>QkN q) (Sum.elim (fun q=>QkO q) (Sum.elim (fun q=>QkP q) (fun q=>Qis q))))
theorem Qrv (a1:QBg)(b2:QBg){r:Bool}(h:QiN a1 b2=some r):Qc Tryz.prog 143 [.sl 2 (a1.map QB),.sl 2 (b2.map QB)] [] (Gives (.b r) []):=by
 refine Qc.walk 21 Tryz.func143 rfl Tryz.ntmps143 rfl fun C hC=>?_
 unfold QiN at h
 obtain⟨x5,hx5,h⟩:=Qb h
 refine Qa hC [.n 9] rfl tt_ ?_
 rcases x5 with(a6 | (a7 | (a8 | a9)))
 ·replace h:QkN a6=some r:=h
  unfold QkN at h
  refine Qa hC [.cm (.fn) [] [] [] [.d,.d] [] (.tup [.lit (.map none),.lit (.map none),.b false]),.n 21,.keep [4] []] rfl ⟨tt_,(Qbg _ _ hx5)⟩ ?_
  cases h
  exact AK.done (ex_ [_] (an_ (an_ rfl tt_) (gives tt_)))
 ·replace h:QkO a7=some r:=h
  unfold QkO at h
  refine Qa hC [.cm (.fn) [] [(11,30005)] [] [.d,.d] [(30005,.map (mapV (V.i .i64) (V.i .i64) a7))] (.tup [.lit (.map none),.map 30005,.b false]),.n 21,.keep [4] []] rfl ⟨tt_,(Qbg _ _ hx5)⟩ ?_
  cases h
  exact AK.done (ex_ [_] (an_ (an_ rfl tt_) (gives tt_)))
 ·replace h:QkP a8=some r:=h
  unfold QkP at h
  refine Qa hC [.cm (.fn) [] [(11,30004)] [] [.d,.d] [(30004,.map (mapV (V.i .i64) (V.i .i64) a8))] (.tup [.map 30004,.lit (.map none),.b false]),.n 21,.keep [4] []] rfl ⟨tt_,(Qbg _ _ hx5)⟩ ?_
  cases h
  exact AK.done (ex_ [_] (an_ (an_ rfl tt_) (gives tt_)))
 ·replace h:Qis a9=some r:=h
  unfold Qis at h
  obtain⟨x10,hx10,h⟩:=Qb h
  refine Qa hC [.cm (.fn) [] [(11,30004),(50000,30005)] [] [.d,.d] [(30004,.map (mapV (V.i .i64) (V.i .i64) a9.1)),(30005,.map (mapV (V.i .i64) (V.i .i64) a9.2))] (.tup [.map 30004,.map 30005,.b true]),.n 15,.cm (.fn) [(200000,11),(200001,50000)] [(11,200000),(50000,200001)] [] [.d,.d] [(200000,.map (mapV (V.i .i64) (V.i .i64) a9.1)),(200001,.map (mapV (V.i .i64) (V.i .i64) a9.2))] (.b x10),.n 5,.keep [4] []] rfl ⟨⟨tt_,(Qbg _ _ hx5)⟩,(QjK _ _ hx10)⟩ ?_
  cases h
  exact AK.done (ex_ [_] (an_ (an_ rfl tt_) (gives tt_)))
def QE (s1:QMk)(s2:QMk)(x6:Int):Option (Int⊕(Unit⊕Unit)):=
 bif (decide (x6<(s1.length:Int)))then
 (idx s1 x6).bind fun e9=>
 (idx s2 x6).bind fun e10=>
 (QiN e9 e10).bind fun x11=>
 bif (!x11)then
 some (.inr (.inl ()))
 else
 some (.inl (w64 (x6+1)))
 else
 some (.inr (.inr ()))
def Q6 : Option Bool:=
 some false
def Q7 : Option Bool:=
 some true
def QQ (s1:QMk)(s2:QMk):Option Bool:=
 bif ((s1.length:Int) != (s2.length:Int))then
 some false
 else
 (QC (fun st=>QE s1 s2 st) 0).bind (Sum.elim (fun q=>Q6) (fun q=>Q7))
theorem Qc5 (s1:QMk)(s2:QMk){r:Bool}(h:QQ s1 s2=some r):Qc Tryz.prog 46 [.sl 1 (s1.map Qi),.sl 1 (s2.map Qi),.clo (.func 143) [] []] [] (Gives (.b r) []):=by
 refine Qc.walk 32 Tryz.func46 rfl Tryz.ntmps46 rfl fun C hC=>?_
 unfold QQ at h
 refine Qa hC [.n 9,.o (.ln s1.length),.n 1,.o (.ln s2.length),.n 3] rfl ⟨⟨tt_,Qf⟩,Qf⟩ ?_
 rcases bifE h with⟨hc5,h⟩|⟨hc5,h⟩
 ·refine Qa hC [.br true,.n 7,.keep [6] []] rfl ⟨tt_,hc5⟩ ?_
  cases h
  exact AK.done (ex_ [_] (an_ (an_ rfl tt_) (gives tt_)))
 ·refine Qa hC [.br false,.n 6,.o (.ln s1.length),.n 4,.keep [1,2,15,16,17] []] rfl ⟨⟨tt_,hc5⟩,Qf⟩ ?_
  obtain⟨o13,hl13,h⟩:=Qb h
  refine AK.loop (body:=(fun st=>QE s1 s2 st)) (fun st σ=>σ=⟨[(1,.sl 1 (s2.map Qi)),(2,.clo (.func 143) [] []),(15,.sl 1 (s1.map Qi)),(16,.i .i64 (s1.length:Int)),(17,.i .i64 st)],[]⟩) (Sum.elim (fun q e σ=>e=.ret∧σ=⟨[(6,.b false)],[]⟩) (fun q e σ=>e=.exit 0∧σ=⟨[],[]⟩)) hl13 rfl ?_ ?_
  ·rintro x6 o σ rfl h
   replace h:QE s1 s2 x6=some o:=h
   unfold QE at h
   refine Qa hC [.n 6] rfl tt_ ?_
   rcases bifE h with⟨hc8,h⟩|⟨hc8,h⟩
   ·obtain⟨e9,he9,h⟩:=Qb h
    obtain⟨e10,he10,h⟩:=Qb h
    obtain⟨x11,hx11,h⟩:=Qb h
    refine Qa hC [.br true,.n 7,.o (.row (Qi e9)),.n 9,.o (.row (Qi e10)),.n 9,.o (.c false [.d,.d] (.b x11)),.n 3] rfl ⟨⟨⟨⟨tt_,hc8⟩,(idxM he9)⟩,(idxM he10)⟩,(Qrv _ _ hx11)⟩ ?_
    rcases bifE h with⟨hc12,h⟩|⟨hc12,h⟩
    ·refine Qa hC [.br true,.n 8,.keep [6] []] rfl ⟨tt_,hc12⟩ ?_
     cases h
     exact rndR rfl (an_ rfl rfl)
    ·refine Qa hC [.br false,.n 7,.keep [1,2,15,16,17] []] rfl ⟨tt_,hc12⟩ ?_
     cases h
     exact rndN rfl rfl
   ·refine Qa hC [.br false,.n 2,.keep [] []] rfl ⟨tt_,hc8⟩ ?_
    cases h
    exact rndX rfl (an_ rfl rfl)
  ·rcases o13 with(_ | _)
   ·replace h:Q6=some r:=h
    unfold Q6 at h
    rintro e σ ⟨rfl,rfl⟩
    refine Qa hC [.n 2,.keep [6] []] rfl tt_ ?_
    cases h
    exact AK.done (ex_ [_] (an_ (an_ rfl tt_) (gives tt_)))
   ·replace h:Q7=some r:=h
    unfold Q7 at h
    rintro e σ ⟨rfl,rfl⟩
    refine Qa hC [.n 8,.keep [6] []] rfl tt_ ?_
    cases h
    exact AK.done (ex_ [_] (an_ (an_ rfl tt_) (gives tt_)))
def Qf6 (need1:QMk)(m2:QMk):Option Bool:=
 (QQ need1 m2).bind fun x4=>
 some x4
theorem QmE (need1:QMk)(m2:QMk){r:Bool}(h:Qf6 need1 m2=some r):Qc Tryz.prog 88 [.sl 1 (need1.map Qi),.sl 1 (m2.map Qi)] [] (Gives (.b r) []):=by
 refine Qc.walk 8 Tryz.func88 rfl Tryz.ntmps88 rfl fun C hC=>?_
 unfold Qf6 at h
 obtain⟨x4,hx4,h⟩:=Qb h
 refine Qa hC [.n 9,.cm (.fn) [] [] [] [.d,.d,.d] [] (.b x4),.n 4,.keep [4] []] rfl ⟨tt_,(Qc5 _ _ hx4)⟩ ?_
 cases h
 exact AK.done (ex_ [_] (an_ (an_ rfl tt_) (gives tt_)))
def Qa6 (s1:(List Int))(v2:Int)(x5:Int):Option (Int⊕(Int⊕Unit)):=
 bif (decide (x5<(s1.length:Int)))then
 (idx s1 x5).bind fun e9=>
 bif (v2==e9)then
 some (.inr (.inl x5))
 else
 some (.inl (w64 (x5+1)))
 else
 some (.inr (.inr ()))
def QbP (x7:Int):Option Int:=
 some x7
def QbQ : Option Int:=
 some (-1)
def Qcw (s1:(List Int))(v2:Int):Option Int:=
 (QC (fun st=>Qa6 s1 v2 st) 0).bind (Sum.elim (fun q=>QbP q) (fun q=>QbQ))
theorem Qmc (s1:(List Int))(v2:Int){r:Int}(h:Qcw s1 v2=some r):Qc Tryz.prog 144 [.sl 1 (s1.map Qe),.i .i64 v2] [] (Gives (.i .i64 r) []):=by
 refine Qc.walk 19 Tryz.func144 rfl Tryz.ntmps144 rfl fun C hC=>?_
 unfold Qcw at h
 refine Qa hC [.n 9,.o (.ln s1.length),.n 4,.keep [0,1,7,8] []] rfl ⟨tt_,Qf⟩ ?_
 obtain⟨o11,hl11,h⟩:=Qb h
 refine AK.loop (body:=(fun st=>Qa6 s1 v2 st)) (fun st σ=>σ=⟨[(0,.sl 1 (s1.map Qe)),(1,.i .i64 v2),(7,.i .i64 (s1.length:Int)),(8,.i .i64 st)],[]⟩) (Sum.elim (fun q e σ=>e=.ret∧σ=⟨[(4,.i .i64 q)],[]⟩) (fun q e σ=>e=.exit 0∧σ=⟨[],[]⟩)) hl11 rfl ?_ ?_
 ·rintro x5 o σ rfl h
  replace h:Qa6 s1 v2 x5=some o:=h
  unfold Qa6 at h
  refine Qa hC [.n 6] rfl tt_ ?_
  rcases bifE h with⟨hc8,h⟩|⟨hc8,h⟩
  ·obtain⟨e9,he9,h⟩:=Qb h
   refine Qa hC [.br true,.n 15,.o (.row (Qe e9)),.n 4] rfl ⟨⟨tt_,hc8⟩,(idxM he9)⟩ ?_
   rcases bifE h with⟨hc10,h⟩|⟨hc10,h⟩
   ·refine Qa hC [.br true,.n 9,.keep [4] []] rfl ⟨tt_,hc10⟩ ?_
    cases h
    exact rndR rfl (an_ rfl rfl)
   ·refine Qa hC [.br false,.n 7,.keep [0,1,7,8] []] rfl ⟨tt_,hc10⟩ ?_
    cases h
    exact rndN rfl rfl
  ·refine Qa hC [.br false,.n 2,.keep [] []] rfl ⟨tt_,hc8⟩ ?_
   cases h
   exact rndX rfl (an_ rfl rfl)
 ·rcases o11 with(x7 | _)
  ·replace h:QbP x7=some r:=h
   unfold QbP at h
   rintro e σ ⟨rfl,rfl⟩
   refine Qa hC [.n 2,.keep [4] []] rfl tt_ ?_
   cases h
   exact AK.done (ex_ [_] (an_ (an_ rfl tt_) (gives tt_)))
  ·replace h:QbQ=some r:=h
   unfold QbQ at h
   rintro e σ ⟨rfl,rfl⟩
   refine Qa hC [.n 8,.keep [4] []] rfl tt_ ?_
   cases h
   exact AK.done (ex_ [_] (an_ (an_ rfl tt_) (gives tt_)))
def QaG (s1:(List Int))(v2:Int):Option Bool:=
 (Qcw s1 v2).bind fun x4=>
 some (decide (0≤x4))
theorem Qg3 (s1:(List Int))(v2:Int){r:Bool}(h:QaG s1 v2=some r):Qc Tryz.prog 89 [.sl 1 (s1.map Qe),.i .i64 v2] [] (Gives (.b r) []):=by
 refine Qc.walk 9 Tryz.func89 rfl Tryz.ntmps89 rfl fun C hC=>?_
 unfold QaG at h
 obtain⟨x4,hx4,h⟩:=Qb h
 refine Qa hC [.n 9,.o (.c false [.d,.d] (.i .i64 x4)),.n 5,.keep [4] []] rfl ⟨tt_,(Qmc _ _ hx4)⟩ ?_
 cases h
 exact AK.done (ex_ [_] (an_ (an_ rfl tt_) (gives tt_)))
def Qcx (x10:Int):Option (Int⊕(Unit⊕Unit)):=
 some (.inl (w64 (x10+1)))
def QgE (x19:(QMk×Int))(b1:QA):Option Bool:=
 bif (x19.2==0)then
 (Qf6 x19.1 b1.m).bind fun x23=>
 some x23
 else
 some false
def Qcy (x10:Int)(x20:Bool):Option (Int⊕(Unit⊕Unit)):=
 bif x20 then
 some (.inr (.inl ()))
 else
 Qcx x10
def QbH (b1:QA)(ins2:(List Int))(x10:Int):Option (Int⊕(Unit⊕Unit)):=
 bif (decide (x10<(b1.task.Ins.length:Int)))then
 (QaG ins2 x10).bind fun x13=>
 bif x13 then
 Qcx x10
 else
 (Qar ins2).bind fun x15=>
 (chk (decide (x15.length+([x10]:List Int).length≤4294967296))).bind fun _=>
 (QaQ (x15++([x10]:List Int))).bind fun x17=>
 (chk (decide (x17.length=(x15++([x10]:List Int)).length))).bind fun _=>
 (QcE b1.net b1.task.Ins x17 b1.env).bind fun x19=>
 (QgE x19 b1).bind (fun x20=>Qcy x10 x20)
 else
 some (.inr (.inr ()))
def QgF : Option Int:=
 some 11
def QgG : Option Int:=
 some 0
def QO (b1:QA)(ins2:(List Int)):Option Int:=
 (QcE b1.net b1.task.Ins ins2 b1.env).bind fun x5=>
 bif (x5.2 != 0)then
 some x5.2
 else
 (Qf6 x5.1 b1.m).bind fun x7=>
 bif (!x7)then
 some 10
 else
 bif (b1.task.Join != 3)then
 some 0
 else
 (QC (fun st=>QbH b1 ins2 st) 0).bind (Sum.elim (fun q=>QgF) (fun q=>QgG))
theorem QjL (b1:QA)(ins2:(List Int)){r:Int}(h:QO b1 ins2=some r):Qc Tryz.prog 44 [.agg (Qq b1),.sl 1 (ins2.map Qe)] [] (Gives (.i .i64 r) []):=by
 refine Qc.walk 76 Tryz.func44 rfl Tryz.ntmps44 rfl fun C hC=>?_
 unfold QO at h
 obtain⟨x5,hx5,h⟩:=Qb h
 refine Qa hC [.n 9,.v .no [] (.agg (Qd b1.net)),.n 6,.o (.c false [.d,.d,.d,.d] (.tup [.sl 1 (x5.1.map Qi),.i .i64 x5.2])),.n 16] rfl ⟨⟨tt_,rfl⟩,(Qfw _ _ _ _ hx5)⟩ ?_
 rcases bifE h with⟨hc6,h⟩|⟨hc6,h⟩
 ·refine Qa hC [.br true,.n 9,.keep [4] []] rfl ⟨tt_,hc6⟩ ?_
  cases h
  exact AK.done (ex_ [_] (an_ (an_ rfl tt_) (gives tt_)))
 ·obtain⟨x7,hx7,h⟩:=Qb h
  refine Qa hC [.br false,.n 5,.o (.c false [.d,.d] (.b x7)),.n 4] rfl ⟨⟨tt_,hc6⟩,(QmE _ _ hx7)⟩ ?_
  rcases bifE h with⟨hc8,h⟩|⟨hc8,h⟩
  ·refine Qa hC [.br true,.n 8,.keep [4] []] rfl ⟨tt_,hc8⟩ ?_
   cases h
   exact AK.done (ex_ [_] (an_ (an_ rfl tt_) (gives tt_)))
  ·refine Qa hC [.br false,.n 9] rfl ⟨tt_,hc8⟩ ?_
   rcases bifE h with⟨hc9,h⟩|⟨hc9,h⟩
   ·refine Qa hC [.br true,.n 8,.keep [4] []] rfl ⟨tt_,hc9⟩ ?_
    cases h
    exact AK.done (ex_ [_] (an_ (an_ rfl tt_) (gives tt_)))
   ·refine Qa hC [.br false,.n 9,.o (.ln b1.task.Ins.length),.n 4,.keep [1,2,41,42] [2]] rfl ⟨⟨tt_,hc9⟩,Qf⟩ ?_
    obtain⟨o25,hl25,h⟩:=Qb h
    refine AK.loop (body:=(fun st=>QbH b1 ins2 st)) (fun st σ=>σ=⟨[(1,.sl 1 (ins2.map Qe)),(2,.loc 2 0 0),(41,.i .i64 (b1.task.Ins.length:Int)),(42,.i .i64 st)],[(2,.var (Qq b1))]⟩) (Sum.elim (fun q e σ=>e=.ret∧σ=⟨[(4,.i .i64 11)],[]⟩) (fun q e σ=>e=.exit 1∧σ=⟨[],[]⟩)) hl25 rfl ?_ ?_
    ·rintro x10 o σ rfl h
     replace h:QbH b1 ins2 x10=some o:=h
     unfold QbH at h
     refine Qa hC [.n 6] rfl tt_ ?_
     rcases bifE h with⟨hc12,h⟩|⟨hc12,h⟩
     ·refine Qa hC [.br true,.n 2] rfl ⟨tt_,hc12⟩ ?_
      refine AK.meet (fun σ=>σ=⟨[(1,.sl 1 (ins2.map Qe)),(2,.loc 2 0 0),(41,.i .i64 (b1.task.Ins.length:Int)),(42,.i .i64 x10)],[(2,.var (Qq b1))]⟩∧Qcx x10=some o) ?_ ?_
      ·obtain⟨x13,hx13,h⟩:=Qb h
       refine Qa hC [.n 12,.o (.c false [.d,.d] (.b x13)),.n 2] rfl ⟨tt_,(Qg3 _ _ hx13)⟩ ?_
       rcases bifE h with⟨hc14,h⟩|⟨hc14,h⟩
       ·refine Qa hC [.br true,.n 3,.keep [1,2,41,42] [2]] rfl ⟨tt_,hc14⟩ ?_
        exact AK.met (an_ rfl h)
       ·obtain⟨x15,hx15,h⟩:=Qb h
        obtain⟨_,hk16,h⟩:=Qb h
        replace hk16:=chkE hk16
        obtain⟨x17,hx17,h⟩:=Qb h
        obtain⟨_,hk18,h⟩:=Qb h
        replace hk18:=chkE hk18
        obtain⟨x19,hx19,h⟩:=Qb h
        refine Qa hC [.br false,.n 5,.o (.co false [.d] 1 (x15.map Qe) x15.length),.n 1,.v (.bd []) [] (.sl 1 (([x10]:List Int).map Qe)),.app ((x15++([x10]:List Int)).map Qe) (x15++([x10]:List Int)).length,.n 6,.cm (.fn) [(200000,49)] [(49,200000)] [] [.d] [(200000,.arr 1 (x17.map Qe))] (.tup []),.say 8 (.own 49 x17.length),.say 52 (.own 49 x17.length),.say 53 (.own 49 x17.length),.n 5,.v .no [] (.agg (Qd b1.net)),.n 6,.frz 49 (x17.map Qe) [8,52,53,61] [],.o (.c false [.d,.d,.d,.d] (.tup [.sl 1 (x19.1.map Qi),.i .i64 x19.2])),.n 8] rfl ⟨⟨⟨⟨⟨⟨⟨⟨⟨⟨⟨tt_,hc14⟩,⟨(QbM _ hx15),Qf,.inl rfl⟩⟩,rfl⟩,⟨Qf,Qc9 hk16 Qf,Qb9,QeX Qf⟩⟩,(Qfu _ hx17)⟩,(by simp [of_decide_eq_true hk18])⟩,(by simp [of_decide_eq_true hk18])⟩,(by simp [of_decide_eq_true hk18])⟩,rfl⟩,⟨⟨⟨⟨tt_,(frzL Qf)⟩,(frzL Qf)⟩,(frzL Qf)⟩,(frzL Qf)⟩⟩,(Qfw _ _ _ _ hx19)⟩ ?_
        obtain⟨x20,hv21,h⟩:=Qb h
        replace h:Qcy x10 x20=some o:=h
        refine AK.meetX (fun σ=>σ=⟨[(1,.sl 1 (ins2.map Qe)),(2,.loc 2 0 0),(41,.i .i64 (b1.task.Ins.length:Int)),(42,.i .i64 x10),(74,.b x20)],[(2,.var (Qq b1))]⟩) ?_ ?_
        ·replace h:=hv21
         unfold QgE at h
         refine Qa hC [.n 4] rfl tt_ ?_
         rcases bifE h with⟨hc22,h⟩|⟨hc22,h⟩
         ·obtain⟨x23,hx23,h⟩:=Qb h
          refine Qa hC [.say 69 (.b true),.n 3,.o (.c false [.d,.d] (.b x23)),.n 2,.keep [1,2,41,42,74] [2]] rfl ⟨⟨tt_,(congrArg V.b hc22)⟩,(QmE _ _ hx23)⟩ ?_
          cases h
          exact AK.met rfl
         ·refine Qa hC [.say 69 (.b false),.n 6,.keep [1,2,41,42,74] [2]] rfl ⟨tt_,(congrArg V.b hc22)⟩ ?_
          cases h
          exact AK.met rfl
        ·rintro σ rfl
         replace h:Qcy x10 x20=some o:=h
         unfold Qcy at h
         refine Qa hC [.n 1] rfl tt_ ?_
         rcases bifE h with⟨hc24,h⟩|⟨hc24,h⟩
         ·refine Qa hC [.br true,.n 8,.keep [4] []] rfl ⟨tt_,hc24⟩ ?_
          cases h
          exact rndR rfl (an_ rfl rfl)
         ·refine Qa hC [.br false,.n 2,.keep [1,2,41,42] [2]] rfl ⟨tt_,hc24⟩ ?_
          exact AK.met (an_ rfl h)
      ·rintro σ ⟨rfl,h⟩
       unfold Qcx at h
       refine Qa hC [.n 4,.keep [1,2,41,42] [2]] rfl tt_ ?_
       cases h
       exact rndN rfl rfl
     ·refine Qa hC [.br false,.n 2,.keep [] []] rfl ⟨tt_,hc12⟩ ?_
      cases h
      exact rndX rfl (an_ rfl rfl)
    ·rcases o25 with(_ | _)
     ·replace h:QgF=some r:=h
      unfold QgF at h
      rintro e σ ⟨rfl,rfl⟩
      refine Qa hC [.n 2,.keep [4] []] rfl tt_ ?_
      cases h
      exact AK.done (ex_ [_] (an_ (an_ rfl tt_) (gives tt_)))
     ·replace h:QgG=some r:=h
      unfold QgG at h
      rintro e σ ⟨rfl,rfl⟩
      refine Qa hC [.n 8,.keep [4] []] rfl tt_ ?_
      cases h
      exact AK.done (ex_ [_] (an_ (an_ rfl tt_) (gives tt_)))

end Go.Proofs
