/- What functions of the program do, as functions over plain data, and the walks that show it: printed by a program. -/
import Derived.Test.YtbfgchciebcbpaaGreatDoorI1V3
import Derived.Test.YtbfgchciebcbpaaGreatDoorProg
set_option linter.unusedVariables false
set_option linter.unusedSimpArgs false
set_option linter.unusedSectionVars false
set_option linter.deprecated false
set_option maxRecDepth 100000
set_option maxHeartbeats 4000000
noncomputable section
namespace Go.Proofs
open Go Go.RowKit Go.Vm Go.Proofs.Tryz
structure QI where
 Name:ByteArray
 Kind:Int
 Lo:Int
 Hi:Int
 Names:(List ByteArray)
 First:Int
 Then:Int
structure QG where
 Name:ByteArray
 Colour:Int
 First:(List (Int×Int))
structure Qae where
 Name:ByteArray
 Colour:Int
structure Qk where
 Kind:Int
 Num:Int
 Kids:(List Qk)
structure QP where
 Place:Int
 Expr:Qk
structure Qw where
 Name:ByteArray
 Vars:(List Qae)
 Guard:Qk
 Join:Int
 Split:Int
 Ins:(List QP)
 Outs:(List QP)
 Cancel:(List Int)
 After:Int
 Many:(Int×Int×Int)
structure Qm where
 Colours:(List QI)
 Places:(List QG)
 Tasks:(List Qw)
 From:Int
 To:Int
structure QgB where
 a:Int
 b:Int
structure Qek where
 Kind:Int
 At:Int
structure QcU where
 all:(List QI)
 sizes:(List Int)
 k:Int
def QcB (x:ByteArray):List V:=[.s x]
def Qb (x:Int):List V:=[.i .i64 x]
theorem Qvr (l:List Int):∀r∈l.map Qb,∀v∈r,v.sca=true:=Qwx (fun _=>rfl) l
def QwX (x:(List ByteArray)):List V:=[.sl 1 (x.map QcB)]
def Qx (x:QI):List V:=[.s x.Name,.i .i64 x.Kind,.i .i64 x.Lo,.i .i64 x.Hi,.sl 1 (x.Names.map QcB),.i .i64 x.First,.i .i64 x.Then]
def QtL (x:(List QI)):List V:=[.sl 7 (x.map Qx)]
def QaF (x:(Int×Int)):List V:=[.i .i64 x.1,.i .i64 x.2]
def QjW (x:(List (Int×Int))):List V:=[.sl 2 (x.map QaF)]
def Qq (x:QG):List V:=[.s x.Name,.i .i64 x.Colour,.sl 2 (x.First.map QaF)]
def Qui (x:(List QG)):List V:=[.sl 3 (x.map Qq)]
def QA (x:Qae):List V:=[.s x.Name,.i .i64 x.Colour]
def Qbr (x:(List Qae)):List V:=[.sl 2 (x.map QA)]
mutual
def Qoc : Qk→List V
 | ⟨x0,x1,x2⟩=>[.i .i64 x0,.i .i64 x1,.sl 3 (Qa0 x2)]
def Qa0 : List Qk→List (List V)
 | []=>[]
 | e::es=>Qoc e::Qa0 es
end
def Qp (x:Qk):List V:=[.i .i64 x.Kind,.i .i64 x.Num,.sl 3 (Qa0 x.Kids)]
theorem QsZ : ∀x:Qk,Qoc x=Qp x
 | ⟨x0,x1,x2⟩=>by rw [Qoc];rfl
theorem QhM : ∀l:List Qk,Qa0 l=l.map Qp
 | []=>by rw [Qa0];rfl
 | e::es=>by rw [Qa0,QhM es,QsZ];rfl
theorem QhN (l:List Qk):(Qa0 l).length=l.length:=by rw [QhM,Qjp]
theorem Qlb {l:List Qk}{j:Int}{x:Qk}(h:idx l j=some x):0≤j∧(Qa0 l)[j.toNat]? = some (Qp x):=by rw [QhM];exact QF h
def QR (x:QP):List V:=[.i .i64 x.Place,.i .i64 x.Expr.Kind,.i .i64 x.Expr.Num,.sl 3 (Qa0 x.Expr.Kids)]
def Qvs (x:(List QP)):List V:=[.sl 4 (x.map QR)]
def Qi (x:(List Int)):List V:=[.sl 1 (x.map Qb)]
def Qsm (x:(Int×Int×Int)):List V:=[.i .i64 x.1,.i .i64 x.2.1,.i .i64 x.2.2]
def Qf (x:Qw):List V:=[.s x.Name,.sl 2 (x.Vars.map QA),.i .i64 x.Guard.Kind,.i .i64 x.Guard.Num,.sl 3 (Qa0 x.Guard.Kids),.i .i64 x.Join,.i .i64 x.Split,.sl 4 (x.Ins.map QR),.sl 4 (x.Outs.map QR),.sl 1 (x.Cancel.map Qb),.i .i64 x.After,.i .i64 x.Many.1,.i .i64 x.Many.2.1,.i .i64 x.Many.2.2]
def QuX (x:(List Qw)):List V:=[.sl 14 (x.map Qf)]
def Qe (x:Qm):List V:=[.sl 7 (x.Colours.map Qx),.sl 3 (x.Places.map Qq),.sl 14 (x.Tasks.map Qf),.i .i64 x.From,.i .i64 x.To]
def QgQ (x:QgB):List V:=[.i .i64 x.a,.i .i64 x.b]
def Qb9 (x:Qek):List V:=[.i .i64 x.Kind,.i .i64 x.At]
def Qcp (x:QcU):List V:=[.sl 7 (x.all.map Qx),.sl 1 (x.sizes.map Qb),.i .i64 x.k]
def Qbp (fn:Nat):QhH:=QxX Tryz.f34 0 fn
def Qwb : Go.Shelf.Ren:=⟨fun | 20=>44 | n=>n,fun | 0=>0 | 3=>3 | 4=>4 | 22=>27 | n=>n,fun n=>n⟩
theorem Qvt : Lays2.n20 Tryz.prog Qwb where
 mixed:=by kernel_rfl
 f20:=Tryz.func44.trans (congrArg some (by kernel_rfl))
 t0:=Tryz.underlying0
 a0:=Tryz.isAgg0
 z0:=Tryz.sizeOf0
 v0:=Tryz.zeroValue0
 t3:=Tryz.underlying3
 a3:=Tryz.isAgg3
 z3:=Tryz.sizeOf3
 v3:=Tryz.zeroValue3
 t4:=Tryz.underlying4
 a4:=Tryz.isAgg4
 z4:=Tryz.sizeOf4
 v4:=Tryz.zeroValue4
 t22:=Tryz.underlying27
 a22:=Tryz.isAgg27
 z22:=Tryz.sizeOf27
 v22:=Tryz.zeroValue27
 i3:=by kernel_rfl
theorem Qxr (a0 a1 a2 b0 b1 b2:Int):EqT Tryz.prog 73 [.int .i64 a0,.int .i64 a1,.int .i64 a2] [.int .i64 b0,.int .i64 b1,.int .i64 b2] ((a0==b0)&&((a1==b1)&&(a2==b2))):=by
 refine⟨by kernel_rfl,fun w=>?_⟩
 have u3:=Tryz.underlying3
 have g3:=Tryz.isAgg3
 have z3:=Tryz.sizeOf3
 show(Op.equalIn (9999+1) 73 (.agg #[.int .i64 a0,.int .i64 a1,.int .i64 a2]) (.agg #[.int .i64 b0,.int .i64 b1,.int .i64 b2])).run Tryz.prog w=_
 rw [Op.equalIn]
 simp only [Sem.run_bind,run_underlying Tryz.underlying73,Result.andThen_ok]
 simp only [Std.Legacy.Range.forIn_eq_forIn_range',Std.Legacy.Range.size,Nat.sub_zero,Nat.add_sub_cancel,Nat.div_one,List.range'_succ,List.range'_zero,List.forIn_cons,List.forIn_nil]
 go_simp
 by_cases h0:a0=b0<;>by_cases h1:a1=b1<;>by_cases h2:a2=b2<;>simp [h0,h1,h2]
def Qwc : Go.Shelf.Ren:=⟨fun | 157=>242 | 199=>249 | 229=>248 | 261=>255 | 311=>257 | 312=>258 | n=>n,fun | 0=>0 | 3=>3 | 4=>4 | 5=>5 | 9=>9 | 21=>21 | 31=>100 | 40=>263 | 46=>128 | 49=>274 | 51=>176 | 119=>261 | 141=>268 | 152=>264 | 154=>266 | 193=>270 | 194=>271 | 196=>273 | 198=>276 | 201=>279 | 226=>281 | 227=>282 | n=>n,fun | 0=>0 | 6=>1 | n=>n⟩
theorem Qvu : Lays.n157 Tryz.prog Qwc where
 mixed:=by kernel_rfl
 f157:=Tryz.func242.trans (congrArg some (by kernel_rfl))
 f199:=Tryz.func249.trans (congrArg some (by kernel_rfl))
 f229:=Tryz.func248.trans (congrArg some (by kernel_rfl))
 f261:=Tryz.func255.trans (congrArg some (by kernel_rfl))
 f311:=Tryz.func257.trans (congrArg some (by kernel_rfl))
 f312:=Tryz.func258.trans (congrArg some (by kernel_rfl))
 t0:=Tryz.underlying0
 a0:=Tryz.isAgg0
 z0:=Tryz.sizeOf0
 v0:=Tryz.zeroValue0
 t3:=Tryz.underlying3
 a3:=Tryz.isAgg3
 z3:=Tryz.sizeOf3
 v3:=Tryz.zeroValue3
 t4:=Tryz.underlying4
 a4:=Tryz.isAgg4
 z4:=Tryz.sizeOf4
 v4:=Tryz.zeroValue4
 t5:=Tryz.underlying5
 a5:=Tryz.isAgg5
 z5:=Tryz.sizeOf5
 v5:=Tryz.zeroValue5
 t9:=Tryz.underlying9
 a9:=Tryz.isAgg9
 z9:=Tryz.sizeOf9
 v9:=Tryz.zeroValue9
 t21:=Tryz.underlying21
 a21:=Tryz.isAgg21
 z21:=Tryz.sizeOf21
 v21:=Tryz.zeroValue21
 t31:=Tryz.underlying100
 a31:=Tryz.isAgg100
 z31:=Tryz.sizeOf100
 v31:=Tryz.zeroValue100
 t40:=Tryz.underlying263
 a40:=Tryz.isAgg263
 z40:=Tryz.sizeOf263
 v40:=Tryz.zeroValue263
 t46:=Tryz.underlying128
 a46:=Tryz.isAgg128
 z46:=Tryz.sizeOf128
 v46:=Tryz.zeroValue128
 t49:=Tryz.underlying274
 a49:=Tryz.isAgg274
 z49:=Tryz.sizeOf274
 v49:=Tryz.zeroValue274
 t51:=Tryz.underlying176
 a51:=Tryz.isAgg176
 z51:=Tryz.sizeOf176
 v51:=Tryz.zeroValue176
 t119:=Tryz.underlying261
 a119:=Tryz.isAgg261
 z119:=Tryz.sizeOf261
 t141:=Tryz.underlying268
 a141:=Tryz.isAgg268
 z141:=Tryz.sizeOf268
 v141:=Tryz.zeroValue268
 t152:=Tryz.underlying264
 a152:=Tryz.isAgg264
 z152:=Tryz.sizeOf264
 v152:=Tryz.zeroValue264
 t154:=Tryz.underlying266
 a154:=Tryz.isAgg266
 z154:=Tryz.sizeOf266
 v154:=Tryz.zeroValue266
 t193:=Tryz.underlying270
 a193:=Tryz.isAgg270
 z193:=Tryz.sizeOf270
 v193:=Tryz.zeroValue270
 t194:=Tryz.underlying271
 a194:=Tryz.isAgg271
 z194:=Tryz.sizeOf271
 v194:=Tryz.zeroValue271
 t196:=Tryz.underlying273
 a196:=Tryz.isAgg273
 z196:=Tryz.sizeOf273
 v196:=Tryz.zeroValue273
 t198:=Tryz.underlying276
 a198:=Tryz.isAgg276
 z198:=Tryz.sizeOf276
 v198:=Tryz.zeroValue276
 t201:=Tryz.underlying279
 a201:=Tryz.isAgg279
 z201:=Tryz.sizeOf279
 v201:=Tryz.zeroValue279
 t226:=Tryz.underlying281
 a226:=Tryz.isAgg281
 z226:=Tryz.sizeOf281
 v226:=Tryz.zeroValue281
 t227:=Tryz.underlying282
 a227:=Tryz.isAgg282
 z227:=Tryz.sizeOf282
 v227:=Tryz.zeroValue282
 g0:=by kernel_rfl
 g6:=by kernel_rfl
theorem Qpg : Qsk Tryz.prog 178 .u64=true:=by kernel_rfl
theorem QtM : Qsk Tryz.prog 3 .i64=true:=by kernel_rfl
theorem Qjz : QdC Tryz.prog 3 (V.i .i64) (Value.int .i64):=QdC.int (by kernel_rfl)
theorem QuY : QdC Tryz.prog 9 V.s Value.string:=QdC.str (by kernel_rfl)
theorem mixed : Tryz.prog.follows .mixedOrders=true:=by kernel_rfl
theorem QrH : QjS Tryz.prog 241=some (9,4):=by kernel_rfl
theorem QiM : QjS Tryz.prog 88=some (3,27):=by kernel_rfl
theorem QuZ : QjS Tryz.prog 97=some (3,3):=by kernel_rfl
def Qwd : Go.Shelf.Ren:=⟨fun | 125=>82 | 128=>158 | 129=>159 | 189=>43 | 215=>212 | 216=>155 | 257=>81 | 294=>149 | 295=>150 | 296=>151 | 297=>152 | 298=>153 | 299=>154 | 300=>156 | 301=>157 | 328=>207 | 329=>208 | 330=>209 | 331=>210 | 332=>211 | 343=>233 | n=>n,fun | 0=>0 | 3=>3 | 4=>4 | 5=>5 | 9=>9 | 28=>27 | 46=>128 | 51=>176 | 53=>178 | 131=>165 | 182=>168 | 183=>169 | 218=>224 | 222=>228 | 228=>246 | 229=>247 | n=>n,fun n=>n⟩
theorem Qvv : Lays.n189 Tryz.prog Qwd where
 mixed:=by kernel_rfl
 f125:=Tryz.func82.trans (congrArg some (by kernel_rfl))
 f128:=Tryz.func158.trans (congrArg some (by kernel_rfl))
 f129:=Tryz.func159.trans (congrArg some (by kernel_rfl))
 f189:=Tryz.func43.trans (congrArg some (by kernel_rfl))
 f215:=Tryz.func212.trans (congrArg some (by kernel_rfl))
 f216:=Tryz.func155.trans (congrArg some (by kernel_rfl))
 f257:=Tryz.func81.trans (congrArg some (by kernel_rfl))
 f294:=Tryz.func149.trans (congrArg some (by kernel_rfl))
 f295:=Tryz.func150.trans (congrArg some (by kernel_rfl))
 f296:=Tryz.func151.trans (congrArg some (by kernel_rfl))
 f297:=Tryz.func152.trans (congrArg some (by kernel_rfl))
 f298:=Tryz.func153.trans (congrArg some (by kernel_rfl))
 f299:=Tryz.func154.trans (congrArg some (by kernel_rfl))
 f300:=Tryz.func156.trans (congrArg some (by kernel_rfl))
 f301:=Tryz.func157.trans (congrArg some (by kernel_rfl))
 f328:=Tryz.func207.trans (congrArg some (by kernel_rfl))
 f329:=Tryz.func208.trans (congrArg some (by kernel_rfl))
 f330:=Tryz.func209.trans (congrArg some (by kernel_rfl))
 f331:=Tryz.func210.trans (congrArg some (by kernel_rfl))
 f332:=Tryz.func211.trans (congrArg some (by kernel_rfl))
 f343:=Tryz.func233.trans (congrArg some (by kernel_rfl))
 t0:=Tryz.underlying0
 a0:=Tryz.isAgg0
 z0:=Tryz.sizeOf0
 v0:=Tryz.zeroValue0
 t3:=Tryz.underlying3
 a3:=Tryz.isAgg3
 z3:=Tryz.sizeOf3
 v3:=Tryz.zeroValue3
 t4:=Tryz.underlying4
 a4:=Tryz.isAgg4
 z4:=Tryz.sizeOf4
 v4:=Tryz.zeroValue4
 t5:=Tryz.underlying5
 a5:=Tryz.isAgg5
 z5:=Tryz.sizeOf5
 v5:=Tryz.zeroValue5
 t9:=Tryz.underlying9
 a9:=Tryz.isAgg9
 z9:=Tryz.sizeOf9
 v9:=Tryz.zeroValue9
 t28:=Tryz.underlying27
 a28:=Tryz.isAgg27
 z28:=Tryz.sizeOf27
 v28:=Tryz.zeroValue27
 t46:=Tryz.underlying128
 a46:=Tryz.isAgg128
 z46:=Tryz.sizeOf128
 v46:=Tryz.zeroValue128
 t51:=Tryz.underlying176
 a51:=Tryz.isAgg176
 z51:=Tryz.sizeOf176
 v51:=Tryz.zeroValue176
 t53:=Tryz.underlying178
 a53:=Tryz.isAgg178
 z53:=Tryz.sizeOf178
 v53:=Tryz.zeroValue178
 t131:=Tryz.underlying165
 a131:=Tryz.isAgg165
 z131:=Tryz.sizeOf165
 v131:=Tryz.zeroValue165
 t182:=Tryz.underlying168
 a182:=Tryz.isAgg168
 z182:=Tryz.sizeOf168
 v182:=Tryz.zeroValue168
 t183:=Tryz.underlying169
 a183:=Tryz.isAgg169
 z183:=Tryz.sizeOf169
 v183:=Tryz.zeroValue169
 t218:=Tryz.underlying224
 a218:=Tryz.isAgg224
 z218:=Tryz.sizeOf224
 v218:=Tryz.zeroValue224
 t222:=Tryz.underlying228
 a222:=Tryz.isAgg228
 z222:=Tryz.sizeOf228
 v222:=Tryz.zeroValue228
 t228:=Tryz.underlying246
 a228:=Tryz.isAgg246
 z228:=Tryz.sizeOf246
 v228:=Tryz.zeroValue246
 t229:=Tryz.underlying247
 a229:=Tryz.isAgg247
 z229:=Tryz.sizeOf247
 v229:=Tryz.zeroValue247
theorem Qu0 : Tryz.prog.underlying 27=some (.slice 3):=by kernel_rfl
theorem Qxs : Qju Tryz.prog 27 ((fun x=>V.sl 1 (x.map Qb)) ([]:(List Int))):=Qju.sl (by kernel_rfl)
theorem QwY : Qju Tryz.prog 4 (V.b false):=Qju.one (v:=.bool false) (by kernel_rfl)
theorem QwZ : Qaa Tryz.prog 3=some [.i .i64 0]:=by kernel_rfl
theorem QxZ : Qaa Tryz.prog 9=some [.s (⟨#[]⟩:ByteArray)]:=by kernel_rfl
theorem Qxt : Qaa Tryz.prog 26=some [.lit (.slice none 0 0),.lit (.slice none 0 0),.lit (.slice none 0 0),.i .i64 0,.i .i64 0]:=by kernel_rfl
theorem Qxu : Qaa Tryz.prog 27=some [.lit (.slice none 0 0)]:=by kernel_rfl
theorem Qxv : Qaa Tryz.prog 33=some [.i .i64 0]:=by kernel_rfl
theorem Qxw : Qaa Tryz.prog 59=some [.lit (.slice none 0 0)]:=by kernel_rfl
theorem Qxx : Qaa Tryz.prog 61=some [.i .i64 0,.i .i64 0]:=by kernel_rfl
theorem Qxy : Qaa Tryz.prog 63=some [.i .i64 0,.i .i64 0]:=by kernel_rfl
theorem Qxz : Qaa Tryz.prog 71=some [.i .i64 0,.i .i64 0,.lit (.slice none 0 0)]:=by kernel_rfl
theorem QxA : Qaa Tryz.prog 73=some [.i .i64 0,.i .i64 0,.i .i64 0]:=by kernel_rfl
theorem QxB : Qaa Tryz.prog 75=some [.s (⟨#[]⟩:ByteArray),.lit (.slice none 0 0),.i .i64 0,.i .i64 0,.lit (.slice none 0 0),.i .i64 0,.i .i64 0,.lit (.slice none 0 0),.lit (.slice none 0 0),.lit (.slice none 0 0),.i .i64 0,.i .i64 0,.i .i64 0,.i .i64 0]:=by kernel_rfl
theorem QxC : Qaa Tryz.prog 79=some [.i .i64 0,.i .i64 0,.i .i64 0,.lit (.slice none 0 0)]:=by kernel_rfl
theorem QxD : Qaa Tryz.prog 90=some [.i .i64 0,.lit (.map none)]:=by kernel_rfl
theorem Qw0 : Qaa Tryz.prog 102=some [.s (⟨#[]⟩:ByteArray),.i .i64 0,.i .i64 0,.i .i64 0,.lit (.slice none 0 0),.i .i64 0,.i .i64 0]:=by kernel_rfl
theorem Qw1 : Qaa Tryz.prog 104=some [.s (⟨#[]⟩:ByteArray),.i .i64 0,.lit (.slice none 0 0)]:=by kernel_rfl
theorem Qw2 : Qaa Tryz.prog 106=some [.s (⟨#[]⟩:ByteArray),.i .i64 0]:=by kernel_rfl
theorem Qkp : Qaa Tryz.prog 110=some [.lit (.nilFunc),.i .i64 0]:=by kernel_rfl
theorem Qw3 : Qaa Tryz.prog 122=some [.i .i64 0,.i .i64 0]:=by kernel_rfl
theorem Qw4 : Qaa Tryz.prog 146=some [.lit (.nilFunc)]:=by kernel_rfl
theorem Qw5 : Qaa Tryz.prog 151=some [.lit (.nilFunc)]:=by kernel_rfl
theorem Qw6 : Qaa Tryz.prog 182=some [.lit (.slice none 0 0),.lit (.slice none 0 0),.i .i64 0]:=by kernel_rfl
theorem Qw7 : Qaa Tryz.prog 211=some [.lit (.nilFunc)]:=by kernel_rfl
def tab : Tab:={ ag:=[(3,false),(9,false),(22,false),(23,false),(24,false),(26,true),(27,false),(30,false),(33,false),(59,false),(61,true),(63,true),(68,false),(69,false),(71,true),(72,false),(73,true),(75,true),(79,true),(88,false),(90,true),(100,false),(102,true),(104,true),(106,true),(110,true),(146,false),(151,false),(154,false),(156,false),(182,true),(211,false)],sz:=[(3,1),(26,5),(33,1),(61,2),(63,2),(71,3),(73,3),(75,14),(79,4),(90,2),(102,7),(104,3),(106,2),(110,2),(122,2),(146,1),(151,1),(182,3),(211,1)],fo:=[(26,[0,1,2,3,4]),(71,[0,1,2]),(75,[0,1,2,5,6,7,8,9,10,11]),(79,[0,1]),(90,[0,1]),(102,[0,1,2,3,4,5,6]),(104,[0,1,2]),(106,[0,1]),(110,[0,1]),(122,[0,1]),(182,[0,1,2])],sp:=[(26,[(0,1),(1,1),(2,1),(3,1),(4,1)]),(63,[(0,1),(1,1)]),(71,[(0,1),(1,1),(2,1)]),(75,[(0,1),(1,1),(2,3),(5,1),(6,1),(7,1),(8,1),(9,1),(10,1),(11,3)]),(79,[(0,1),(1,3)]),(90,[(0,1),(1,1)]),(102,[(0,1),(1,1),(2,1),(3,1),(4,1),(5,1),(6,1)]),(104,[(0,1),(1,1),(2,1)]),(110,[(0,1),(1,1)]),(122,[(0,1),(1,1)]),(182,[(0,1),(1,1),(2,1)])],es:=[(22,(102,7,80)),(23,(104,3,48)),(24,(75,14,200)),(27,(3,1,8)),(28,(59,1,24)),(29,(59,1,24)),(36,(27,1,24)),(59,(61,2,16)),(68,(106,2,24)),(69,(71,3,40)),(72,(79,4,48)),(100,(9,1,16)),(140,(110,2,16))],ar:=[(61,(2,1)),(73,(3,1))],zv:=[(3,[.i .i64 0]),(9,[.s (⟨#[]⟩:ByteArray)]),(26,[.lit (.slice none 0 0),.lit (.slice none 0 0),.lit (.slice none 0 0),.i .i64 0,.i .i64 0]),(27,[.lit (.slice none 0 0)]),(33,[.i .i64 0]),(59,[.lit (.slice none 0 0)]),(61,[.i .i64 0,.i .i64 0]),(63,[.i .i64 0,.i .i64 0]),(71,[.i .i64 0,.i .i64 0,.lit (.slice none 0 0)]),(73,[.i .i64 0,.i .i64 0,.i .i64 0]),(75,[.s (⟨#[]⟩:ByteArray),.lit (.slice none 0 0),.i .i64 0,.i .i64 0,.lit (.slice none 0 0),.i .i64 0,.i .i64 0,.lit (.slice none 0 0),.lit (.slice none 0 0),.lit (.slice none 0 0),.i .i64 0,.i .i64 0,.i .i64 0,.i .i64 0]),(79,[.i .i64 0,.i .i64 0,.i .i64 0,.lit (.slice none 0 0)]),(90,[.i .i64 0,.lit (.map none)]),(102,[.s (⟨#[]⟩:ByteArray),.i .i64 0,.i .i64 0,.i .i64 0,.lit (.slice none 0 0),.i .i64 0,.i .i64 0]),(104,[.s (⟨#[]⟩:ByteArray),.i .i64 0,.lit (.slice none 0 0)]),(106,[.s (⟨#[]⟩:ByteArray),.i .i64 0]),(110,[.lit (.nilFunc),.i .i64 0]),(122,[.i .i64 0,.i .i64 0]),(146,[.lit (.nilFunc)]),(151,[.lit (.nilFunc)]),(182,[.lit (.slice none 0 0),.lit (.slice none 0 0),.i .i64 0]),(211,[.lit (.nilFunc)])],sb:=[9],bo:=[4],cc:=[9],en:=[9,10,12,14,15,17,18,20,22,24,30,31,32,33,34,35,38,39,41,42,43,44,45,46,47,48,49,50,51,52,53,57,62,63,64,65,66,67,68,69,70,71,72,73,74,75,76,77,80,83,84,85,86,87,88,89,90,91,92,102,103,104,105,106,107,108,109,110,111,112,113,114,115,116,117,118,119,120,121,122,123,124,125,126,127,128,129,130,131,132,133,134,135,136,137,138,139,140,141,142,143,144,160,161,162,177,178,179,180,181,182,183,184,185,186,187,188,189,190,191,192,193,194,195,196,197,198,199,200,201,202,203,204,205,206,223,224,225,226,227,228,229,230,231,232,241,242,243,244,245] }
theorem Qo : Qcb Tryz.prog tab:=Tab.ok (by kernel_rfl) (QcA.2 ⟨QwZ,QcA.2 ⟨QxZ,QcA.2 ⟨Qxt,QcA.2 ⟨Qxu,QcA.2 ⟨Qxv,QcA.2 ⟨Qxw,QcA.2 ⟨Qxx,QcA.2 ⟨Qxy,QcA.2 ⟨Qxz,QcA.2 ⟨QxA,QcA.2 ⟨QxB,QcA.2 ⟨QxC,QcA.2 ⟨QxD,QcA.2 ⟨Qw0,QcA.2 ⟨Qw1,QcA.2 ⟨Qw2,QcA.2 ⟨Qkp,QcA.2 ⟨Qw3,QcA.2 ⟨Qw4,QcA.2 ⟨Qw5,QcA.2 ⟨Qw6,QcA.2 ⟨Qw7,fun _ h=>(by cases h)⟩⟩⟩⟩⟩⟩⟩⟩⟩⟩⟩⟩⟩⟩⟩⟩⟩⟩⟩⟩⟩⟩)
theorem Qa {C:Ctx}{Q:Exit→St→Prop}{n:Nat}{pt pt1:Pt}{ks ks1:List Fr}{σ σ1:St}{φ:Prop}(hC:QdB Tryz.prog C n)(ds:List Dir)(e:Vm.go Tryz.prog C tab n ds pt ks σ True=some ⟨pt1,ks1,σ1,φ⟩)(hφ:φ)(h:AK Tryz.prog C Q pt1 ks1 σ1):AK Tryz.prog C Q pt ks σ:=AK.go Qo hC ds e hφ h
abbrev QBg := List (Int×Int)
abbrev QMk := List QBg
abbrev QLL := List (List Int)
abbrev QSB := List (ByteArray×Bool)
theorem tt_ : True:=trivial
theorem an_ {a b:Prop}(x:a)(y:b):a∧b:=⟨x,y⟩
theorem ex_ {α:Sort _}{p:α→Prop}(w:α)(h:p w):∃x,p x:=⟨w,h⟩
end Go.Proofs
namespace Go.Vm
open Go Go.RowKit
noncomputable abbrev Dir.K (a b:List Nat):Dir:=.keep a b
noncomputable abbrev Dir.S (a:Nat)(b:V):Dir:=.say a b
noncomputable abbrev Dir.O (a:Nat)(b:Ob):Dir:=.sayO a b
noncomputable abbrev Dir.T:Dir:=.br true
noncomputable abbrev Dir.F:Dir:=.br false
noncomputable abbrev Dw.N:Dw:=.a .no none false
noncomputable abbrev V.I (n:Int):V:=.i .i64 n
end Go.Vm
namespace Go.Proofs
open Go Go.RowKit Go.Vm Go.Proofs.Tryz
theorem bg_ {α:Type}{c:Bool}{x y:Option α}{r:α}{G:Prop}(h:(bif c then x else y)=some r)(f:c=true→x=some r→G)(g:c=false→y=some r→G):G:=by
 cases c
 ·exact g rfl h
 exact f rfl h
theorem cb_ {a b:Bool}(h:a=b):V.b a=V.b b:=congrArg V.b h
theorem tc_ {a b:Bool}(h:a=b):True∧V.b a=V.b b:=⟨trivial,congrArg V.b h⟩
def Qw8 : Exit→Bool
 | .normal=>true
 | .ret=>true
 | _=>false
theorem d1_ {C:Ctx}{t:Nat}{r:V}{outs:List (Nat×Ob)}{σ:St}{e:Exit}(he:Qw8 e=true)(h:Go.Vm.look σ.fr t=some r)(hs:Qfc σ.hp outs):AK Tryz.prog C (Qtk Tryz.prog [.tmp t] (Qh r outs)) (.x e) [] σ:=by
 cases e<;>first | exact AK.done ⟨[r],⟨h,trivial⟩,QbM hs⟩|cases he
theorem d2_ {C:Ctx}{t u:Nat}{r s:V}{outs:List (Nat×Ob)}{σ:St}{e:Exit}(he:Qw8 e=true)(h:Go.Vm.look σ.fr t=some r)(k:Go.Vm.look σ.fr u=some s)(hs:Qfc σ.hp outs):AK Tryz.prog C (Qtk Tryz.prog [.tmp t,.tmp u] (Qh (.tup [r,s]) outs)) (.x e) [] σ:=by
 cases e<;>first | exact AK.done ⟨[r,s],⟨h,k,trivial⟩,QbM hs⟩|cases he
theorem tg_ {C:Ctx}{Q:Exit→St→Prop}{n:Nat}{pt pt1:Pt}{ks ks1:List Fr}{σ σ1:St}(hC:QdB Tryz.prog C n)(ds:List Dir)(e:Vm.go Tryz.prog C tab n ds pt ks σ True=some ⟨pt1,ks1,σ1,True⟩)(h:AK Tryz.prog C Q pt1 ks1 σ1):AK Tryz.prog C Q pt ks σ:=AK.go Qo hC ds e trivial h
theorem Qbs {c:Bool}{β:Type}{f:Unit→Option β}{r:β}(h:(chk c).bind f=some r):c=true∧f ()=some r:=by
 obtain⟨_,k,h⟩:=Qd h
 exact⟨Quz k,h⟩
abbrev Qx0 (a0 a1 a2 a3:V):List V:=[.J,.J,.J,.J,a0,a1,a2,.J,.J,.J,.J,.J,.J,a3,.J,.J,.J,.J,.J,.J,.J,.J,.J,.J,.J,.J,.J,.J,.J,.J,.J,.J,.J,.J,.J]
abbrev Qfq (a0 a1 a2:V):List V:=[.J,.J,.J,.J,a0,a1,a2,.J,.J,.J,.J,.J,.J,.J,.J,.J,.J,.J,.J,.J,.J,.J,.J,.J,.J,.J,.J,.J,.J,.J,.J,.J,.J,.J,.J]
def Qkj  : Option Qm:=
 some (Qm.mk ([(QI.mk (⟨#[110]⟩:ByteArray) 2 0 0 ([(⟨#[107]⟩:ByteArray)]:List ByteArray) 0 0)]:List QI) ([(QG.mk (⟨#[97]⟩:ByteArray) 0 ([]:QBg)),(QG.mk (⟨#[98]⟩:ByteArray) 0 ([]:QBg)),(QG.mk (⟨#[99]⟩:ByteArray) 0 ([]:QBg))]:List QG) ([(Qw.mk (⟨#[116]⟩:ByteArray) ([]:(List Qae)) (Qk.mk 1 1 ([]:(List Qk))) 1 1 ([(QP.mk 0 (Qk.mk 1 0 ([]:(List Qk))))]:List QP) ([(QP.mk 1 (Qk.mk 1 0 ([]:(List Qk))))]:List QP) ([]:(List Int)) 0 (0,0,0)),(Qw.mk (⟨#[117]⟩:ByteArray) ([]:(List Qae)) (Qk.mk 1 1 ([]:(List Qk))) 1 1 ([(QP.mk 1 (Qk.mk 1 0 ([]:(List Qk))))]:List QP) ([(QP.mk 0 (Qk.mk 1 0 ([]:(List Qk))))]:List QP) ([2]:List Int) 0 (0,0,0))]:List Qw) 0 1)
theorem Qsn  {r:Qm}(h:Qkj  = some r):Qc prog 31 [] [] (Qh (.agg (Qe r)) []):=by
 refine Qc.walk 31 func31 rfl rfl rfl fun C hC=>?_
 refine Qa hC [.n 7,.v .no [none,none,some 3] (.agg (Qp (Qk.mk 1 0 ([]:(List Qk))))),.n 2,.O 1 (.var (Qp (Qk.mk 1 0 ([]:(List Qk))))),.n 4,.v .no [none,none,some 3] (.agg (Qp (Qk.mk 1 1 ([]:(List Qk))))),.n 2,.O 2 (.var (Qp (Qk.mk 1 1 ([]:(List Qk))))),.n 4,.v (.bd []) [] (.sl 1 (([(⟨#[107]⟩:ByteArray)]:List ByteArray).map QcB)),.v .no [] (.agg (Qx (QI.mk (⟨#[110]⟩:ByteArray) 2 0 0 ([(⟨#[107]⟩:ByteArray)]:List ByteArray) 0 0))),.v (.bd []) [] (.sl 7 (([(QI.mk (⟨#[110]⟩:ByteArray) 2 0 0 ([(⟨#[107]⟩:ByteArray)]:List ByteArray) 0 0)]:List QI).map Qx)),.v .no [none,none,some 2] (.agg (Qq (QG.mk (⟨#[97]⟩:ByteArray) 0 ([]:QBg)))),.v .no [none,none,some 2] (.agg (Qq (QG.mk (⟨#[98]⟩:ByteArray) 0 ([]:QBg)))),.v .no [none,none,some 2] (.agg (Qq (QG.mk (⟨#[99]⟩:ByteArray) 0 ([]:QBg)))),.v (.bd []) [] (.sl 3 (([(QG.mk (⟨#[97]⟩:ByteArray) 0 ([]:QBg)),(QG.mk (⟨#[98]⟩:ByteArray) 0 ([]:QBg)),(QG.mk (⟨#[99]⟩:ByteArray) 0 ([]:QBg))]:List QG).map Qq)),.v .no [] (.agg (Qp (Qk.mk 1 1 ([]:(List Qk))))),.v .no [] (.agg (Qp (Qk.mk 1 0 ([]:(List Qk))))),.v .no [] (.agg (QR (QP.mk 0 (Qk.mk 1 0 ([]:(List Qk)))))),.v (.bd []) [] (.sl 4 (([(QP.mk 0 (Qk.mk 1 0 ([]:(List Qk))))]:List QP).map QR)),.v .no [] (.agg (Qp (Qk.mk 1 0 ([]:(List Qk))))),.v .no [] (.agg (QR (QP.mk 1 (Qk.mk 1 0 ([]:(List Qk)))))),.v (.bd []) [] (.sl 4 (([(QP.mk 1 (Qk.mk 1 0 ([]:(List Qk))))]:List QP).map QR)),.v .no [none,some 2,none,none,none,none,none,none,none,some 1,none,none,none,none] (.agg (Qf (Qw.mk (⟨#[116]⟩:ByteArray) ([]:(List Qae)) (Qk.mk 1 1 ([]:(List Qk))) 1 1 ([(QP.mk 0 (Qk.mk 1 0 ([]:(List Qk))))]:List QP) ([(QP.mk 1 (Qk.mk 1 0 ([]:(List Qk))))]:List QP) ([]:(List Int)) 0 (0,0,0)))),.v .no [] (.agg (Qp (Qk.mk 1 1 ([]:(List Qk))))),.v .no [] (.agg (Qp (Qk.mk 1 0 ([]:(List Qk))))),.v .no [] (.agg (QR (QP.mk 1 (Qk.mk 1 0 ([]:(List Qk)))))),.v (.bd []) [] (.sl 4 (([(QP.mk 1 (Qk.mk 1 0 ([]:(List Qk))))]:List QP).map QR)),.v .no [] (.agg (Qp (Qk.mk 1 0 ([]:(List Qk))))),.v .no [] (.agg (QR (QP.mk 0 (Qk.mk 1 0 ([]:(List Qk)))))),.v (.bd []) [] (.sl 4 (([(QP.mk 0 (Qk.mk 1 0 ([]:(List Qk))))]:List QP).map QR)),.v (.bd []) [] (.sl 1 (([2]:List Int).map Qb)),.v .no [none,some 2,none,none,none,none,none,none,none,none,none,none,none,none] (.agg (Qf (Qw.mk (⟨#[117]⟩:ByteArray) ([]:(List Qae)) (Qk.mk 1 1 ([]:(List Qk))) 1 1 ([(QP.mk 1 (Qk.mk 1 0 ([]:(List Qk))))]:List QP) ([(QP.mk 0 (Qk.mk 1 0 ([]:(List Qk))))]:List QP) ([2]:List Int) 0 (0,0,0)))),.v (.bd []) [] (.sl 14 (([(Qw.mk (⟨#[116]⟩:ByteArray) ([]:(List Qae)) (Qk.mk 1 1 ([]:(List Qk))) 1 1 ([(QP.mk 0 (Qk.mk 1 0 ([]:(List Qk))))]:List QP) ([(QP.mk 1 (Qk.mk 1 0 ([]:(List Qk))))]:List QP) ([]:(List Int)) 0 (0,0,0)),(Qw.mk (⟨#[117]⟩:ByteArray) ([]:(List Qae)) (Qk.mk 1 1 ([]:(List Qk))) 1 1 ([(QP.mk 1 (Qk.mk 1 0 ([]:(List Qk))))]:List QP) ([(QP.mk 0 (Qk.mk 1 0 ([]:(List Qk))))]:List QP) ([2]:List Int) 0 (0,0,0))]:List Qw).map Qf)),.v .no [] (.agg (Qe (Qm.mk ([(QI.mk (⟨#[110]⟩:ByteArray) 2 0 0 ([(⟨#[107]⟩:ByteArray)]:List ByteArray) 0 0)]:List QI) ([(QG.mk (⟨#[97]⟩:ByteArray) 0 ([]:QBg)),(QG.mk (⟨#[98]⟩:ByteArray) 0 ([]:QBg)),(QG.mk (⟨#[99]⟩:ByteArray) 0 ([]:QBg))]:List QG) ([(Qw.mk (⟨#[116]⟩:ByteArray) ([]:(List Qae)) (Qk.mk 1 1 ([]:(List Qk))) 1 1 ([(QP.mk 0 (Qk.mk 1 0 ([]:(List Qk))))]:List QP) ([(QP.mk 1 (Qk.mk 1 0 ([]:(List Qk))))]:List QP) ([]:(List Int)) 0 (0,0,0)),(Qw.mk (⟨#[117]⟩:ByteArray) ([]:(List Qae)) (Qk.mk 1 1 ([]:(List Qk))) 1 1 ([(QP.mk 1 (Qk.mk 1 0 ([]:(List Qk))))]:List QP) ([(QP.mk 0 (Qk.mk 1 0 ([]:(List Qk))))]:List QP) ([2]:List Int) 0 (0,0,0))]:List Qw) 0 1))),.n 1,.O 0 (.var (Qe (Qm.mk ([(QI.mk (⟨#[110]⟩:ByteArray) 2 0 0 ([(⟨#[107]⟩:ByteArray)]:List ByteArray) 0 0)]:List QI) ([(QG.mk (⟨#[97]⟩:ByteArray) 0 ([]:QBg)),(QG.mk (⟨#[98]⟩:ByteArray) 0 ([]:QBg)),(QG.mk (⟨#[99]⟩:ByteArray) 0 ([]:QBg))]:List QG) ([(Qw.mk (⟨#[116]⟩:ByteArray) ([]:(List Qae)) (Qk.mk 1 1 ([]:(List Qk))) 1 1 ([(QP.mk 0 (Qk.mk 1 0 ([]:(List Qk))))]:List QP) ([(QP.mk 1 (Qk.mk 1 0 ([]:(List Qk))))]:List QP) ([]:(List Int)) 0 (0,0,0)),(Qw.mk (⟨#[117]⟩:ByteArray) ([]:(List Qae)) (Qk.mk 1 1 ([]:(List Qk))) 1 1 ([(QP.mk 1 (Qk.mk 1 0 ([]:(List Qk))))]:List QP) ([(QP.mk 0 (Qk.mk 1 0 ([]:(List Qk))))]:List QP) ([2]:List Int) 0 (0,0,0))]:List Qw) 0 1))),.n 3,.K [0] [0]] rfl ⟨⟨⟨⟨⟨⟨⟨⟨⟨⟨⟨⟨⟨⟨⟨⟨⟨⟨⟨⟨⟨⟨⟨⟨⟨⟨⟨⟨⟨⟨⟨tt_,rfl⟩,rfl⟩,rfl⟩,rfl⟩,rfl⟩,rfl⟩,rfl⟩,rfl⟩,rfl⟩,rfl⟩,rfl⟩,rfl⟩,rfl⟩,rfl⟩,rfl⟩,rfl⟩,rfl⟩,rfl⟩,rfl⟩,rfl⟩,rfl⟩,rfl⟩,rfl⟩,rfl⟩,rfl⟩,rfl⟩,rfl⟩,rfl⟩,rfl⟩,rfl⟩,rfl⟩ ?_
 cases h
 exact AK.done (ex_ [_] (an_ (an_ (ex_ _ (ex_ _ (an_ rfl (an_ rfl (Or.inl (an_ (Qo.ag rfl) (an_ (Qo.sz rfl) rfl))))))) tt_) (QbM tt_)))
def Qdx (a:QLL):Option QLL:=
 some a
def QkG (b:Int)(a:Int)(c:(List Int)):Option ((Int×(List Int))⊕(List Int)):=
 bif (decide (a<b))then
 (chk (decide (c.length+([a]:List Int).length≤4294967296))).bind fun _=>
 some (.inl ((w64 (a+1)),(c++([a]:List Int))))
 else
 some (.inr c)
def QkH (a:(List Int)):Option QLL:=
 some ([a]:List (List Int))
def QkI (b:Int)(a:Int)(c:QLL):Option ((Int×QLL)⊕QLL):=
 bif (decide (a<b))then
 (chk (decide (c.length+([([a]:List Int)]:List (List Int)).length≤4294967296))).bind fun _=>
 some (.inl ((w64 (a+1)),(c++([([a]:List Int)]:List (List Int)))))
 else
 some (.inr c)
def Qio (a:QLL):Option QLL:=
 Qdx a
def Qip (a:Int)(b:(List Int)):Option ((Int×(List Int))⊕(List Int)):=
 some (.inl ((w64 (a+1)),b))
def QkJ (c:Int)(set_33:Int)(a:Int)(b:(List Int)):Option ((Int×(List Int))⊕(List Int)):=
 bif (decide (a<c))then
 (chk (decide (0≤a))).bind fun _=>
 bif ((Qcy .i64 (Qc2 .i64 set_33 a) 1)==1)then
 (chk (decide (b.length+([a]:List Int).length≤4294967296))).bind fun _=>
 Qip a (b++([a]:List Int))
 else
 Qip a b
 else
 some (.inr b)
def QkK (a:QLL)(set_33:Int)(b:(List Int)):Option ((Int×QLL)⊕QLL):=
 (chk (decide (a.length+([b]:List (List Int)).length≤4294967296))).bind fun _=>
 some (.inl ((w64 (set_33+1)),(a++([b]:List (List Int)))))
def QkL (a:Int)(set_33:Int)(b:QLL):Option ((Int×QLL)⊕QLL):=
 (chk (decide (0≤a))).bind fun _=>
 bif (decide (set_33<(QuV .i64 1 a)))then
 (Qy (fun st=>QkJ a set_33 st.1 st.2) (0,([]:List Int))).bind (fun q=>QkK b set_33 q)
 else
 some (.inr b)
def Qhr (a:QLL):Option QLL:=
 Qdx a
def QcP (b:Int)(a:Int):Option QLL:=
 bif ((decide (a<0))||((decide (16<a))||((b==3)&&(decide (4<a)))))then
 some ([]:List (List Int))
 else
 bif (b==1)then
 (Qy (fun st=>QkG a st.1 st.2) (0,([]:List Int))).bind (fun q=>QkH q)
 else
 bif (b==2)then
 (Qy (fun st=>QkI a st.1 st.2) (0,([]:List (List Int)))).bind (fun q=>Qio q)
 else
 bif (b==3)then
 (Qy (fun st=>QkL a st.1 st.2) (1,([]:List (List Int)))).bind (fun q=>Qhr q)
 else
 Qdx ([]:List (List Int))
theorem QkM (c a){r}(h:QcP c a=some r):Qc prog 38 [.I c,.I a] [] (Qh (.own 600 r.length) [(600,.arr 1 (r.map Qi))]):=by
 refine Qc.walk 79 func38 rfl rfl rfl fun C hC=>?_
 unfold QcP at h
 refine tg_ hC [.n 7] rfl ?_
 refine AK.meetX (fun σ=>σ=⟨[(0,.I c),(1,.I a),(25,.b ((decide (a<0))||((decide (16<a))||((c==3)&&(decide (4<a))))))],[]⟩) ?_ ?_
 ·refine tg_ hC [.n 4] rfl ?_
  rcases QS (decide (a<0))with f | f
  ·refine Qa hC [.S 14 (.b true),.n 12,.S 25 (.b ((decide (a<0))||((decide (16<a))||((c==3)&&(decide (4<a)))))),.K [0,1,25] []] rfl ⟨(tc_ f),(congrArg V.b (orT f rfl))⟩ ?_
   exact AK.met rfl
  refine Qa hC [.S 14 (.b false),.n 4] rfl (tc_ f) ?_
  rcases QS (decide (16<a))with i | i
  ·refine Qa hC [.S 18 (.b true),.n 8,.S 25 (.b ((decide (a<0))||((decide (16<a))||((c==3)&&(decide (4<a)))))),.K [0,1,25] []] rfl ⟨(tc_ i),(congrArg V.b (orF f (orT i rfl)))⟩ ?_
   exact AK.met rfl
  refine Qa hC [.S 18 (.b false),.n 3] rfl (tc_ i) ?_
  rcases QS (c==3)with j | j
  ·refine Qa hC [.S 21 (.b true),.n 5,.S 25 (.b ((decide (a<0))||((decide (16<a))||((c==3)&&(decide (4<a)))))),.K [0,1,25] []] rfl ⟨(tc_ j),(congrArg V.b (orF f (orF i (QbB j rfl))))⟩ ?_
   exact AK.met rfl
  refine Qa hC [.S 21 (.b false),.n 5,.S 25 (.b ((decide (a<0))||((decide (16<a))||((c==3)&&(decide (4<a)))))),.K [0,1,25] []] rfl ⟨(tc_ j),(congrArg V.b (orF f (orF i (Qdq j rfl))))⟩ ?_
  exact AK.met rfl
 rintro σ rfl
 refine tg_ hC [.n 1] rfl ?_
 refine bg_ h (fun E h=>Qa hC [.T,.n 7,.adopt 4 600 1,.O 600 (.arr 1 (([]:List (List Int)).map Qi)),.S 4 (.own 600 ([]:List (List Int)).length),.K [4] [600]] rfl ⟨⟨⟨tt_,E⟩,rfl⟩,rfl⟩ ?_) fun E h=>Qa hC [.F,.n 7] rfl ⟨tt_,E⟩ ?_
 ·cases h
  exact d1_ rfl rfl ⟨rfl,tt_⟩
 refine AK.meet (fun σ=>∃y:QLL,σ=⟨[(5,.own 602 y.length)],[(602,.arr 1 (y.map Qi))]⟩∧Qdx y=some r) ?_ ?_
 ·refine tg_ hC [.n 12] rfl ?_
  refine bg_ h (fun k h=>Qa hC [.T,.n 13,.adopt 6 33 1,.O 33 (.arr 1 (([]:List Int).map Qb)),.S 6 (.own 33 ([]:List Int).length),.K [6,29,30] [33]] rfl ⟨⟨⟨tt_,k⟩,rfl⟩,(congrArg (fun n=>V.own 33 n) (by simp))⟩ ?_) fun k h=>Qa hC [.F,.n 6] rfl ⟨tt_,k⟩ ?_
  ·obtain⟨z,H,h⟩:=Qd h
   refine AK.loop (body:=(fun st=>QkG a st.1 st.2)) (fun st σ=>σ=⟨[(6,.own 33 st.2.length),(29,.I a),(30,.I st.1)],[(33,.arr 1 (st.2.map Qb))]⟩) (fun q e σ=>e=.exit 1∧σ=⟨[(6,.own 33 q.length)],[(33,.arr 1 (q.map Qb))]⟩) H rfl ?_ ?_
   ·rintro ⟨G,J⟩ o σ rfl h
    refine tg_ hC [.n 6] rfl ?_
    rcases Qt h with⟨l,h⟩|⟨l,h⟩
    ·obtain⟨L,h⟩:=Qbs h
     refine Qa hC [.T,.n 13,.v (.bd []) [] (.sl 1 (([G]:List Int).map Qb)),.app ((J++([G]:List Int)).map Qb) (J++([G]:List Int)).length,.n 8,.K [6,29,30] [33]] rfl ⟨⟨⟨tt_,l⟩,rfl⟩,⟨Qj,Qjv L Qj,Qgz,Qkh Qj⟩⟩ ?_
     cases h
     exact QV rfl rfl
    refine Qa hC [.F,.n 2,.K [6] [33]] rfl ⟨tt_,l⟩ ?_
    cases h
    exact QW rfl (an_ rfl rfl)
   replace h:QkH z=some r:=h
   rintro e σ ⟨rfl,rfl⟩
   refine Qa hC [.n 5,.frz 33 (z.map Qb) [6,38] [],.n 1,.O 39 (.arr 1 (([z]:List (List Int)).map Qi)),.S 39 (.own 39 ([z]:List (List Int)).length),.n 6,.K [4] [39],.ren 39 600] rfl ⟨⟨⟨tt_,⟨⟨tt_,(Qfp Qj)⟩,(Qfp Qj)⟩⟩,rfl⟩,rfl⟩ ?_
   cases h
   exact d1_ rfl rfl ⟨rfl,tt_⟩
  refine bg_ h (fun m h=>Qa hC [.T,.n 7,.adopt 5 46 1,.O 46 (.arr 1 (([]:List (List Int)).map Qi)),.S 5 (.own 46 ([]:List (List Int)).length),.K [5,42,43] [46]] rfl ⟨⟨⟨tt_,m⟩,rfl⟩,(congrArg (fun n=>V.own 46 n) (by simp))⟩ ?_) fun m h=>Qa hC [.F,.n 6] rfl ⟨tt_,m⟩ ?_
  ·obtain⟨a2,M,h⟩:=Qd h
   refine AK.loop (body:=(fun st=>QkI a st.1 st.2)) (fun st σ=>σ=⟨[(5,.own 46 st.2.length),(42,.I a),(43,.I st.1)],[(46,.arr 1 (st.2.map Qi))]⟩) (fun q e σ=>e=.exit 3∧σ=⟨[(5,.own 46 q.length)],[(46,.arr 1 (q.map Qi))]⟩) M rfl ?_ ?_
   ·rintro ⟨A,N⟩ o σ rfl h
    refine tg_ hC [.n 6] rfl ?_
    rcases Qt h with⟨p,h⟩|⟨p,h⟩
    ·obtain⟨P,h⟩:=Qbs h
     refine Qa hC [.T,.n 13,.v (.bd []) [] (.sl 1 (([A]:List Int).map Qb)),.v (.bd []) [] (.sl 1 (([([A]:List Int)]:List (List Int)).map Qi)),.app ((N++([([A]:List Int)]:List (List Int))).map Qi) (N++([([A]:List Int)]:List (List Int))).length,.n 8,.K [5,42,43] [46]] rfl ⟨⟨⟨⟨tt_,p⟩,rfl⟩,rfl⟩,⟨Qj,Qjv P Qj,Qgz,Qkh Qj⟩⟩ ?_
     cases h
     exact QV rfl rfl
    refine Qa hC [.F,.n 2,.K [5] [46]] rfl ⟨tt_,p⟩ ?_
    cases h
    exact QW rfl (an_ rfl rfl)
   replace h:Qio a2=some r:=h
   unfold Qio at h
   rintro e σ ⟨rfl,rfl⟩
   refine tg_ hC [.n 2,.ren 46 602,.K [5] [602]] rfl ?_
   exact AK.met (ex_ _ (an_ rfl h))
  refine bg_ h (fun s h=>Qa hC [.T,.n 6,.adopt 5 74 1,.O 74 (.arr 1 (([]:List (List Int)).map Qi)),.S 5 (.own 74 ([]:List (List Int)).length),.K [1,5,9] [74]] rfl ⟨⟨⟨tt_,s⟩,rfl⟩,(congrArg (fun n=>V.own 74 n) (by simp))⟩ ?_) fun s h=>Qa hC [.F,.n 2,.adopt 5 602 1,.O 602 (.arr 1 (([]:List (List Int)).map Qi)),.S 5 (.own 602 ([]:List (List Int)).length),.K [5] [602]] rfl ⟨⟨⟨tt_,s⟩,rfl⟩,(congrArg (fun n=>V.own 602 n) (by simp))⟩ ?_
  ·obtain⟨a3,U,h⟩:=Qd h
   refine AK.loop (body:=(fun st=>QkL a st.1 st.2)) (fun st σ=>σ=⟨[(1,.I a),(5,.own 74 st.2.length),(9,.I st.1)],[(74,.arr 1 (st.2.map Qi))]⟩) (fun q e σ=>e=.exit 5∧σ=⟨[(5,.own 74 q.length)],[(74,.arr 1 (q.map Qi))]⟩) U rfl ?_ ?_
   ·rintro ⟨set_33,d⟩ o σ rfl h
    obtain⟨W,h⟩:=Qbs h
    refine Qa hC [.n 5,.o (.any (.I (QuV .i64 1 a)) none),.n 3] rfl ⟨tt_,(fun σ D h2 _=>Stp.shl rfl rfl (QC hC.n rfl) (D _ _ rfl) (D _ _ rfl) (QX W))⟩ ?_
    refine bg_ h (fun t h=>Qa hC [.T,.n 17,.adopt 10 69 1,.O 69 (.arr 1 (([]:List Int).map Qb)),.S 10 (.own 69 ([]:List Int).length),.K [1,5,9,10,60,61] [69,74]] rfl ⟨⟨⟨tt_,t⟩,rfl⟩,(congrArg (fun n=>V.own 69 n) (by simp))⟩ ?_) fun t h=>Qa hC [.F,.n 2,.K [5] [74]] rfl ⟨tt_,t⟩ ?_
    ·obtain⟨u,X,h⟩:=Qd h
     refine AK.loop (body:=(fun st=>QkJ a set_33 st.1 st.2)) (fun st σ=>σ=⟨[(1,.I a),(5,.own 74 d.length),(9,.I set_33),(10,.own 69 st.2.length),(60,.I a),(61,.I st.1)],[(69,.arr 1 (st.2.map Qb)),(74,.arr 1 (d.map Qi))]⟩) (fun q e σ=>e=.exit 7∧σ=⟨[(1,.I a),(5,.own 74 d.length),(9,.I set_33),(10,.own 69 q.length)],[(69,.arr 1 (q.map Qb)),(74,.arr 1 (d.map Qi))]⟩) X rfl ?_ ?_
     ·rintro ⟨g,Y⟩ o σ rfl h
      refine tg_ hC [.n 6] rfl ?_
      refine bg_ h (fun w h=>Qa hC [.T,.n 2] rfl ⟨tt_,w⟩ ?_) fun w h=>Qa hC [.F,.n 2,.K [1,5,9,10] [69,74]] rfl ⟨tt_,w⟩ ?_
      ·refine AK.meet (fun σ=>∃B:(List Int),σ=⟨[(1,.I a),(5,.own 74 d.length),(9,.I set_33),(10,.own 69 B.length),(60,.I a),(61,.I g)],[(69,.arr 1 (B.map Qb)),(74,.arr 1 (d.map Qi))]⟩∧Qip g B=some o) ?_ ?_
       ·obtain⟨Z,h⟩:=Qbs h
        refine Qa hC [.n 11,.o (.any (.I (Qc2 .i64 set_33 g)) none),.o (.any (.I (Qcy .i64 (Qc2 .i64 set_33 g) 1)) none),.n 3] rfl ⟨⟨tt_,(fun σ D h2 _=>Stp.shr rfl rfl (QC hC.n rfl) (D _ _ rfl) (D _ _ rfl) (QX Z))⟩,(fun σ D h2 _=>Stp.andB rfl rfl (QC hC.n rfl) (D _ _ rfl) (D _ _ rfl))⟩ ?_
        rcases Qt h with⟨x,h⟩|⟨x,h⟩
        ·obtain⟨a0,h⟩:=Qbs h
         refine Qa hC [.T,.n 3,.v (.bd []) [] (.sl 1 (([g]:List Int).map Qb)),.app ((Y++([g]:List Int)).map Qb) (Y++([g]:List Int)).length,.n 3,.K [1,5,9,10,60,61] [69,74]] rfl ⟨⟨⟨tt_,x⟩,rfl⟩,⟨Qj,Qjv a0 Qj,Qgz,Qkh Qj⟩⟩ ?_
         exact AK.met (ex_ _ (an_ rfl h))
        refine Qa hC [.F,.n 2,.K [1,5,9,10,60,61] [69,74]] rfl ⟨tt_,x⟩ ?_
        exact AK.met (ex_ _ (an_ rfl h))
       rintro σ ⟨B,rfl,h⟩
       refine tg_ hC [.n 4,.K [1,5,9,10,60,61] [69,74]] rfl ?_
       cases h
       exact QV rfl rfl
      cases h
      exact QW rfl (an_ rfl rfl)
     replace h:QkK d set_33 u=some o:=h
     rintro e σ ⟨rfl,rfl⟩
     obtain⟨a1,h⟩:=Qbs h
     refine Qa hC [.n 5,.frz 69 (u.map Qb) [10,75] [],.v (.bd []) [] (.sl 1 (([u]:List (List Int)).map Qi)),.app ((d++([u]:List (List Int))).map Qi) (d++([u]:List (List Int))).length,.n 9,.K [1,5,9] [74]] rfl ⟨⟨⟨tt_,⟨⟨tt_,(Qfp Qj)⟩,(Qfp Qj)⟩⟩,rfl⟩,⟨Qj,Qjv a1 Qj,Qgz,Qkh Qj⟩⟩ ?_
     cases h
     exact QV rfl rfl
    cases h
    exact QW rfl (an_ rfl rfl)
   replace h:Qhr a3=some r:=h
   unfold Qhr at h
   rintro e σ ⟨rfl,rfl⟩
   refine tg_ hC [.n 2,.ren 74 602,.K [5] [602]] rfl ?_
   exact AK.met (ex_ _ (an_ rfl h))
  exact AK.met (ex_ _ (an_ rfl h))
 rintro σ ⟨y,rfl,h⟩
 refine tg_ hC [.n 7,.K [4] [602],.ren 602 600] rfl ?_
 cases h
 exact d1_ rfl rfl ⟨rfl,tt_⟩
def Qfr (b:(List Int))(a:Int)(c:Int):Option (List Int):=
 bif ((decide (0≤a))&&(decide (a<(b.length:Int))))then
 (idx b a).bind fun d=>
 (idx b a).bind fun e=>
 some (b.set a.toNat (w64 (d+c)))
 else
 some b
theorem QkN (d a i){r}(h:Qfr d a i=some r):Qc prog 39 [.own 609 d.length,.I a,.I i] [(609,.arr 1 (d.map Qb))] (Qh (.tup []) [(609,.arr 1 (r.map Qb))]):=by
 refine Qc.walk 21 func39 rfl rfl rfl fun C hC=>?_
 refine tg_ hC [.n 1] rfl ?_
 refine AK.meetX (fun σ=>σ=⟨[(0,.own 609 d.length),(1,.I a),(2,.I i),(13,.b ((decide (0≤a))&&(decide (a<(d.length:Int)))))],[(609,.arr 1 (d.map Qb))]⟩) ?_ ?_
 ·refine tg_ hC [.n 4] rfl ?_
  rcases QS (decide (0≤a))with c | c
  ·refine Qa hC [.S 8 (.b true),.n 6,.S 13 (.b ((decide (0≤a))&&(decide (a<(d.length:Int))))),.K [0,1,2,13] [609]] rfl ⟨(tc_ c),(congrArg V.b (QbB c rfl))⟩ ?_
   exact AK.met rfl
  refine Qa hC [.S 8 (.b false),.n 6,.S 13 (.b ((decide (0≤a))&&(decide (a<(d.length:Int))))),.K [0,1,2,13] [609]] rfl ⟨(tc_ c),(congrArg V.b (Qdq c rfl))⟩ ?_
  exact AK.met rfl
 rintro σ rfl
 refine tg_ hC [.n 1] rfl ?_
 rcases Qt h with⟨f,h⟩|⟨f,h⟩
 ·obtain⟨k,g,h⟩:=Qd h
  obtain⟨j,e,h⟩:=Qd h
  refine Qa hC [.T,.n 4,.o (.row (Qb k)),.n 3,.st (Qb j) ((d.set a.toNat (w64 (k+i))).map Qb),.n 1,.K [] [609]] rfl ⟨⟨⟨⟨⟨tt_,f⟩,(QbQ g rfl)⟩,(Qa2 (Qck g).2)⟩,(QbQ e rfl)⟩,⟨(Qa2 (Qck e).2),Qix rfl⟩⟩ ?_
  cases h
  refine AK.done ?_
  exact ex_ [] (an_ tt_ (QbM ⟨rfl,tt_⟩))
 refine Qa hC [.F,.n 1,.K [] [609]] rfl ⟨tt_,f⟩ ?_
 cases h
 refine AK.done ?_
 exact ex_ [] (an_ tt_ (QbM ⟨rfl,tt_⟩))
def Qc3 (c:(List Int))(e:Qw)(a:Int)(b:(List Int)):Option ((Int×(List Int))⊕(List Int)):=
 bif (decide (a<(c.length:Int)))then
 (idx c a).bind fun f=>
 (idx e.Ins f).bind fun g=>
 (Qfr b g.Place (-1)).bind fun d=>
 (chk (decide (d.length=b.length))).bind fun _=>
 some (.inl ((w64 (a+1)),d))
 else
 some (.inr b)
def Qc4 (c:(List Int))(e:Qw)(a:Int)(b:(List Int)):Option ((Int×(List Int))⊕(List Int)):=
 bif (decide (a<(c.length:Int)))then
 (idx c a).bind fun f=>
 (idx e.Outs f).bind fun g=>
 (Qfr b g.Place 1).bind fun d=>
 (chk (decide (d.length=b.length))).bind fun _=>
 some (.inl ((w64 (a+1)),d))
 else
 some (.inr b)
def QeI (a:QLL)(c:Int)(b:(List Int)):Option ((Int×QLL)⊕QLL):=
 (chk (decide (a.length+([b]:List (List Int)).length≤4294967296))).bind fun _=>
 some (.inl ((w64 (c+1)),(a++([b]:List (List Int)))))
def QeJ (a:(List Int))(b:Qw)(c:QLL)(d:Int)(e:(List Int)):Option ((Int×QLL)⊕QLL):=
 (Qy (fun st=>Qc4 a b st.1 st.2) (0,e)).bind (fun q=>QeI c d q)
def Qc5 (b:QLL)(c:Qm)(f:(List Int))(d:Qw)(a:Int)(e:QLL):Option ((Int×QLL)⊕QLL):=
 bif (decide (a<(b.length:Int)))then
 (idx b a).bind fun g=>
 (chk (decide (0≤(c.Places.length:Int))&&decide ((c.Places.length:Int)≤(c.Places.length:Int))&&decide ((c.Places.length:Int)≤4294967296))).bind fun _=>
 (Qy (fun st=>Qc3 f d st.1 st.2) (0,(List.replicate (c.Places.length:Int).toNat (0:Int)))).bind (fun q=>QeJ g d e a q)
 else
 some (.inr e)
def QeK (a:Int)(b:QLL):Option ((Int×QLL)⊕QLL):=
 some (.inl ((w64 (a+1)),b))
def Qc6 (c:QLL)(a:Qw)(g:Qm)(b:Int)(d:QLL):Option ((Int×QLL)⊕QLL):=
 bif (decide (b<(c.length:Int)))then
 (idx c b).bind fun e=>
 (QcP a.Split (a.Outs.length:Int)).bind fun f=>
 (Qy (fun st=>Qc5 f g e a st.1 st.2) (0,d)).bind (fun q=>QeK b q)
 else
 some (.inr d)
def QeL (b:Int)(a:QLL):Option ((Int×QLL)⊕QLL):=
 some (.inl ((w64 (b+1)),a))
def QeM (b:Qm)(c:Int)(e:QLL):Option ((Int×QLL)⊕QLL):=
 bif (decide (c<(b.Tasks.length:Int)))then
 (idx b.Tasks c).bind fun a=>
 (QcP a.Join (a.Ins.length:Int)).bind fun d=>
 (Qy (fun st=>Qc6 d a b st.1 st.2) (0,e)).bind (fun q=>QeL c q)
 else
 some (.inr e)
def QjR (a:QLL):Option QLL:=
 some a
def Qdc (a:Qm):Option QLL:=
 (Qy (fun st=>QeM a st.1 st.2) (0,([]:List (List Int)))).bind (fun q=>QjR q)
theorem Qhs (c){r}(h:Qdc c=some r):Qc prog 15 [.agg (Qe c)] [] (Qh (.own 600 r.length) [(600,.arr 1 (r.map Qi))]):=by
 refine Qc.walk 86 func15 rfl rfl rfl fun C hC=>?_
 refine Qa hC [.n 16,.o (.ln c.Tasks.length),.n 4,.adopt 3 78 1,.O 78 (.arr 1 (([]:List (List Int)).map Qi)),.S 3 (.own 78 ([]:List (List Int)).length),.K [1,3,16,17,18] [1,78]] rfl ⟨⟨⟨tt_,Qj⟩,rfl⟩,(congrArg (fun n=>V.own 78 n) (by simp))⟩ ?_
 obtain⟨l8,G,h⟩:=Qd h
 refine AK.loop (body:=(fun st=>QeM c st.1 st.2)) (fun st σ=>σ=⟨[(1,.loc 1 0 0),(3,.own 78 st.2.length),(16,.sl 14 (c.Tasks.map Qf)),(17,.I (c.Tasks.length:Int)),(18,.I st.1)],[(1,.var (Qe c)),(78,.arr 1 (st.2.map Qi))]⟩) (fun q e σ=>e=.exit 0∧σ=⟨[(3,.own 78 q.length)],[(78,.arr 1 (q.map Qi))]⟩) G rfl ?_ ?_
 ·rintro ⟨w,l5⟩ o σ rfl h
  refine tg_ hC [.n 6] rfl ?_
  rcases Qt h with⟨B,h⟩|⟨B,h⟩
  ·obtain⟨f,H,h⟩:=Qd h
   obtain⟨a,J,h⟩:=Qd h
   refine Qa hC [.T,.n 6,.o (.row (Qf f)),.v .no [] (.agg (Qf f)),.n 2,.O 5 (.var (Qf f)),.n 8,.o (.ln f.Ins.length),.o (.co false [.d,.d] 1 (a.map Qi) a.length),.n 5,.K [1,3,5,16,17,18,27,28,29] [1,5,27,78]] rfl ⟨⟨⟨⟨⟨⟨tt_,B⟩,(QF H)⟩,rfl⟩,rfl⟩,Qj⟩,⟨(QkM _ _ J),Qj,.inl rfl⟩⟩ ?_
   obtain⟨a4,L,h⟩:=Qd h
   refine AK.loop (body:=(fun st=>Qc6 a f c st.1 st.2)) (fun st σ=>σ=⟨[(1,.loc 1 0 0),(3,.own 78 st.2.length),(5,.loc 5 0 0),(16,.sl 14 (c.Tasks.map Qf)),(17,.I (c.Tasks.length:Int)),(18,.I w),(27,.own 27 a.length),(28,.I (a.length:Int)),(29,.I st.1)],[(1,.var (Qe c)),(5,.var (Qf f)),(27,.arr 1 (a.map Qi)),(78,.arr 1 (st.2.map Qi))]⟩) (fun q e σ=>e=.exit 2∧σ=⟨[(1,.loc 1 0 0),(3,.own 78 q.length),(16,.sl 14 (c.Tasks.map Qf)),(17,.I (c.Tasks.length:Int)),(18,.I w)],[(1,.var (Qe c)),(78,.arr 1 (q.map Qi))]⟩) L rfl ?_ ?_
   ·rintro ⟨k,b1⟩ o σ rfl h
    refine tg_ hC [.n 6] rfl ?_
    rcases Qt h with⟨m,h⟩|⟨m,h⟩
    ·obtain⟨i,x,h⟩:=Qd h
     obtain⟨b,M,h⟩:=Qd h
     refine Qa hC [.T,.n 7,.o (.row (Qi i)),.n 9,.o (.ln f.Outs.length),.o (.co false [.d,.d] 1 (b.map Qi) b.length),.n 5,.K [1,3,5,7,16,17,18,27,28,29,38,39,40] [1,5,27,38,78]] rfl ⟨⟨⟨⟨⟨tt_,m⟩,(QbQ x rfl)⟩,(Qa2 (Qck x).2)⟩,Qj⟩,⟨(QkM _ _ M),Qj,.inl rfl⟩⟩ ?_
     obtain⟨a5,N,h⟩:=Qd h
     refine AK.loop (body:=(fun st=>Qc5 b c i f st.1 st.2)) (fun st σ=>σ=⟨[(1,.loc 1 0 0),(3,.own 78 st.2.length),(5,.loc 5 0 0),(7,.sl 1 (i.map Qb)),(16,.sl 14 (c.Tasks.map Qf)),(17,.I (c.Tasks.length:Int)),(18,.I w),(27,.own 27 a.length),(28,.I (a.length:Int)),(29,.I k),(38,.own 38 b.length),(39,.I (b.length:Int)),(40,.I st.1)],[(1,.var (Qe c)),(5,.var (Qf f)),(27,.arr 1 (a.map Qi)),(38,.arr 1 (b.map Qi)),(78,.arr 1 (st.2.map Qi))]⟩) (fun q e σ=>e=.exit 4∧σ=⟨[(1,.loc 1 0 0),(3,.own 78 q.length),(5,.loc 5 0 0),(16,.sl 14 (c.Tasks.map Qf)),(17,.I (c.Tasks.length:Int)),(18,.I w),(27,.own 27 a.length),(28,.I (a.length:Int)),(29,.I k)],[(1,.var (Qe c)),(5,.var (Qf f)),(27,.arr 1 (a.map Qi)),(78,.arr 1 (q.map Qi))]⟩) N rfl ?_ ?_
     ·rintro ⟨l,g⟩ o σ rfl h
      refine tg_ hC [.n 6] rfl ?_
      rcases Qt h with⟨p,h⟩|⟨p,h⟩
      ·obtain⟨j,y,h⟩:=Qd h
       obtain⟨P,h⟩:=Qbs h
       refine Qa hC [.T,.n 7,.o (.row (Qi j)),.n 7,.o (.ln c.Places.length),.o (.rows ((List.replicate (c.Places.length:Int).toNat (0:Int)).map Qb)),.S 47 (.own 47 (List.replicate (c.Places.length:Int).toNat (0:Int)).length),.n 7,.o (.ln i.length),.n 4,.K [1,3,5,7,9,10,16,17,18,27,28,29,38,39,40,48,49,50] [1,5,27,38,47,78]] rfl ⟨⟨⟨⟨⟨⟨⟨tt_,p⟩,(QbQ y rfl)⟩,(Qa2 (Qck y).2)⟩,Qj⟩,⟨P,Qlr rfl⟩⟩,(by simp)⟩,Qj⟩ ?_
       obtain⟨a6,U,h⟩:=Qd h
       refine AK.loop (body:=(fun st=>Qc3 i f st.1 st.2)) (fun st σ=>σ=⟨[(1,.loc 1 0 0),(3,.own 78 g.length),(5,.loc 5 0 0),(7,.sl 1 (i.map Qb)),(9,.sl 1 (j.map Qb)),(10,.own 47 st.2.length),(16,.sl 14 (c.Tasks.map Qf)),(17,.I (c.Tasks.length:Int)),(18,.I w),(27,.own 27 a.length),(28,.I (a.length:Int)),(29,.I k),(38,.own 38 b.length),(39,.I (b.length:Int)),(40,.I l),(48,.sl 1 (i.map Qb)),(49,.I (i.length:Int)),(50,.I st.1)],[(1,.var (Qe c)),(5,.var (Qf f)),(27,.arr 1 (a.map Qi)),(38,.arr 1 (b.map Qi)),(47,.arr 1 (st.2.map Qb)),(78,.arr 1 (g.map Qi))]⟩) (fun q e σ=>e=.exit 6∧σ=⟨[(1,.loc 1 0 0),(3,.own 78 g.length),(5,.loc 5 0 0),(7,.sl 1 (i.map Qb)),(9,.sl 1 (j.map Qb)),(10,.own 47 q.length),(16,.sl 14 (c.Tasks.map Qf)),(17,.I (c.Tasks.length:Int)),(18,.I w),(27,.own 27 a.length),(28,.I (a.length:Int)),(29,.I k),(38,.own 38 b.length),(39,.I (b.length:Int)),(40,.I l)],[(1,.var (Qe c)),(5,.var (Qf f)),(27,.arr 1 (a.map Qi)),(38,.arr 1 (b.map Qi)),(47,.arr 1 (q.map Qb)),(78,.arr 1 (g.map Qi))]⟩) U rfl ?_ ?_
       ·rintro ⟨b2,b3⟩ o σ rfl h
        refine tg_ hC [.n 6] rfl ?_
        rcases Qt h with⟨s,h⟩|⟨s,h⟩
        ·obtain⟨a7,W,h⟩:=Qd h
         obtain⟨a8,X,h⟩:=Qd h
         obtain⟨D,Y,h⟩:=Qd h
         obtain⟨z,h⟩:=Qbs h
         refine Qa hC [.T,.n 6,.o (.row (Qb a7)),.n 9,.o (.row (QR a8)),.n 2,.cm (.fn) [(609,47)] [(47,609)] [] [.d,.d,.d] [(609,.arr 1 (D.map Qb))] (.tup []),.S 10 (.own 47 D.length),.S 54 (.own 47 D.length),.n 7,.K [1,3,5,7,9,10,16,17,18,27,28,29,38,39,40,48,49,50] [1,5,27,38,47,78]] rfl ⟨⟨⟨⟨⟨⟨tt_,s⟩,(QF W)⟩,(QF X)⟩,(QkN _ _ _ Y)⟩,(by simp [QX z])⟩,(by simp [QX z])⟩ ?_
         cases h
         exact QV rfl rfl
        refine Qa hC [.F,.n 2,.K [1,3,5,7,9,10,16,17,18,27,28,29,38,39,40] [1,5,27,38,47,78]] rfl ⟨tt_,s⟩ ?_
        cases h
        exact QW rfl (an_ rfl rfl)
       replace h:QeJ j f g l a6=some o:=h
       rintro e σ ⟨rfl,rfl⟩
       refine Qa hC [.n 6,.o (.ln j.length),.n 4,.K [1,3,5,7,10,16,17,18,27,28,29,38,39,40,63,64,65] [1,5,27,38,47,78]] rfl ⟨tt_,Qj⟩ ?_
       obtain⟨t,Z,h⟩:=Qd h
       refine AK.loop (body:=(fun st=>Qc4 j f st.1 st.2)) (fun st σ=>σ=⟨[(1,.loc 1 0 0),(3,.own 78 g.length),(5,.loc 5 0 0),(7,.sl 1 (i.map Qb)),(10,.own 47 st.2.length),(16,.sl 14 (c.Tasks.map Qf)),(17,.I (c.Tasks.length:Int)),(18,.I w),(27,.own 27 a.length),(28,.I (a.length:Int)),(29,.I k),(38,.own 38 b.length),(39,.I (b.length:Int)),(40,.I l),(63,.sl 1 (j.map Qb)),(64,.I (j.length:Int)),(65,.I st.1)],[(1,.var (Qe c)),(5,.var (Qf f)),(27,.arr 1 (a.map Qi)),(38,.arr 1 (b.map Qi)),(47,.arr 1 (st.2.map Qb)),(78,.arr 1 (g.map Qi))]⟩) (fun q e σ=>e=.exit 8∧σ=⟨[(1,.loc 1 0 0),(3,.own 78 g.length),(5,.loc 5 0 0),(7,.sl 1 (i.map Qb)),(10,.own 47 q.length),(16,.sl 14 (c.Tasks.map Qf)),(17,.I (c.Tasks.length:Int)),(18,.I w),(27,.own 27 a.length),(28,.I (a.length:Int)),(29,.I k),(38,.own 38 b.length),(39,.I (b.length:Int)),(40,.I l)],[(1,.var (Qe c)),(5,.var (Qf f)),(27,.arr 1 (a.map Qi)),(38,.arr 1 (b.map Qi)),(47,.arr 1 (q.map Qb)),(78,.arr 1 (g.map Qi))]⟩) Z rfl ?_ ?_
       ·rintro ⟨b4,b5⟩ o σ rfl h
        refine tg_ hC [.n 6] rfl ?_
        rcases Qt h with⟨u,h⟩|⟨u,h⟩
        ·obtain⟨a9,a0,h⟩:=Qd h
         obtain⟨b0,a1,h⟩:=Qd h
         obtain⟨E,a2,h⟩:=Qd h
         obtain⟨A,h⟩:=Qbs h
         refine Qa hC [.T,.n 6,.o (.row (Qb a9)),.n 9,.o (.row (QR b0)),.n 2,.cm (.fn) [(609,47)] [(47,609)] [] [.d,.d,.d] [(609,.arr 1 (E.map Qb))] (.tup []),.S 10 (.own 47 E.length),.S 69 (.own 47 E.length),.n 7,.K [1,3,5,7,10,16,17,18,27,28,29,38,39,40,63,64,65] [1,5,27,38,47,78]] rfl ⟨⟨⟨⟨⟨⟨tt_,u⟩,(QF a0)⟩,(QF a1)⟩,(QkN _ _ _ a2)⟩,(by simp [QX A])⟩,(by simp [QX A])⟩ ?_
         cases h
         exact QV rfl rfl
        refine Qa hC [.F,.n 2,.K [1,3,5,7,10,16,17,18,27,28,29,38,39,40] [1,5,27,38,47,78]] rfl ⟨tt_,u⟩ ?_
        cases h
        exact QW rfl (an_ rfl rfl)
       replace h:QeI g l t=some o:=h
       rintro e σ ⟨rfl,rfl⟩
       obtain⟨a3,h⟩:=Qbs h
       refine Qa hC [.n 5,.frz 47 (t.map Qb) [10,79] [],.v (.bd []) [] (.sl 1 (([t]:List (List Int)).map Qi)),.app ((g++([t]:List (List Int))).map Qi) (g++([t]:List (List Int))).length,.n 8,.K [1,3,5,7,16,17,18,27,28,29,38,39,40] [1,5,27,38,78]] rfl ⟨⟨⟨tt_,⟨⟨tt_,(Qfp Qj)⟩,(Qfp Qj)⟩⟩,rfl⟩,⟨Qj,Qjv a3 Qj,Qgz,Qkh Qj⟩⟩ ?_
       cases h
       exact QV rfl rfl
      refine Qa hC [.F,.n 2,.K [1,3,5,16,17,18,27,28,29] [1,5,27,78]] rfl ⟨tt_,p⟩ ?_
      cases h
      exact QW rfl (an_ rfl rfl)
     replace h:QeK k a5=some o:=h
     rintro e σ ⟨rfl,rfl⟩
     refine tg_ hC [.n 7,.K [1,3,5,16,17,18,27,28,29] [1,5,27,78]] rfl ?_
     cases h
     exact QV rfl rfl
    refine Qa hC [.F,.n 2,.K [1,3,16,17,18] [1,78]] rfl ⟨tt_,m⟩ ?_
    cases h
    exact QW rfl (an_ rfl rfl)
   replace h:QeL w a4=some o:=h
   rintro e σ ⟨rfl,rfl⟩
   refine tg_ hC [.n 7,.K [1,3,16,17,18] [1,78]] rfl ?_
   cases h
   exact QV rfl rfl
  refine Qa hC [.F,.n 2,.K [3] [78]] rfl ⟨tt_,B⟩ ?_
  cases h
  exact QW rfl (an_ rfl rfl)
 replace h:QjR l8=some r:=h
 rintro e σ ⟨rfl,rfl⟩
 refine tg_ hC [.n 9,.K [2] [78],.ren 78 600] rfl ?_
 cases h
 exact d1_ rfl rfl ⟨rfl,tt_⟩
def Qht (a:Int):Option Bool:=
 some (decide (4<(max2 a (w64 (0-a)))))
theorem Qnh (a){r}(h:Qht a=some r):Qc prog 84 [.I a] [] (Qh (.b r) []):=by
 refine Qc.walk 8 func84 rfl rfl rfl fun C hC=>?_
 refine tg_ hC [.n 16] rfl ?_
 cases h
 exact d1_ rfl rfl tt_
def Q6 (b:(List Int))(a:Int):Option (Int⊕(Int⊕Unit)):=
 bif (decide (a<(b.length:Int)))then
 (idx b a).bind fun c=>
 (Qht c).bind fun d=>
 bif d then
 some (.inr (.inl a))
 else
 some (.inl (w64 (a+1)))
 else
 some (.inr (.inr ()))
def QdP (a:Int):Option Int:=
 some a
def QdQ : Option Int:=
 some (-1)
def Qcz (a:(List Int)):Option Int:=
 (Qy (fun st=>Q6 a st) 0).bind (Sum.elim (fun q=>QdP q) (fun q=>QdQ))
theorem Qi1 (g){r}(h:Qcz g=some r):Qc prog 80 [.sl 1 (g.map Qb),.clo (.func 84) [] []] [] (Qh (.I r) []):=by
 refine Qc.walk 19 func80 rfl rfl rfl fun C hC=>?_
 refine Qa hC [.n 9,.o (.ln g.length),.n 4,.K [0,1,7,8] []] rfl ⟨tt_,Qj⟩ ?_
 obtain⟨j,i,h⟩:=Qd h
 refine AK.loop (body:=(fun st=>Q6 g st)) (fun st σ=>σ=⟨[(0,.sl 1 (g.map Qb)),(1,.clo (.func 84) [] []),(7,.I (g.length:Int)),(8,.I st)],[]⟩) (Sum.elim (fun q e σ=>e=.ret∧σ=⟨[(4,.I q)],[]⟩) (fun q e σ=>e=.exit 0∧σ=⟨[],[]⟩)) i rfl ?_ ?_
 ·rintro t o σ rfl h
  refine tg_ hC [.n 6] rfl ?_
  rcases Qt h with⟨f,h⟩|⟨f,h⟩
  ·obtain⟨m,k,h⟩:=Qd h
   obtain⟨p,l,h⟩:=Qd h
   refine Qa hC [.T,.n 15,.o (.row (Qb m)),.n 1,.o (.c false [.d] (.b p)),.n 2] rfl ⟨⟨⟨tt_,f⟩,(QF k)⟩,(Qnh _ l)⟩ ?_
   refine bg_ h (fun a h=>Qa hC [.T,.n 9,.K [4] []] rfl ⟨tt_,a⟩ ?_) fun a h=>Qa hC [.F,.n 7,.K [0,1,7,8] []] rfl ⟨tt_,a⟩ ?_
   ·cases h
    exact QaY rfl (an_ rfl rfl)
   cases h
   exact QV rfl rfl
  refine Qa hC [.F,.n 2,.K [] []] rfl ⟨tt_,f⟩ ?_
  cases h
  exact QW rfl (an_ rfl rfl)
 rcases j with(s | _)
 ·replace h:QdP s=some r:=h
  rintro e σ ⟨rfl,rfl⟩
  refine tg_ hC [.n 2] rfl ?_
  cases h
  exact d1_ rfl rfl tt_
 replace h:QdQ=some r:=h
 rintro e σ ⟨rfl,rfl⟩
 refine tg_ hC [.n 8] rfl ?_
 cases h
 exact d1_ rfl rfl tt_
def Qb3 (a:(List Int)):Option Bool:=
 (Qcz a).bind fun b=>
 some (decide (0≤b))
theorem QhO (c){r}(h:Qb3 c=some r):Qc prog 47 [.sl 1 (c.map Qb),.clo (.func 84) [] []] [] (Qh (.b r) []):=by
 refine Qc.walk 9 func47 rfl rfl rfl fun C hC=>?_
 obtain⟨e,a,h⟩:=Qd h
 refine Qa hC [.n 9,.cm (.fn) [] [] [] [.d,.d] [] (.I e),.n 5] rfl ⟨tt_,(Qi1 _ a)⟩ ?_
 cases h
 exact d1_ rfl rfl tt_
def QfS (a:(List Int)):Option Bool:=
 (Qb3 a).bind fun b=>
 some b
theorem QoD (c){r}(h:QfS c=some r):Qc prog 51 [.sl 1 (c.map Qb)] [] (Qh (.b r) []):=by
 refine Qc.walk 5 func51 rfl rfl rfl fun C hC=>?_
 obtain⟨e,a,h⟩:=Qd h
 refine Qa hC [.n 8,.cm (.fn) [] [] [] [.d,.d] [] (.b e),.n 4] rfl ⟨tt_,(QhO _ a)⟩ ?_
 cases h
 exact d1_ rfl rfl tt_
def Qaq (b:QLL)(a:Int):Option (Int⊕(Int⊕Unit)):=
 bif (decide (a<(b.length:Int)))then
 (idx b a).bind fun c=>
 (QfS c).bind fun d=>
 bif d then
 some (.inr (.inl a))
 else
 some (.inl (w64 (a+1)))
 else
 some (.inr (.inr ()))
def Qe0 (a:Int):Option Int:=
 some a
def Qe1 : Option Int:=
 some (-1)
def Qdr (a:QLL):Option Int:=
 (Qy (fun st=>Qaq a st) 0).bind (Sum.elim (fun q=>Qe0 q) (fun q=>Qe1))
theorem QjP (g){r}(h:Qdr g=some r):Qc prog 83 [.sl 1 (g.map Qi),.clo (.func 51) [] []] [] (Qh (.I r) []):=by
 refine Qc.walk 19 func83 rfl rfl rfl fun C hC=>?_
 refine Qa hC [.n 9,.o (.ln g.length),.n 4,.K [0,1,7,8] []] rfl ⟨tt_,Qj⟩ ?_
 obtain⟨j,i,h⟩:=Qd h
 refine AK.loop (body:=(fun st=>Qaq g st)) (fun st σ=>σ=⟨[(0,.sl 1 (g.map Qi)),(1,.clo (.func 51) [] []),(7,.I (g.length:Int)),(8,.I st)],[]⟩) (Sum.elim (fun q e σ=>e=.ret∧σ=⟨[(4,.I q)],[]⟩) (fun q e σ=>e=.exit 0∧σ=⟨[],[]⟩)) i rfl ?_ ?_
 ·rintro t o σ rfl h
  refine tg_ hC [.n 6] rfl ?_
  rcases Qt h with⟨f,h⟩|⟨f,h⟩
  ·obtain⟨m,k,h⟩:=Qd h
   obtain⟨p,l,h⟩:=Qd h
   refine Qa hC [.T,.n 15,.o (.row (Qi m)),.n 1,.o (.c false [.d] (.b p)),.n 2] rfl ⟨⟨⟨tt_,f⟩,(QF k)⟩,(QoD _ l)⟩ ?_
   refine bg_ h (fun a h=>Qa hC [.T,.n 9,.K [4] []] rfl ⟨tt_,a⟩ ?_) fun a h=>Qa hC [.F,.n 7,.K [0,1,7,8] []] rfl ⟨tt_,a⟩ ?_
   ·cases h
    exact QaY rfl (an_ rfl rfl)
   cases h
   exact QV rfl rfl
  refine Qa hC [.F,.n 2,.K [] []] rfl ⟨tt_,f⟩ ?_
  cases h
  exact QW rfl (an_ rfl rfl)
 rcases j with(s | _)
 ·replace h:Qe0 s=some r:=h
  rintro e σ ⟨rfl,rfl⟩
  refine tg_ hC [.n 2] rfl ?_
  cases h
  exact d1_ rfl rfl tt_
 replace h:Qe1=some r:=h
 rintro e σ ⟨rfl,rfl⟩
 refine tg_ hC [.n 8] rfl ?_
 cases h
 exact d1_ rfl rfl tt_
def Qbz (a:QLL):Option Bool:=
 (Qdr a).bind fun b=>
 some (decide (0≤b))
theorem Qi2 (c){r}(h:Qbz c=some r):Qc prog 48 [.sl 1 (c.map Qi),.clo (.func 51) [] []] [] (Qh (.b r) []):=by
 refine Qc.walk 9 func48 rfl rfl rfl fun C hC=>?_
 obtain⟨e,a,h⟩:=Qd h
 refine Qa hC [.n 9,.cm (.fn) [] [] [] [.d,.d] [] (.I e),.n 5] rfl ⟨tt_,(QjP _ a)⟩ ?_
 cases h
 exact d1_ rfl rfl tt_
def QbS (a:(List Int)):Option (List Int):=
 (chk (decide ((([]:List Int).length+a.length)*8≤140737488355328))).bind fun _=>
 some (([]:List Int)++a)
theorem QgR (a){r}(h:QbS a=some r):Qc prog 86 [.sl 1 (a.map Qb)] [] (Qh (.own 600 r.length) [(600,.arr 1 (r.map Qb))]):=by
 refine Qc.walk 8 func86 rfl rfl rfl fun C hC=>?_
 unfold QbS at h
 refine tg_ hC [.n 9] rfl ?_
 refine AK.eqNil rfl rfl rfl (QC hC.n rfl) rfl rfl Qu0 ?_ ?_
 ·intro b
  replace h:some ([]:List Int)=some r:=by simpa [chk,List.map_eq_nil_iff.1 b] using h
  refine Qa hC [.n 10,.adopt 2 600 1,.O 600 (.arr 1 (([]:List Int).map Qb)),.S 2 (.own 600 ([]:List Int).length)] rfl ⟨⟨tt_,rfl⟩,rfl⟩ ?_
  cases h
  exact d1_ rfl rfl ⟨rfl,tt_⟩
 obtain⟨c,h⟩:=Qbs h
 refine Qa hC [.n 8,.O 5 (.arr 1 (([]:List Int).map Qb)),.S 5 (.own 5 ([]:List Int).length),.n 1,.x (fun σ=>σ.app 5 1 7 (([]:List Int)++a).length ((([]:List Int)++a).map Qb)),.n 4,.K [2] [5],.ren 5 600] rfl ⟨⟨⟨tt_,rfl⟩,rfl⟩,(Stp.appSB (by_:=8) (zs:=[.I 0]) (e:=3) (e':=3) (z':=1) (by':=8) rfl rfl (QC hC.n rfl) rfl rfl rfl Qj (by kernel_rfl) (by kernel_rfl) (by kernel_rfl) rfl (by decide) (by decide) (QwA c Qj) rfl Qgz (Qkh Qj))⟩ ?_
 cases h
 exact d1_ rfl rfl ⟨rfl,tt_⟩
def Qfs (b:Int)(a:Int):Option ((Int×Int)⊕Int):=
 bif (a != 0)then
 (chk (a != 0)).bind fun _=>
 some (.inl (a,(Int.tmod b a)))
 else
 some (.inr b)
def QjX (a:Int):Option Int:=
 some (max2 a (w64 (0-a)))
def QgC (a:Int)(b:Int):Option Int:=
 (Qy (fun st=>Qfs st.1 st.2) (a,b)).bind (fun q=>QjX q)
theorem QjY (f g){r}(h:QgC f g=some r):Qc prog 89 [.I f,.I g] [] (Qh (.I r) []):=by
 refine Qc.walk 15 func89 rfl rfl rfl fun C hC=>?_
 refine tg_ hC [.n 7,.K [0,1] []] rfl ?_
 obtain⟨i,c,h⟩:=Qd h
 refine AK.loop (body:=(fun st=>Qfs st.1 st.2)) (fun st σ=>σ=⟨[(0,.I st.1),(1,.I st.2)],[]⟩) (fun q e σ=>e=.exit 0∧σ=⟨[(0,.I q)],[]⟩) c rfl ?_ ?_
 ·rintro ⟨j,k⟩ o σ rfl h
  refine tg_ hC [.n 7] rfl ?_
  rcases Qt h with⟨b,h⟩|⟨b,h⟩
  ·obtain⟨d,h⟩:=Qbs h
   refine Qa hC [.T,.n 3,.K [0,1] []] rfl ⟨tt_,b⟩ ?_
   refine AK.draw2 Qo hC mixed [.N,.a .no none true true,.a .no none true,.a .no none true,.m .s,.m .s] [1] [] [0,1] [] rfl rfl rfl ⟨tt_,(neZ d)⟩ rfl (by kernel_rfl) rfl rfl rfl ?_
   refine tg_ hC [.n 1,.K [0,1] []] rfl ?_
   cases h
   exact QV rfl rfl
  refine Qa hC [.F,.n 2,.K [0] []] rfl ⟨tt_,b⟩ ?_
  cases h
  exact QW rfl (an_ rfl rfl)
 replace h:QjX i=some r:=h
 rintro e σ ⟨rfl,rfl⟩
 refine tg_ hC [.n 12] rfl ?_
 cases h
 exact d1_ rfl rfl tt_
def Qiq (b:Int)(a:Int):Option Int:=
 (chk (a != 0)).bind fun _=>
 some (w64 (Int.tdiv b a))
theorem Qod (c a){r}(h:Qiq c a=some r):Qc prog 161 [.I c,.loc 609 0 0] [(609,.var (Qb a))] (Qh (.I r) [(609,.var (Qb a))]):=by
 refine Qc.walk 7 func161 rfl rfl rfl fun C hC=>?_
 obtain⟨b,h⟩:=Qbs h
 refine Qa hC [.n 14] rfl ⟨tt_,(neZ b)⟩ ?_
 cases h
 exact d1_ rfl rfl ⟨rfl,tt_⟩
def Qat (e:(List Int))(f:Int)(a:Int)(b:(List Int)):Option ((Int×(List Int))⊕(List Int)):=
 bif (decide (a<(e.length:Int)))then
 (idx e a).bind fun c=>
 (Qiq c f).bind fun d=>
 (idx b a).bind fun g=>
 some (.inl ((w64 (a+1)),(b.set a.toNat d)))
 else
 some (.inr b)
def QgS (a:(List Int)):Option (List Int):=
 some a
def QeX (a:(List Int))(b:Int):Option (List Int):=
 (chk (decide (0≤(a.length:Int))&&decide ((a.length:Int)≤(a.length:Int))&&decide ((a.length:Int)≤4294967296))).bind fun _=>
 (Qy (fun st=>Qat a b st.1 st.2) (0,(List.replicate (a.length:Int).toNat (0:Int)))).bind (fun q=>QgS q)
theorem Qlc (b f){r}(h:QeX b f=some r):Qc prog 160 [.sl 1 (b.map Qb),.clo (.func 161) [] [.loc 609 0 0]] [(609,.var (Qb f))] (Qh (.own 600 r.length) [(600,.arr 1 (r.map Qb)),(609,.var (Qb f))]):=by
 refine Qc.walk 26 func160 rfl rfl rfl fun C hC=>?_
 obtain⟨l,h⟩:=Qbs h
 refine Qa hC [.n 8,.o (.ln b.length),.o (.rows ((List.replicate (b.length:Int).toNat (0:Int)).map Qb)),.S 10 (.own 10 (List.replicate (b.length:Int).toNat (0:Int)).length),.n 7,.o (.ln b.length),.n 4,.K [1,5,11,12,13] [10,609]] rfl ⟨⟨⟨⟨tt_,Qj⟩,⟨l,Qlr rfl⟩⟩,(by simp)⟩,Qj⟩ ?_
 obtain⟨m,i,h⟩:=Qd h
 refine AK.loop (body:=(fun st=>Qat b f st.1 st.2)) (fun st σ=>σ=⟨[(1,.clo (.func 161) [] [.loc 609 0 0]),(5,.own 10 st.2.length),(11,.sl 1 (b.map Qb)),(12,.I (b.length:Int)),(13,.I st.1)],[(10,.arr 1 (st.2.map Qb)),(609,.var (Qb f))]⟩) (fun q e σ=>e=.exit 0∧σ=⟨[(5,.own 10 q.length)],[(10,.arr 1 (q.map Qb)),(609,.var (Qb f))]⟩) i rfl ?_ ?_
 ·rintro ⟨t,u⟩ o σ rfl h
  refine tg_ hC [.n 6] rfl ?_
  rcases Qt h with⟨a,h⟩|⟨a,h⟩
  ·obtain⟨p,j,h⟩:=Qd h
   obtain⟨g,k,h⟩:=Qd h
   obtain⟨s,c,h⟩:=Qd h
   refine Qa hC [.T,.n 7,.o (.row (Qb p)),.n 10,.cm (.clo) [(609,609)] [(609,609)] [] [.d,.d] [(609,.var (Qb f))] (.I g),.n 1,.st (Qb s) ((u.set t.toNat g).map Qb),.n 7,.S 5 (.own 10 (u.set t.toNat g).length),.K [1,5,11,12,13] [10,609]] rfl ⟨⟨⟨⟨⟨⟨tt_,a⟩,(QF j)⟩,(Qod _ _ k)⟩,(QbQ c rfl)⟩,⟨(Qa2 (Qck c).2),Qix rfl⟩⟩,(congrArg (fun n=>V.own 10 n) (by simp))⟩ ?_
   cases h
   exact QV rfl rfl
  refine Qa hC [.F,.n 2,.K [5] [10,609]] rfl ⟨tt_,a⟩ ?_
  cases h
  exact QW rfl (an_ rfl rfl)
 replace h:QgS m=some r:=h
 rintro e σ ⟨rfl,rfl⟩
 refine tg_ hC [.n 9,.K [4] [10,609],.ren 10 600] rfl ?_
 cases h
 exact d1_ rfl rfl ⟨rfl,rfl,tt_⟩
def QbD (a:(List Int))(b:Int)(e:Int):Option ((Int×Int)⊕Int):=
 bif (decide (b<(a.length:Int)))then
 (idx a b).bind fun c=>
 (QgC e c).bind fun d=>
 some (.inl ((w64 (b+1)),d))
 else
 some (.inr e)
def Qhu (a:(List Int))(c:Int):Option (List Int):=
 bif (c==0)then
 some a
 else
 (QeX a c).bind fun b=>
 some b
def Qdd (a:(List Int)):Option (List Int):=
 (Qy (fun st=>QbD a st.1 st.2) (0,0)).bind (fun q=>Qhu a q)
theorem Qhv (a){r}(h:Qdd a=some r):Qc prog 85 [.sl 1 (a.map Qb)] [] (Qh (.sl 1 (r.map Qb)) []):=by
 refine Qc.walk 22 func85 rfl rfl rfl fun C hC=>?_
 refine Qa hC [.n 9,.O 3 (.var (Qb 0)),.n 6,.o (.ln a.length),.n 4,.K [0,3,6,7,8] [3]] rfl ⟨⟨tt_,rfl⟩,Qj⟩ ?_
 obtain⟨s,i,h⟩:=Qd h
 refine AK.loop (body:=(fun st=>QbD a st.1 st.2)) (fun st σ=>σ=⟨[(0,.sl 1 (a.map Qb)),(3,.loc 3 0 0),(6,.sl 1 (a.map Qb)),(7,.I (a.length:Int)),(8,.I st.1)],[(3,.var (Qb st.2))]⟩) (fun q e σ=>e=.exit 0∧σ=⟨[(0,.sl 1 (a.map Qb)),(3,.loc 3 0 0)],[(3,.var (Qb q))]⟩) i rfl ?_ ?_
 ·rintro ⟨t,u⟩ o σ rfl h
  refine tg_ hC [.n 6] rfl ?_
  rcases Qt h with⟨b,h⟩|⟨b,h⟩
  ·obtain⟨p,j,h⟩:=Qd h
   obtain⟨k,l,h⟩:=Qd h
   refine Qa hC [.T,.n 6,.o (.row (Qb p)),.n 7,.o (.c false [.d,.d] (.I k)),.n 1,.O 3 (.var (Qb k)),.n 7,.K [0,3,6,7,8] [3]] rfl ⟨⟨⟨⟨tt_,b⟩,(QF j)⟩,(QjY _ _ l)⟩,rfl⟩ ?_
   cases h
   exact QV rfl rfl
  refine Qa hC [.F,.n 2,.K [0,3] [3]] rfl ⟨tt_,b⟩ ?_
  cases h
  exact QW rfl (an_ rfl rfl)
 replace h:Qhu a s=some r:=h
 rintro e σ ⟨rfl,rfl⟩
 refine tg_ hC [.n 9] rfl ?_
 rcases Qt h with⟨f,h⟩|⟨f,h⟩
 ·refine Qa hC [.T,.n 8] rfl ⟨tt_,f⟩ ?_
  cases h
  exact d1_ rfl rfl tt_
 obtain⟨g,m,h⟩:=Qd h
 refine Qa hC [.F,.n 6,.cm (.fn) [(609,3)] [(21,600),(3,609)] [] [.d,.d] [(600,.arr 1 (g.map Qb)),(609,.var (Qb s))] (.own 600 g.length),.n 4,.frz 21 (g.map Qb) [2] []] rfl ⟨⟨⟨tt_,f⟩,(Qlc _ _ m)⟩,⟨tt_,(Qfp Qj)⟩⟩ ?_
 cases h
 exact d1_ rfl rfl tt_
def QaM (i:Int)(c:(List Int))(by_3:(List Int))(a:Int)(b:Int)(d:(List Int)):Option ((Int×(List Int))⊕(List Int)):=
 bif (decide (b<((List.replicate i.toNat (0:Int)).length:Int)))then
 (idx c b).bind fun e=>
 (idx by_3 a).bind fun f=>
 (idx by_3 b).bind fun g=>
 (idx c a).bind fun h=>
 (idx d b).bind fun j=>
 some (.inl ((w64 (b+1)),(d.set b.toNat (w64 ((w64 (e*f))-(w64 (g*h)))))))
 else
 some (.inr d)
def Qev (a:(List Int)):Option (List Int):=
 (Qdd a).bind fun b=>
 some b
def Q1 (c:Int)(b:(List Int))(by_3:(List Int))(a:Int):Option (List Int):=
 (idx b a).bind fun d=>
 bif (d==0)then
 some b
 else
 (chk (decide (0≤c)&&decide (c≤c)&&decide (c≤4294967296))).bind fun _=>
 (Qy (fun st=>QaM c b by_3 a st.1 st.2) (0,(List.replicate c.toNat (0:Int)))).bind (fun q=>Qev q)
theorem QcC (t f by_3 b){r}(h:Q1 t f by_3 b=some r):Qc prog 87 [.agg [.I t,.J],.sl 1 (f.map Qb),.sl 1 (by_3.map Qb),.I b] [] (Qh (.sl 1 (r.map Qb)) []):=by
 refine Qc.walk 50 func87 rfl rfl rfl fun C hC=>?_
 obtain⟨L,E,h⟩:=Qd h
 refine Qa hC [.n 11,.o (.row (Qb L)),.n 4] rfl ⟨tt_,(QF E)⟩ ?_
 rcases Qt h with⟨j,h⟩|⟨j,h⟩
 ·refine Qa hC [.T,.n 8] rfl ⟨tt_,j⟩ ?_
  cases h
  exact d1_ rfl rfl tt_
 obtain⟨G,h⟩:=Qbs h
 refine Qa hC [.F,.n 6,.o (.rows ((List.replicate t.toNat (0:Int)).map Qb)),.S 19 (.own 19 (List.replicate t.toNat (0:Int)).length),.n 12,.K [1,2,3,9,21,22] [19]] rfl ⟨⟨⟨tt_,j⟩,⟨G,Qlr rfl⟩⟩,(by simp)⟩ ?_
 obtain⟨u,v,h⟩:=Qd h
 refine AK.loop (body:=(fun st=>QaM t f by_3 b st.1 st.2)) (fun st σ=>σ=⟨[(1,.sl 1 (f.map Qb)),(2,.sl 1 (by_3.map Qb)),(3,.I b),(9,.own 19 st.2.length),(21,.I ((List.replicate t.toNat (0:Int)).length:Int)),(22,.I st.1)],[(19,.arr 1 (st.2.map Qb))]⟩) (fun q e σ=>e=.exit 0∧σ=⟨[(9,.own 19 q.length)],[(19,.arr 1 (q.map Qb))]⟩) v rfl ?_ ?_
 ·rintro ⟨w,x⟩ o σ rfl h
  refine tg_ hC [.n 6] rfl ?_
  rcases Qt h with⟨g,h⟩|⟨g,h⟩
  ·obtain⟨k,y,h⟩:=Qd h
   obtain⟨l,z,h⟩:=Qd h
   obtain⟨p,A,h⟩:=Qd h
   obtain⟨s,B,h⟩:=Qd h
   obtain⟨H,i,h⟩:=Qd h
   refine Qa hC [.T,.n 10,.K [1,2,3,9,10,21,22] [19]] rfl ⟨tt_,g⟩ ?_
   refine AK.draw2 Qo hC mixed [.N,.N,.N,.N,.a (.row (Qb k)) none false,.N,.N,.N,.a (.row (Qb l)) none false,.N,.N,.N,.N,.a (.row (Qb p)) none false,.N,.N,.N,.a (.row (Qb s)) none false,.N,.N,.N,.N,.m (.st (Qb H) ((x.set w.toNat (w64 ((w64 (k*l))-(w64 (p*s))))).map Qb))] [] [] [1,2,3,9,21,22] [19] rfl rfl rfl ⟨⟨⟨⟨⟨⟨tt_,(QF y)⟩,(QF z)⟩,(QF A)⟩,(QF B)⟩,(QbQ i rfl)⟩,⟨(Qa2 (Qck i).2),Qix rfl⟩⟩ rfl (by kernel_rfl) rfl rfl rfl ?_
   refine Qa hC [.n 6,.S 9 (.own 19 (x.set w.toNat (w64 ((w64 (k*l))-(w64 (p*s))))).length),.K [1,2,3,9,21,22] [19]] rfl ⟨tt_,(congrArg (fun n=>V.own 19 n) (by simp))⟩ ?_
   cases h
   exact QV rfl rfl
  refine Qa hC [.F,.n 2,.K [9] [19]] rfl ⟨tt_,g⟩ ?_
  cases h
  exact QW rfl (an_ rfl rfl)
 replace h:Qev u=some r:=h
 rintro e σ ⟨rfl,rfl⟩
 obtain⟨J,D,h⟩:=Qd h
 refine Qa hC [.n 5,.frz 19 (u.map Qb) [9,48] [],.o (.c false [.d] (.sl 1 (J.map Qb))),.n 4] rfl ⟨⟨tt_,⟨⟨tt_,(Qfp Qj)⟩,(Qfp Qj)⟩⟩,(Qhv _ D)⟩ ?_
 cases h
 exact d1_ rfl rfl tt_
def QfT (a:Int):Option Bool:=
 some (a != 0)
theorem Ql6 (a){r}(h:QfT a=some r):Qc prog 88 [.I a] [] (Qh (.b r) []):=by
 refine Qc.walk 5 func88 rfl rfl rfl fun C hC=>?_
 refine tg_ hC [.n 13] rfl ?_
 cases h
 exact d1_ rfl rfl tt_
def QY (b:(List Int))(a:Int):Option (Int⊕(Int⊕Unit)):=
 bif (decide (a<(b.length:Int)))then
 (idx b a).bind fun c=>
 (QfT c).bind fun d=>
 bif d then
 some (.inr (.inl a))
 else
 some (.inl (w64 (a+1)))
 else
 some (.inr (.inr ()))
def QdR (a:Int):Option Int:=
 some a
def QdS : Option Int:=
 some (-1)
def QaX (a:(List Int)):Option Int:=
 (Qy (fun st=>QY a st) 0).bind (Sum.elim (fun q=>QdR q) (fun q=>QdS))
theorem QdT (g){r}(h:QaX g=some r):Qc prog 80 [.sl 1 (g.map Qb),.clo (.func 88) [] []] [] (Qh (.I r) []):=by
 refine Qc.walk 19 func80 rfl rfl rfl fun C hC=>?_
 refine Qa hC [.n 9,.o (.ln g.length),.n 4,.K [0,1,7,8] []] rfl ⟨tt_,Qj⟩ ?_
 obtain⟨j,i,h⟩:=Qd h
 refine AK.loop (body:=(fun st=>QY g st)) (fun st σ=>σ=⟨[(0,.sl 1 (g.map Qb)),(1,.clo (.func 88) [] []),(7,.I (g.length:Int)),(8,.I st)],[]⟩) (Sum.elim (fun q e σ=>e=.ret∧σ=⟨[(4,.I q)],[]⟩) (fun q e σ=>e=.exit 0∧σ=⟨[],[]⟩)) i rfl ?_ ?_
 ·rintro t o σ rfl h
  refine tg_ hC [.n 6] rfl ?_
  rcases Qt h with⟨f,h⟩|⟨f,h⟩
  ·obtain⟨m,k,h⟩:=Qd h
   obtain⟨p,l,h⟩:=Qd h
   refine Qa hC [.T,.n 15,.o (.row (Qb m)),.n 1,.o (.c false [.d] (.b p)),.n 2] rfl ⟨⟨⟨tt_,f⟩,(QF k)⟩,(Ql6 _ l)⟩ ?_
   refine bg_ h (fun a h=>Qa hC [.T,.n 9,.K [4] []] rfl ⟨tt_,a⟩ ?_) fun a h=>Qa hC [.F,.n 7,.K [0,1,7,8] []] rfl ⟨tt_,a⟩ ?_
   ·cases h
    exact QaY rfl (an_ rfl rfl)
   cases h
   exact QV rfl rfl
  refine Qa hC [.F,.n 2,.K [] []] rfl ⟨tt_,f⟩ ?_
  cases h
  exact QW rfl (an_ rfl rfl)
 rcases j with(s | _)
 ·replace h:QdR s=some r:=h
  rintro e σ ⟨rfl,rfl⟩
  refine tg_ hC [.n 2] rfl ?_
  cases h
  exact d1_ rfl rfl tt_
 replace h:QdS=some r:=h
 rintro e σ ⟨rfl,rfl⟩
 refine tg_ hC [.n 8] rfl ?_
 cases h
 exact d1_ rfl rfl tt_
noncomputable def QaG (s1:Int)(row10:(List Int))(k12:Int)(v13:(List Int)):Option ((List Int)⊕Empty):=
 (Q1 s1 row10 v13 k12).bind fun x14=>
 some (.inl x14)
noncomputable def Qag (s1:Int)(row10:(List Int))(x16:Int)(m20:(List (Int×(List Int))))(k22:Int)(v23:(List Int)):Option ((List (Int×(List Int)))⊕Empty):=
 (Q1 s1 v23 row10 x16).bind fun x24=>
 some (.inl (QbR ltI m20 k22 x24))
def Qft (b:Int)(a:(List Int))(c:(List (Int×(List Int)))):Option (List (Int×(List Int))):=
 some (QbR ltI c b a)
noncomputable def Qde (m2:(List (Int×(List Int))))(s1:Int)(row10:(List Int)):Option (List (Int×(List Int))):=
 (QaX row10).bind fun x16=>
 bif (decide (x16<0))then
 some m2
 else
 (Qdw (fun st p=>Qag s1 row10 x16 st p.1 p.2) m2 m2).bind (Sum.elim (fun q=>Qft x16 row10 q) (fun q=>Empty.elim q))
noncomputable def Qc7 (s1:Int)(m2:(List (Int×(List Int))))(row3:(List Int)):Option (List (Int×(List Int))):=
 (QbS row3).bind fun x6=>
 (Qdd x6).bind fun x7=>
 (Qdw (fun st p=>QaG s1 st p.1 p.2) x7 m2).bind (Sum.elim (fun q=>Qde m2 s1 q) (fun q=>Empty.elim q))
theorem Qni (u P E){r}(h:Qc7 u P E=some r):Qc prog 52 [.agg [.I u,.map 609],.sl 1 (E.map Qb)] [(609,.map (QK V.I (fun x=>V.sl 1 (x.map Qb)) P))] (Qh (.tup []) [(609,.map (QK V.I (fun x=>V.sl 1 (x.map Qb)) r))]):=by
 refine Qc.walk 49 func52 rfl rfl rfl fun C hC=>?_
 obtain⟨x6,a3,h⟩:=Qd h
 obtain⟨x7,a4,h⟩:=Qd h
 refine Qa hC [.n 8,.o (.co false [.d] 1 (x6.map Qb) x6.length),.frz 10 (x6.map Qb) [10] [],.o (.c false [.d] (.sl 1 (x7.map Qb))),.n 8] rfl ⟨⟨⟨tt_,⟨(QgR _ a3),Qj,.inl rfl⟩⟩,⟨tt_,(Qfp Qj)⟩⟩,(Qhv _ a4)⟩ ?_
 refine AK.openMapK (b:=609) Qjz rfl fun B D L8 S a8 U=>?_
 refine Qa hC [.x (fun σ=>(σ.set 14 (.itr B D #[] none)).put 14 (.loc 14 0 0)),.n 3,.K [1,2,14] [2,14,609]] rfl ⟨tt_,(Stp.range (b:=609) rfl rfl (QC hC.n rfl) rfl rfl QiM rfl)⟩ ?_
 obtain⟨a5,W,h⟩:=Qd h
 refine AK.range (body:=(fun st p=>QaG u st p.1 p.2)) (fun st seen σ=>∃cur:Option Nat,σ=⟨[(1,.sl 1 (st.map Qb)),(2,.loc 2 0 0),(14,.loc 14 0 0)],[(2,.var [.I u,.map 609]),(14,.itr B D seen cur),(609,.mapX B D (Qbi V.I (fun x=>V.sl 1 (x.map Qb)) L8) (QK V.I (fun x=>V.sl 1 (x.map Qb)) P))]⟩) (fun (q:Empty) _ _=>False) (fun st e σ=>e=.exit 0∧σ=⟨[(1,.sl 1 (st.map Qb)),(2,.loc 2 0 0)],[(2,.var [.I u,.map 609]),(609,.mapX B D (Qbi V.I (fun x=>V.sl 1 (x.map Qb)) L8) (QK V.I (fun x=>V.sl 1 (x.map Qb)) P))]⟩) S U W (ex_ _ rfl) ?_ ?_
 ·rintro g seen σ ⟨cur,rfl⟩ hex
  refine tg_ hC [.n 2] rfl ?_
  refine AK.nextT (b:=14) (m:=609) rfl rfl rfl (QC hC.n rfl) rfl rfl rfl rfl ?_ ?_
  ·intro hleft
   refine tg_ hC [.n 7,.K [1,2] [2,609]] rfl ?_
   exact AK.done (Or.inl (an_ hleft (an_ (fun h=>(by cases h)) (an_ rfl rfl))))
  intro a9 X Y G
  obtain⟨o,h⟩:=hex _ G
  have ho:=h
  replace h:QaG u g X Y=some o:=h
  obtain⟨a6,Z,h⟩:=Qd h
  refine Qa hC [.n 10,.x (fun σ=>σ.put 17 (.tup [.I X,.sl 1 (Y.map Qb)])),.n 11,.cm (.fn) [] [] [] [.f 1,.d,.d,.d] [] (.sl 1 (a6.map Qb)),.n 3,.K [1,2,14] [2,14,609]] rfl ⟨⟨tt_,(Stp.entryT (b:=14) (m:=609) (e:=V.I) (f:=(fun x=>V.sl 1 (x.map Qb))) rfl rfl (QC hC.n rfl) rfl G rfl rfl)⟩,(QcC _ _ _ _ Z)⟩ ?_
  cases h
  exact AK.done (Or.inr (ex_ _ (an_ G (Or.inl (ex_ _ (an_ ho (an_ rfl (ex_ _ rfl))))))))
 rcases a5 with(g | q)
 ·replace h:Qde P u g=some r:=h
  rintro e σ ⟨rfl,rfl⟩
  obtain⟨i,a0,h⟩:=Qd h
  refine Qa hC [.n 5,.cm (.fn) [] [] [] [.d,.d] [] (.I i),.n 10] rfl ⟨tt_,(QdT _ a0)⟩ ?_
  refine bg_ h (fun w h=>Qa hC [.T,.n 2] rfl ⟨tt_,w⟩ ?_) fun w h=>Qa hC [.F,.n 7] rfl ⟨tt_,w⟩ ?_
  ·refine AK.closeMap (b:=609) rfl ?_
   refine tg_ hC [.K [] [609]] rfl ?_
   cases h
   refine AK.done ?_
   exact ex_ [] (an_ tt_ (QbM ⟨rfl,tt_⟩))
  refine AK.closeMap (b:=609) rfl ?_
  refine AK.openMapK (b:=609) Qjz rfl fun s t L18 H J M=>?_
  refine Qa hC [.x (fun σ=>(σ.set 31 (.itr s t #[] none)).put 31 (.loc 31 0 0)),.n 3,.K [1,2,6,31] [2,31,609]] rfl ⟨tt_,(Stp.range (b:=609) rfl rfl (QC hC.n rfl) rfl rfl QiM rfl)⟩ ?_
  obtain⟨a7,a1,h⟩:=Qd h
  refine AK.range (body:=(fun st p=>Qag u g i st p.1 p.2)) (fun st seen σ=>∃(cur:Option Nat) (LU19:List (Nat×(Int×(List Int)))),Qdb L18 LU19 seen∧σ=⟨[(1,.sl 1 (g.map Qb)),(2,.loc 2 0 0),(6,.I i),(31,.loc 31 0 0)],[(2,.var [.I u,.map 609]),(31,.itr s t seen cur),(609,.mapX s t (Qbi V.I (fun x=>V.sl 1 (x.map Qb)) LU19) (QK V.I (fun x=>V.sl 1 (x.map Qb)) st))]⟩) (fun (q:Empty) _ _=>False) (fun st e σ=>e=.exit 2∧σ=⟨[(1,.sl 1 (g.map Qb)),(2,.loc 2 0 0),(6,.I i)],[(2,.var [.I u,.map 609]),(609,.map (QK V.I (fun x=>V.sl 1 (x.map Qb)) st))]⟩) H M a1 (ex_ _ (ex_ _ (an_ Qdb.refl rfl))) ?_ ?_
  ·rintro j seen σ ⟨cur,LU19,hU19,rfl⟩ hex
   refine tg_ hC [.n 2] rfl ?_
   refine AK.nextT (b:=31) (m:=609) rfl rfl rfl (QC hC.n rfl) rfl rfl rfl rfl ?_ ?_
   ·intro hleft
    replace hleft:=hU19.nil hleft
    refine AK.closeMap (b:=609) rfl ?_
    refine tg_ hC [.n 7,.K [1,2,6] [2,609]] rfl ?_
    exact AK.done (Or.inl (an_ hleft (an_ (fun h=>(by cases h)) (an_ rfl rfl))))
   intro b0 y O hq19z
   have z:=hU19.mem2 hq19z
   obtain⟨o,h⟩:=hex _ z
   have ho:=h
   replace h:Qag u g i j y O=some o:=h
   obtain⟨A,a2,h⟩:=Qd h
   refine Qa hC [.n 10,.x (fun σ=>σ.put 34 (.tup [.I y,.sl 1 (O.map Qb)])),.n 6,.K [1,2,6,7,8,31] [2,31,609]] rfl ⟨tt_,(Stp.entryT (b:=31) (m:=609) (e:=V.I) (f:=(fun x=>V.sl 1 (x.map Qb))) rfl rfl (QC hC.n rfl) rfl hq19z rfl rfl)⟩ ?_
   refine AK.draw2 Qo hC mixed [.N,.N,.N,.N,.N,.N,.N,.a (.any (.sl 1 (A.map Qb)) none) none false,.m (.any ⟨[],[(609,.mapX s t (Qbi V.I (fun x=>V.sl 1 (x.map Qb)) (QjV LU19 y A)) (QK V.I (fun x=>V.sl 1 (x.map Qb)) (QbR ltI j y A)))],none⟩)] [] [] [1,2,6,31] [2,31,609] rfl rfl rfl ⟨⟨tt_,(fun σ h1 h2 _=>Stp.callSame (md:=.cm (.fn) [] [] [] [.f 1,.d,.d,.d] [] (.sl 1 (A.map Qb)) []) Qo hC h1 h2 rfl ⟨tt_,(QcC _ _ _ _ a2)⟩)⟩,(fun σ h1 h2=>Stp.mapUpdateX (e:=V.I) (f:=(fun x=>V.sl 1 (x.map Qb))) (L:=LU19) (l:=j) (k:=y) (v:=A) (v0:=O) ltI rfl rfl (h1 _ _ rfl) (h2 _ _ rfl) (h1 _ _ rfl) (h1 _ _ rfl) QiM Qjz rfl (Qmm.1 hq19z).1)⟩ rfl (by kernel_rfl) rfl rfl rfl ?_
   refine tg_ hC [.n 1,.K [1,2,6,31] [2,31,609]] rfl ?_
   cases h
   exact AK.done (Or.inr (ex_ _ (an_ z (Or.inl (ex_ _ (an_ ho (an_ rfl (ex_ _ (ex_ _ (an_ (Qdb.upd J hU19 z) rfl))))))))))
  rcases a7 with(j | q)
  ·replace h:Qft i g j=some r:=h
   rintro e σ ⟨rfl,rfl⟩
   refine Qa hC [.n 7,.x (fun σ=>σ.set 609 (.map (QK V.I (fun x=>V.sl 1 (x.map Qb)) (QbR ltI j i g)))),.n 1,.K [] [609]] rfl ⟨tt_,(Stp.mapUpdate (e:=V.I) (f:=(fun x=>V.sl 1 (x.map Qb))) (l:=j) (k:=i) (v:=g) ltI rfl rfl rfl rfl rfl rfl QiM Qjz rfl)⟩ ?_
   cases h
   refine AK.done ?_
   exact ex_ [] (an_ tt_ (QbM ⟨rfl,tt_⟩))
  exact q.elim
 exact q.elim
def Qdy (a:Int)(b:Qm):Option Bool:=
 some ((decide (a<0))||(decide ((b.Places.length:Int)≤a)))
theorem QjA (c d){r}(h:Qdy c d=some r):Qc prog 42 [.I c,.loc 609 0 0] [(609,.var (Qe d))] (Qh (.b r) [(609,.var (Qe d))]):=by
 refine Qc.walk 13 func42 rfl rfl rfl fun C hC=>?_
 refine tg_ hC [.n 6] rfl ?_
 refine AK.meetX (fun σ=>σ=⟨[(3,.b ((decide (c<0))||(decide ((d.Places.length:Int)≤c))))],[(609,.var (Qe d))]⟩) ?_ ?_
 ·refine tg_ hC [.n 4] rfl ?_
  rcases QS (decide (c<0))with a | a
  ·refine Qa hC [.S 6 (.b true),.n 8,.S 3 (.b ((decide (c<0))||(decide ((d.Places.length:Int)≤c)))),.K [3] [609]] rfl ⟨(tc_ a),(congrArg V.b (orT a rfl))⟩ ?_
   exact AK.met rfl
  refine Qa hC [.S 6 (.b false),.n 3,.o (.ln d.Places.length),.n 4,.S 3 (.b ((decide (c<0))||(decide ((d.Places.length:Int)≤c)))),.K [3] [609]] rfl ⟨⟨(tc_ a),Qj⟩,(congrArg V.b (orF a rfl))⟩ ?_
  exact AK.met rfl
 rintro σ rfl
 refine tg_ hC [.n 2] rfl ?_
 cases h
 exact d1_ rfl rfl ⟨rfl,tt_⟩
def Q7 (c:(List Int))(d:Qm)(a:Int):Option (Int⊕(Int⊕Unit)):=
 bif (decide (a<(c.length:Int)))then
 (idx c a).bind fun e=>
 (Qdy e d).bind fun b=>
 bif b then
 some (.inr (.inl a))
 else
 some (.inl (w64 (a+1)))
 else
 some (.inr (.inr ()))
def QdU (a:Int):Option Int:=
 some a
def QdV : Option Int:=
 some (-1)
def QbA (a:(List Int))(b:Qm):Option Int:=
 (Qy (fun st=>Q7 a b st) 0).bind (Sum.elim (fun q=>QdU q) (fun q=>QdV))
theorem Qi3 (c f){r}(h:QbA c f=some r):Qc prog 80 [.own 609 c.length,.clo (.func 42) [] [.loc 610 0 0]] [(609,.arr 1 (c.map Qb)),(610,.var (Qe f))] (Qh (.I r) [(609,.arr 1 (c.map Qb)),(610,.var (Qe f))]):=by
 refine Qc.walk 19 func80 rfl rfl rfl fun C hC=>?_
 refine tg_ hC [.n 14,.K [0,1,7,8] [609,610]] rfl ?_
 obtain⟨l,i,h⟩:=Qd h
 refine AK.loop (body:=(fun st=>Q7 c f st)) (fun st σ=>σ=⟨[(0,.own 609 c.length),(1,.clo (.func 42) [] [.loc 610 0 0]),(7,.I (c.length:Int)),(8,.I st)],[(609,.arr 1 (c.map Qb)),(610,.var (Qe f))]⟩) (Sum.elim (fun q e σ=>e=.ret∧σ=⟨[(4,.I q)],[(609,.arr 1 (c.map Qb)),(610,.var (Qe f))]⟩) (fun q e σ=>e=.exit 0∧σ=⟨[],[(609,.arr 1 (c.map Qb)),(610,.var (Qe f))]⟩)) i rfl ?_ ?_
 ·rintro t o σ rfl h
  refine tg_ hC [.n 6] rfl ?_
  rcases Qt h with⟨g,h⟩|⟨g,h⟩
  ·obtain⟨p,j,h⟩:=Qd h
   obtain⟨m,k,h⟩:=Qd h
   refine Qa hC [.T,.n 16,.o (.row (Qb p)),.cm (.clo) [(609,610)] [(610,609)] [] [.d,.d] [(609,.var (Qe f))] (.b m),.n 2] rfl ⟨⟨⟨⟨tt_,g⟩,(QbQ j rfl)⟩,(Qa2 (Qck j).2)⟩,(QjA _ _ k)⟩ ?_
   refine bg_ h (fun a h=>Qa hC [.T,.n 9,.K [4] [609,610]] rfl ⟨tt_,a⟩ ?_) fun a h=>Qa hC [.F,.n 7,.K [0,1,7,8] [609,610]] rfl ⟨tt_,a⟩ ?_
   ·cases h
    exact QaY rfl (an_ rfl rfl)
   cases h
   exact QV rfl rfl
  refine Qa hC [.F,.n 2,.K [] [609,610]] rfl ⟨tt_,g⟩ ?_
  cases h
  exact QW rfl (an_ rfl rfl)
 rcases l with(s | _)
 ·replace h:QdU s=some r:=h
  rintro e σ ⟨rfl,rfl⟩
  refine tg_ hC [.n 2] rfl ?_
  cases h
  exact d1_ rfl rfl ⟨rfl,rfl,tt_⟩
 replace h:QdV=some r:=h
 rintro e σ ⟨rfl,rfl⟩
 refine tg_ hC [.n 8] rfl ?_
 cases h
 exact d1_ rfl rfl ⟨rfl,rfl,tt_⟩
def QbT (a:Int)(b:Int)(c:(List Int)):Option ((Int×Int×(List Int))⊕(Int×(List Int))):=
 some (.inl (b,(w64 (a+1)),c))
def Qa8 (f:Qm)(c:Int)(b:Int)(a:(List Int)):Option ((Int×Int×(List Int))⊕(Int×(List Int))):=
 bif (decide (b<(a.length:Int)))then
 (idx a b).bind fun d=>
 (Qdy d f).bind fun e=>
 bif (!e)then
 (idx a c).bind fun g=>
 QbT b (w64 (c+1)) (a.set c.toNat d)
 else
 QbT b c a
 else
 some (.inr (c,a))
def Qa9 (a:Int)(b:(List Int)):Option (List Int):=
 (chk (decide (0≤a)&&decide (a.toNat≤b.length))).bind fun _=>
 (chk (decide (0≤a)&&decide (a.toNat≤(b.take a.toNat++List.replicate (b.length-a.toNat) (0:Int)).length))).bind fun _=>
 some ((b.take a.toNat++List.replicate (b.length-a.toNat) (0:Int)).take a.toNat)
def Qbv (a:(List Int))(c:Qm):Option (List Int):=
 (QbA a c).bind fun b=>
 bif (b==(-1))then
 some a
 else
 (Qy (fun st=>Qa8 c st.1 st.2.1 st.2.2) (b,(w64 (b+1)),a)).bind (fun q=>Qa9 q.1 q.2)
theorem QiB (D m){r}(h:Qbv D m=some r):Qc prog 41 [.own 609 D.length,.clo (.func 42) [] [.loc 610 0 0]] [(609,.arr 1 (D.map Qb)),(610,.var (Qe m))] (Qh (.own 609 r.length) [(609,.arr 1 (r.map Qb)),(610,.var (Qe m))]):=by
 refine Qc.walk 42 func41 rfl rfl rfl fun C hC=>?_
 obtain⟨N,E,h⟩:=Qd h
 refine Qa hC [.n 9,.cm (.fn) [(609,609),(610,610)] [(609,609),(610,610)] [] [.d,.d] [(609,.arr 1 (D.map Qb)),(610,.var (Qe m))] (.I N),.n 10] rfl ⟨tt_,(Qi3 _ _ E)⟩ ?_
 refine bg_ h (fun u h=>Qa hC [.T,.n 8,.K [4] [609,610]] rfl ⟨tt_,u⟩ ?_) fun u h=>Qa hC [.F,.n 11,.K [0,1,5,6] [609,610]] rfl ⟨tt_,u⟩ ?_
 ·cases h
  exact d1_ rfl rfl ⟨rfl,rfl,tt_⟩
 obtain⟨G,y,h⟩:=Qd h
 refine AK.loop (body:=(fun st=>Qa8 m st.1 st.2.1 st.2.2)) (fun st σ=>σ=⟨[(0,.own 609 st.2.2.length),(1,.clo (.func 42) [] [.loc 610 0 0]),(5,.I st.1),(6,.I st.2.1)],[(609,.arr 1 (st.2.2.map Qb)),(610,.var (Qe m))]⟩) (fun q e σ=>e=.exit 0∧σ=⟨[(0,.own 609 q.2.length),(5,.I q.1)],[(609,.arr 1 (q.2.map Qb)),(610,.var (Qe m))]⟩) y rfl ?_ ?_
 ·rintro ⟨L,z,A⟩ o σ rfl h
  refine tg_ hC [.n 9] rfl ?_
  refine bg_ h (fun j h=>Qa hC [.T,.n 2] rfl ⟨tt_,j⟩ ?_) fun j h=>Qa hC [.F,.n 2,.K [0,5] [609,610]] rfl ⟨tt_,j⟩ ?_
  ·refine AK.meet (fun σ=>∃v:Int,∃p:(List Int),σ=⟨[(0,.own 609 p.length),(1,.clo (.func 42) [] [.loc 610 0 0]),(5,.I v),(6,.I z)],[(609,.arr 1 (p.map Qb)),(610,.var (Qe m))]⟩∧QbT z v p=some o) ?_ ?_
   ·obtain⟨w,s,h⟩:=Qd h
    obtain⟨H,B,h⟩:=Qd h
    refine Qa hC [.n 6,.o (.row (Qb w)),.n 7,.cm (.clo) [(609,610)] [(610,609)] [] [.d,.d] [(609,.var (Qe m))] (.b H),.n 3] rfl ⟨⟨⟨tt_,(QbQ s rfl)⟩,(Qa2 (Qck s).2)⟩,(QjA _ _ B)⟩ ?_
    rcases Qt h with⟨k,h⟩|⟨k,h⟩
    ·obtain⟨J,t,h⟩:=Qd h
     refine Qa hC [.T,.n 6,.st (Qb J) ((A.set L.toNat w).map Qb),.n 8,.S 0 (.own 609 (A.set L.toNat w).length),.K [0,1,5,6] [609,610]] rfl ⟨⟨⟨⟨tt_,k⟩,(QbQ t rfl)⟩,⟨(Qa2 (Qck t).2),Qix rfl⟩⟩,(congrArg (fun n=>V.own 609 n) (by simp))⟩ ?_
     exact AK.met (ex_ _ (ex_ _ (an_ rfl h)))
    refine Qa hC [.F,.n 2,.K [0,1,5,6] [609,610]] rfl ⟨tt_,k⟩ ?_
    exact AK.met (ex_ _ (ex_ _ (an_ rfl h)))
   rintro σ ⟨v,p,rfl,h⟩
   refine tg_ hC [.n 5,.K [0,1,5,6] [609,610]] rfl ?_
   cases h
   exact QV rfl rfl
  cases h
  exact QW rfl (an_ rfl rfl)
 obtain⟨a,c⟩:=G
 replace h:Qa9 a c=some r:=h
 rintro e σ ⟨rfl,rfl⟩
 refine tg_ hC [.n 6] rfl ?_
 obtain⟨g,h⟩:=Qbs h
 refine AK.clearTail (b:=609) (l:=a.toNat) (n:=c.length) rfl rfl rfl rfl rfl rfl (QC hC.n rfl) rfl rfl Qj (Qo.es rfl) QwZ rfl rfl rfl (Bnd.val rfl (QX (Qo9 g)) rfl) (QX (Qko g)) rfl ?_
 refine AK.denilA (b:=609) [none] rfl (QwU (f:=Qb) (x:=(0:Int)) (fun _=>rfl) rfl) ?_
 obtain⟨i,h⟩:=Qbs h
 refine Qa hC [.S 0 (.own 609 (c.take a.toNat++List.replicate (c.length-a.toNat) (0:Int)).length),.S 36 (.own 609 (c.take a.toNat++List.replicate (c.length-a.toNat) (0:Int)).length),.n 6] rfl ⟨⟨tt_,(Qvn (QX (Qko g)))⟩,(Qvn (QX (Qko g)))⟩ ?_
 have M:a.toNat=((c.take a.toNat++List.replicate (c.length-a.toNat) (0:Int)).take a.toNat).length:=by rw [Qfb,Nat.min_eq_left (QX (Qko i))]
 refine Qa hC [.x (fun σ=>(σ.set 609 (.arr 1 (((c.take a.toNat++List.replicate (c.length-a.toNat) (0:Int)).take a.toNat).map Qb))).put 41 (.own 609 a.toNat)),.S 41 (.own 609 ((c.take a.toNat++List.replicate (c.length-a.toNat) (0:Int)).take a.toNat).length),.n 4] rfl ⟨⟨tt_,(Stp.sliceO rfl rfl (QC hC.n rfl) rfl rfl (Qo.es rfl) Bnd.no (Bnd.val rfl (QX (Qo9 i)) rfl) (QX (Qko i)) (by simp))⟩,(QwP (QX (Qko i)))⟩ ?_
 cases h
 exact d1_ rfl rfl ⟨rfl,rfl,tt_⟩
def Qfu (l:List Int):Option (List Int):=(chk (decide (l.length<4611686018427387904))).bind fun _=>some (Qmv l)
theorem Qlx (l){r}(h:Qfu l=some r):Qc prog 43 [.own 609 l.length] [(609,.arr 1 (l.map Qb))] (Qh (.tup []) [(609,.arr 1 (r.map Qb))]):=by
 obtain⟨_,a,h⟩:=Qd h
 cases h
 exact Quf Qvv l (QX (Quz a))
def QdW (l:List Int):Option (List Int):=(chk (decide (l.length<4611686018427387904))).bind fun _=>some (Qej l)
theorem Qkq (l){r}(h:QdW l=some r):Qc prog 44 [.own 609 l.length] [(609,.arr 1 (l.map Qb))] (Qh (.own 609 r.length) [(609,.arr 1 (r.map Qb))]):=by
 obtain⟨_,a,h⟩:=Qd h
 cases h
 exact Qug Qvt l (QX (Quz a))
def QeN (d:Qm)(b:Int)(c:(List Int)):Option ((Int×(List Int))⊕(List Int)):=
 bif (decide (b<(d.Tasks.length:Int)))then
 (idx d.Tasks b).bind fun a=>
 (chk (decide (c.length+a.Cancel.length≤4294967296))).bind fun _=>
 some (.inl ((w64 (b+1)),(c++a.Cancel)))
 else
 some (.inr c)
def QeO (d:Qm)(e:(List Int)):Option (List Int):=
 (Qbv e d).bind fun a=>
 (Qfu a).bind fun b=>
 (chk (decide (b.length=a.length))).bind fun _=>
 (QdW b).bind fun c=>
 some c
def Qdf (a:Qm):Option (List Int):=
 (Qy (fun st=>QeN a st.1 st.2) (0,([]:List Int))).bind (fun q=>QeO a q)
theorem Qhw (c){r}(h:Qdf c=some r):Qc prog 18 [.agg (Qe c)] [] (Qh (.own 600 r.length) [(600,.arr 1 (r.map Qb))]):=by
 refine Qc.walk 25 func18 rfl rfl rfl fun C hC=>?_
 refine Qa hC [.n 16,.o (.ln c.Tasks.length),.n 4,.adopt 3 13 1,.O 13 (.arr 1 (([]:List Int).map Qb)),.S 3 (.own 13 ([]:List Int).length),.K [1,3,7,8,9] [1,13]] rfl ⟨⟨⟨tt_,Qj⟩,rfl⟩,(congrArg (fun n=>V.own 13 n) (by simp))⟩ ?_
 obtain⟨w,i,h⟩:=Qd h
 refine AK.loop (body:=(fun st=>QeN c st.1 st.2)) (fun st σ=>σ=⟨[(1,.loc 1 0 0),(3,.own 13 st.2.length),(7,.sl 14 (c.Tasks.map Qf)),(8,.I (c.Tasks.length:Int)),(9,.I st.1)],[(1,.var (Qe c)),(13,.arr 1 (st.2.map Qb))]⟩) (fun q e σ=>e=.exit 0∧σ=⟨[(1,.loc 1 0 0),(3,.own 13 q.length)],[(1,.var (Qe c)),(13,.arr 1 (q.map Qb))]⟩) i rfl ?_ ?_
 ·rintro ⟨x,u⟩ o σ rfl h
  refine tg_ hC [.n 6] rfl ?_
  rcases Qt h with⟨g,h⟩|⟨g,h⟩
  ·obtain⟨a,j,h⟩:=Qd h
   obtain⟨k,h⟩:=Qbs h
   refine Qa hC [.T,.n 6,.o (.row (Qf a)),.v .no [] (.agg (Qf a)),.n 2,.O 5 (.var (Qf a)),.n 6,.app ((u++a.Cancel).map Qb) (u++a.Cancel).length,.n 8,.K [1,3,7,8,9] [1,13]] rfl ⟨⟨⟨⟨⟨tt_,g⟩,(QF j)⟩,rfl⟩,rfl⟩,⟨Qj,Qjv k Qj,Qgz,Qkh Qj⟩⟩ ?_
   cases h
   exact QV rfl rfl
  refine Qa hC [.F,.n 2,.K [1,3] [1,13]] rfl ⟨tt_,g⟩ ?_
  cases h
  exact QW rfl (an_ rfl rfl)
 replace h:QeO c w=some r:=h
 rintro e σ ⟨rfl,rfl⟩
 obtain⟨l,m,h⟩:=Qd h
 obtain⟨f,p,h⟩:=Qd h
 obtain⟨b,h⟩:=Qbs h
 obtain⟨s,t,h⟩:=Qd h
 refine Qa hC [.n 6,.cm (.fn) [(609,13),(610,1)] [(13,609),(1,610)] [] [.d,.d] [(609,.arr 1 (l.map Qb)),(610,.var (Qe c))] (.own 609 l.length),.n 6,.cm (.fn) [(609,13)] [(13,609)] [] [.d] [(609,.arr 1 (f.map Qb))] (.tup []),.S 3 (.own 13 f.length),.S 20 (.own 13 f.length),.S 21 (.own 13 f.length),.n 5,.cm (.fn) [(609,13)] [(13,609)] [] [.d] [(609,.arr 1 (s.map Qb))] (.own 609 s.length),.n 4,.K [2] [13],.ren 13 600] rfl ⟨⟨⟨⟨⟨⟨tt_,(QiB _ _ m)⟩,(Qlx _ p)⟩,(by simp [QX b])⟩,(by simp [QX b])⟩,(by simp [QX b])⟩,(Qkq _ t)⟩ ?_
 cases h
 exact d1_ rfl rfl ⟨rfl,tt_⟩
noncomputable def QdX (s1:Int)(row10:(List Int))(k12:Int)(v13:(List Int)):Option ((List Int)⊕Empty):=
 (Q1 s1 row10 v13 k12).bind fun x14=>
 some (.inl x14)
noncomputable def QdY (s1:Int)(row10:(List Int))(x16:Int)(m20:(List (Int×(List Int))))(k22:Int)(v23:(List Int)):Option ((List (Int×(List Int)))⊕Empty):=
 (Q1 s1 v23 row10 x16).bind fun x24=>
 some (.inl (QbR ltI m20 k22 x24))
def Qhx (b:Int)(a:(List Int))(c:(List (Int×(List Int)))):Option (List (Int×(List Int))):=
 some (QbR ltI c b a)
noncomputable def Qhy (m2:(List (Int×(List Int))))(s1:Int)(row10:(List Int)):Option (List (Int×(List Int))):=
 (QaX row10).bind fun x16=>
 bif (decide (x16<0))then
 some m2
 else
 (Qdw (fun st p=>QdY s1 row10 x16 st p.1 p.2) m2 m2).bind (Sum.elim (fun q=>Qhx x16 row10 q) (fun q=>Empty.elim q))
noncomputable def Qfv (s1:Int)(m2:(List (Int×(List Int))))(l3:(List Int)):Option (List (Int×(List Int))):=
 (QbS l3).bind fun x6=>
 (Qdd x6).bind fun x7=>
 (Qdw (fun st p=>QdX s1 st p.1 p.2) x7 m2).bind (Sum.elim (fun q=>Qhy m2 s1 q) (fun q=>Empty.elim q))
theorem Qly (u P B){r}(h:Qfv u P B=some r):Qc prog 52 [.agg [.I u,.map 609],.own 610 B.length] [(609,.map (QK V.I (fun x=>V.sl 1 (x.map Qb)) P)),(610,.arr 1 (B.map Qb))] (Qh (.tup []) [(609,.map (QK V.I (fun x=>V.sl 1 (x.map Qb)) r)),(610,.arr 1 (B.map Qb))]):=by
 refine Qc.walk 49 func52 rfl rfl rfl fun C hC=>?_
 obtain⟨x6,a3,h⟩:=Qd h
 obtain⟨x7,a4,h⟩:=Qd h
 refine Qa hC [.n 8,.o (.co true [.o (B.map Qb)] 1 (x6.map Qb) x6.length),.frz 10 (x6.map Qb) [10] [],.o (.c false [.d] (.sl 1 (x7.map Qb))),.n 8] rfl ⟨⟨⟨tt_,⟨(QjT rfl),⟨(QgR _ a3),Qj,.inr (Qvr _)⟩⟩⟩,⟨tt_,(Qfp Qj)⟩⟩,(Qhv _ a4)⟩ ?_
 refine AK.openMapK (b:=609) Qjz rfl fun D E L8 S a8 U=>?_
 refine Qa hC [.x (fun σ=>(σ.set 14 (.itr D E #[] none)).put 14 (.loc 14 0 0)),.n 3,.K [1,2,14] [2,14,609,610]] rfl ⟨tt_,(Stp.range (b:=609) rfl rfl (QC hC.n rfl) rfl rfl QiM rfl)⟩ ?_
 obtain⟨a5,W,h⟩:=Qd h
 refine AK.range (body:=(fun st p=>QdX u st p.1 p.2)) (fun st seen σ=>∃cur:Option Nat,σ=⟨[(1,.sl 1 (st.map Qb)),(2,.loc 2 0 0),(14,.loc 14 0 0)],[(2,.var [.I u,.map 609]),(14,.itr D E seen cur),(609,.mapX D E (Qbi V.I (fun x=>V.sl 1 (x.map Qb)) L8) (QK V.I (fun x=>V.sl 1 (x.map Qb)) P)),(610,.arr 1 (B.map Qb))]⟩) (fun (q:Empty) _ _=>False) (fun st e σ=>e=.exit 0∧σ=⟨[(1,.sl 1 (st.map Qb)),(2,.loc 2 0 0)],[(2,.var [.I u,.map 609]),(609,.mapX D E (Qbi V.I (fun x=>V.sl 1 (x.map Qb)) L8) (QK V.I (fun x=>V.sl 1 (x.map Qb)) P)),(610,.arr 1 (B.map Qb))]⟩) S U W (ex_ _ rfl) ?_ ?_
 ·rintro g seen σ ⟨cur,rfl⟩ hex
  refine tg_ hC [.n 2] rfl ?_
  refine AK.nextT (b:=14) (m:=609) rfl rfl rfl (QC hC.n rfl) rfl rfl rfl rfl ?_ ?_
  ·intro hleft
   refine tg_ hC [.n 7,.K [1,2] [2,609,610]] rfl ?_
   exact AK.done (Or.inl (an_ hleft (an_ (fun h=>(by cases h)) (an_ rfl rfl))))
  intro a9 X Y G
  obtain⟨o,h⟩:=hex _ G
  have ho:=h
  replace h:QdX u g X Y=some o:=h
  obtain⟨a6,Z,h⟩:=Qd h
  refine Qa hC [.n 10,.x (fun σ=>σ.put 17 (.tup [.I X,.sl 1 (Y.map Qb)])),.n 11,.cm (.fn) [] [] [] [.f 1,.d,.d,.d] [] (.sl 1 (a6.map Qb)),.n 3,.K [1,2,14] [2,14,609,610]] rfl ⟨⟨tt_,(Stp.entryT (b:=14) (m:=609) (e:=V.I) (f:=(fun x=>V.sl 1 (x.map Qb))) rfl rfl (QC hC.n rfl) rfl G rfl rfl)⟩,(QcC _ _ _ _ Z)⟩ ?_
  cases h
  exact AK.done (Or.inr (ex_ _ (an_ G (Or.inl (ex_ _ (an_ ho (an_ rfl (ex_ _ rfl))))))))
 rcases a5 with(g | q)
 ·replace h:Qhy P u g=some r:=h
  rintro e σ ⟨rfl,rfl⟩
  obtain⟨i,a0,h⟩:=Qd h
  refine Qa hC [.n 5,.cm (.fn) [] [] [] [.d,.d] [] (.I i),.n 10] rfl ⟨tt_,(QdT _ a0)⟩ ?_
  refine bg_ h (fun w h=>Qa hC [.T,.n 2] rfl ⟨tt_,w⟩ ?_) fun w h=>Qa hC [.F,.n 7] rfl ⟨tt_,w⟩ ?_
  ·refine AK.closeMap (b:=609) rfl ?_
   refine tg_ hC [.K [] [609,610]] rfl ?_
   cases h
   refine AK.done ?_
   exact ex_ [] (an_ tt_ (QbM ⟨rfl,rfl,tt_⟩))
  refine AK.closeMap (b:=609) rfl ?_
  refine AK.openMapK (b:=609) Qjz rfl fun s t L18 H J M=>?_
  refine Qa hC [.x (fun σ=>(σ.set 31 (.itr s t #[] none)).put 31 (.loc 31 0 0)),.n 3,.K [1,2,6,31] [2,31,609,610]] rfl ⟨tt_,(Stp.range (b:=609) rfl rfl (QC hC.n rfl) rfl rfl QiM rfl)⟩ ?_
  obtain⟨a7,a1,h⟩:=Qd h
  refine AK.range (body:=(fun st p=>QdY u g i st p.1 p.2)) (fun st seen σ=>∃(cur:Option Nat) (LU19:List (Nat×(Int×(List Int)))),Qdb L18 LU19 seen∧σ=⟨[(1,.sl 1 (g.map Qb)),(2,.loc 2 0 0),(6,.I i),(31,.loc 31 0 0)],[(2,.var [.I u,.map 609]),(31,.itr s t seen cur),(609,.mapX s t (Qbi V.I (fun x=>V.sl 1 (x.map Qb)) LU19) (QK V.I (fun x=>V.sl 1 (x.map Qb)) st)),(610,.arr 1 (B.map Qb))]⟩) (fun (q:Empty) _ _=>False) (fun st e σ=>e=.exit 2∧σ=⟨[(1,.sl 1 (g.map Qb)),(2,.loc 2 0 0),(6,.I i)],[(2,.var [.I u,.map 609]),(609,.map (QK V.I (fun x=>V.sl 1 (x.map Qb)) st)),(610,.arr 1 (B.map Qb))]⟩) H M a1 (ex_ _ (ex_ _ (an_ Qdb.refl rfl))) ?_ ?_
  ·rintro j seen σ ⟨cur,LU19,hU19,rfl⟩ hex
   refine tg_ hC [.n 2] rfl ?_
   refine AK.nextT (b:=31) (m:=609) rfl rfl rfl (QC hC.n rfl) rfl rfl rfl rfl ?_ ?_
   ·intro hleft
    replace hleft:=hU19.nil hleft
    refine AK.closeMap (b:=609) rfl ?_
    refine tg_ hC [.n 7,.K [1,2,6] [2,609,610]] rfl ?_
    exact AK.done (Or.inl (an_ hleft (an_ (fun h=>(by cases h)) (an_ rfl rfl))))
   intro b0 y O hq19z
   have z:=hU19.mem2 hq19z
   obtain⟨o,h⟩:=hex _ z
   have ho:=h
   replace h:QdY u g i j y O=some o:=h
   obtain⟨A,a2,h⟩:=Qd h
   refine Qa hC [.n 10,.x (fun σ=>σ.put 34 (.tup [.I y,.sl 1 (O.map Qb)])),.n 6,.K [1,2,6,7,8,31] [2,31,609,610]] rfl ⟨tt_,(Stp.entryT (b:=31) (m:=609) (e:=V.I) (f:=(fun x=>V.sl 1 (x.map Qb))) rfl rfl (QC hC.n rfl) rfl hq19z rfl rfl)⟩ ?_
   refine AK.draw2 Qo hC mixed [.N,.N,.N,.N,.N,.N,.N,.a (.any (.sl 1 (A.map Qb)) none) none false,.m (.any ⟨[],[(609,.mapX s t (Qbi V.I (fun x=>V.sl 1 (x.map Qb)) (QjV LU19 y A)) (QK V.I (fun x=>V.sl 1 (x.map Qb)) (QbR ltI j y A)))],none⟩)] [] [] [1,2,6,31] [2,31,609,610] rfl rfl rfl ⟨⟨tt_,(fun σ h1 h2 _=>Stp.callSame (md:=.cm (.fn) [] [] [] [.f 1,.d,.d,.d] [] (.sl 1 (A.map Qb)) []) Qo hC h1 h2 rfl ⟨tt_,(QcC _ _ _ _ a2)⟩)⟩,(fun σ h1 h2=>Stp.mapUpdateX (e:=V.I) (f:=(fun x=>V.sl 1 (x.map Qb))) (L:=LU19) (l:=j) (k:=y) (v:=A) (v0:=O) ltI rfl rfl (h1 _ _ rfl) (h2 _ _ rfl) (h1 _ _ rfl) (h1 _ _ rfl) QiM Qjz rfl (Qmm.1 hq19z).1)⟩ rfl (by kernel_rfl) rfl rfl rfl ?_
   refine tg_ hC [.n 1,.K [1,2,6,31] [2,31,609,610]] rfl ?_
   cases h
   exact AK.done (Or.inr (ex_ _ (an_ z (Or.inl (ex_ _ (an_ ho (an_ rfl (ex_ _ (ex_ _ (an_ (Qdb.upd J hU19 z) rfl))))))))))
  rcases a7 with(j | q)
  ·replace h:Qhx i g j=some r:=h
   rintro e σ ⟨rfl,rfl⟩
   refine Qa hC [.n 7,.x (fun σ=>σ.set 609 (.map (QK V.I (fun x=>V.sl 1 (x.map Qb)) (QbR ltI j i g)))),.n 1,.K [] [609,610]] rfl ⟨tt_,(Stp.mapUpdate (e:=V.I) (f:=(fun x=>V.sl 1 (x.map Qb))) (l:=j) (k:=i) (v:=g) ltI rfl rfl rfl rfl rfl rfl QiM Qjz rfl)⟩ ?_
   cases h
   refine AK.done ?_
   exact ex_ [] (an_ tt_ (QbM ⟨rfl,rfl,tt_⟩))
  exact q.elim
 exact q.elim
noncomputable def Qau (place3:Int)(all7:Int)(k9:Int)(v10:(List Int)):Option (Int⊕Empty):=
 (idx v10 k9).bind fun e11=>
 (idx v10 k9).bind fun e12=>
 (idx v10 place3).bind fun e13=>
 (QgC e12 e13).bind fun x14=>
 (chk (x14 != 0)).bind fun _=>
 (QgC all7 (w64 (Int.tdiv e11 x14))).bind fun x16=>
 (chk (x16 != 0)).bind fun _=>
 some (.inl (w64 ((w64 (Int.tdiv all7 x16))*(max2 (w64 (Int.tdiv e11 x14)) (w64 (0-(w64 (Int.tdiv e11 x14))))))))
noncomputable def Qav (place3:Int)(all7:Int)(l23:(List Int))(k25:Int)(v26:(List Int)):Option ((List Int)⊕Empty):=
 (idx v26 place3).bind fun e27=>
 (idx v26 k25).bind fun e28=>
 (chk (e28 != 0)).bind fun _=>
 (idx l23 k25).bind fun e30=>
 some (.inl (l23.set k25.toNat (w64 (Int.tdiv (w64 ((w64 (0-e27))*all7)) e28))))
def QiC (a:(List Int)):Option (List Int):=
 some a
noncomputable def Qbq (s1:Int)(place3:Int)(m2:(List (Int×(List Int))))(all7:Int):Option (List Int):=
 (chk (decide (0≤s1)&&decide (s1≤s1)&&decide (s1≤4294967296))).bind fun _=>
 (idx (List.replicate s1.toNat (0:Int)) place3).bind fun e20=>
 (Qdw (fun st p=>Qav place3 all7 st p.1 p.2) ((List.replicate s1.toNat (0:Int)).set place3.toNat all7) m2).bind (Sum.elim (fun q=>QiC q) (fun q=>Empty.elim q))
noncomputable def Qbt (s1:Int)(m2:(List (Int×(List Int))))(place3:Int):Option (List Int):=
 (Qdw (fun st p=>Qau place3 st p.1 p.2) 1 m2).bind (Sum.elim (fun q=>Qbq s1 place3 m2 q) (fun q=>Empty.elim q))
theorem QmY (t y g){r}(h:Qbt t y g=some r):Qc prog 53 [.agg [.I t,.map 609],.I g] [(609,.map (QK V.I (fun x=>V.sl 1 (x.map Qb)) y))] (Qh (.own 600 r.length) [(600,.arr 1 (r.map Qb)),(609,.map (QK V.I (fun x=>V.sl 1 (x.map Qb)) y))]):=by
 refine Qc.walk 75 func53 rfl rfl rfl fun C hC=>?_
 refine tg_ hC [.n 16] rfl ?_
 refine AK.openMap (b:=609) Qjz rfl fun u v L5 H J=>?_
 refine Qa hC [.x (fun σ=>(σ.set 14 (.itr u v #[] none)).put 14 (.loc 14 0 0)),.n 3,.K [1,2,5,14] [2,14,609]] rfl ⟨tt_,(Stp.range (b:=609) rfl rfl (QC hC.n rfl) rfl rfl QiM rfl)⟩ ?_
 obtain⟨a5,L,h⟩:=Qd h
 refine AK.range (body:=(fun st p=>Qau g st p.1 p.2)) (fun st seen σ=>∃cur:Option Nat,σ=⟨[(1,.I g),(2,.loc 2 0 0),(5,.I st),(14,.loc 14 0 0)],[(2,.var [.I t,.map 609]),(14,.itr u v seen cur),(609,.mapX u v (Qbi V.I (fun x=>V.sl 1 (x.map Qb)) L5) (QK V.I (fun x=>V.sl 1 (x.map Qb)) y))]⟩) (fun (q:Empty) _ _=>False) (fun st e σ=>e=.exit 0∧σ=⟨[(1,.I g),(2,.loc 2 0 0),(5,.I st)],[(2,.var [.I t,.map 609]),(609,.mapX u v (Qbi V.I (fun x=>V.sl 1 (x.map Qb)) L5) (QK V.I (fun x=>V.sl 1 (x.map Qb)) y))]⟩) H J L (ex_ _ rfl) ?_ ?_
 ·rintro i seen σ ⟨cur,rfl⟩ hex
  refine tg_ hC [.n 2] rfl ?_
  refine AK.nextT (b:=14) (m:=609) rfl rfl rfl (QC hC.n rfl) rfl rfl rfl rfl ?_ ?_
  ·intro hleft
   refine tg_ hC [.n 7,.K [1,2,5] [2,609]] rfl ?_
   exact AK.done (Or.inl (an_ hleft (an_ (fun h=>(by cases h)) (an_ rfl rfl))))
  intro b5 k9 M B
  obtain⟨o,h⟩:=hex _ B
  have ho:=h
  replace h:Qau g i k9 M=some o:=h
  obtain⟨a6,O,h⟩:=Qd h
  obtain⟨a7,P,h⟩:=Qd h
  obtain⟨a8,T,h⟩:=Qd h
  obtain⟨a9,U,h⟩:=Qd h
  obtain⟨W,h⟩:=Qbs h
  refine Qa hC [.n 10,.x (fun σ=>σ.put 17 (.tup [.I k9,.sl 1 (M.map Qb)])),.n 7,.K [1,2,5,6,7,14] [2,14,609]] rfl ⟨tt_,(Stp.entryT (b:=14) (m:=609) (e:=V.I) (f:=(fun x=>V.sl 1 (x.map Qb))) rfl rfl (QC hC.n rfl) rfl B rfl rfl)⟩ ?_
  refine AK.draw2 Qo hC mixed [.N,.N,.a (.row (Qb a6)) none false,.N,.N,.N,.a (.row (Qb a7)) none false,.N,.N,.N,.a (.row (Qb a8)) none false,.N,.a (.c false [.d,.d] (.I a9)) none false,.N,.N] [] [] [1,2,5,8,14] [2,14,609] rfl rfl rfl ⟨⟨⟨⟨⟨tt_,(QF O)⟩,(QF P)⟩,(QF T)⟩,(QjY _ _ U)⟩,(neZ W)⟩ rfl (by kernel_rfl) rfl rfl rfl ?_
  obtain⟨b0,X,h⟩:=Qd h
  obtain⟨Y,h⟩:=Qbs h
  refine Qa hC [.n 5,.o (.c false [.d,.d] (.I b0)),.n 9,.K [1,2,5,14] [2,14,609]] rfl ⟨⟨tt_,(QjY _ _ X)⟩,(neZ Y)⟩ ?_
  cases h
  exact AK.done (Or.inr (ex_ _ (an_ B (Or.inl (ex_ _ (an_ ho (an_ rfl (ex_ _ rfl))))))))
 rcases a5 with(i | q)
 ·replace h:Qbq t g y i=some r:=h
  rintro e σ ⟨rfl,rfl⟩
  obtain⟨Z,h⟩:=Qbs h
  obtain⟨b1,z,h⟩:=Qd h
  refine Qa hC [.n 6,.o (.rows ((List.replicate t.toNat (0:Int)).map Qb)),.S 46 (.own 46 (List.replicate t.toNat (0:Int)).length),.n 9,.st (Qb b1) (((List.replicate t.toNat (0:Int)).set g.toNat i).map Qb),.n 7] rfl ⟨⟨⟨⟨tt_,⟨Z,Qlr rfl⟩⟩,(by simp)⟩,(QbQ z rfl)⟩,⟨(Qa2 (Qck z).2),Qix rfl⟩⟩ ?_
  refine AK.closeMap (b:=609) rfl ?_
  refine AK.openMap (b:=609) Qjz rfl fun j k L21 D E=>?_
  refine Qa hC [.x (fun σ=>(σ.set 53 (.itr j k #[] none)).put 53 (.loc 53 0 0)),.n 3,.S 9 (.own 46 ((List.replicate t.toNat (0:Int)).set g.toNat i).length),.K [1,5,9,53] [46,53,609]] rfl ⟨⟨tt_,(Stp.range (b:=609) rfl rfl (QC hC.n rfl) rfl rfl QiM rfl)⟩,(congrArg (fun n=>V.own 46 n) (by simp))⟩ ?_
  obtain⟨b2,a0,h⟩:=Qd h
  refine AK.range (body:=(fun st p=>Qav g i st p.1 p.2)) (fun st seen σ=>∃cur:Option Nat,σ=⟨[(1,.I g),(5,.I i),(9,.own 46 st.length),(53,.loc 53 0 0)],[(46,.arr 1 (st.map Qb)),(53,.itr j k seen cur),(609,.mapX j k (Qbi V.I (fun x=>V.sl 1 (x.map Qb)) L21) (QK V.I (fun x=>V.sl 1 (x.map Qb)) y))]⟩) (fun (q:Empty) _ _=>False) (fun st e σ=>e=.exit 2∧σ=⟨[(9,.own 46 st.length)],[(46,.arr 1 (st.map Qb)),(609,.mapX j k (Qbi V.I (fun x=>V.sl 1 (x.map Qb)) L21) (QK V.I (fun x=>V.sl 1 (x.map Qb)) y))]⟩) D E a0 (ex_ _ rfl) ?_ ?_
  ·rintro l seen σ ⟨cur,rfl⟩ hex
   refine tg_ hC [.n 2] rfl ?_
   refine AK.nextT (b:=53) (m:=609) rfl rfl rfl (QC hC.n rfl) rfl rfl rfl rfl ?_ ?_
   ·intro hleft
    refine tg_ hC [.n 7,.K [9] [46,609]] rfl ?_
    exact AK.done (Or.inl (an_ hleft (an_ (fun h=>(by cases h)) (an_ rfl rfl))))
   intro b4 w a1 s
   obtain⟨o,h⟩:=hex _ s
   have ho:=h
   replace h:Qav g i l w a1=some o:=h
   obtain⟨F,a2,h⟩:=Qd h
   obtain⟨G,a3,h⟩:=Qd h
   obtain⟨a4,h⟩:=Qbs h
   obtain⟨b3,A,h⟩:=Qd h
   refine Qa hC [.n 10,.x (fun σ=>σ.put 56 (.tup [.I w,.sl 1 (a1.map Qb)])),.n 6,.K [1,5,9,10,11,53] [46,53,609]] rfl ⟨tt_,(Stp.entryT (b:=53) (m:=609) (e:=V.I) (f:=(fun x=>V.sl 1 (x.map Qb))) rfl rfl (QC hC.n rfl) rfl s rfl rfl)⟩ ?_
   refine AK.draw2 Qo hC mixed [.N,.N,.N,.N,.a (.row (Qb F)) none false,.N,.N,.N,.N,.N,.N,.a (.row (Qb G)) none false,.N,.N,.N,.m (.st (Qb b3) ((l.set w.toNat (w64 (Int.tdiv (w64 ((w64 (0-F))*i)) G))).map Qb))] [] [] [1,5,9,53] [46,53,609] rfl rfl rfl ⟨⟨⟨⟨⟨tt_,(QF a2)⟩,(QF a3)⟩,(neZ a4)⟩,(QbQ A rfl)⟩,⟨(Qa2 (Qck A).2),Qix rfl⟩⟩ rfl (by kernel_rfl) rfl rfl rfl ?_
   refine Qa hC [.n 1,.S 9 (.own 46 (l.set w.toNat (w64 (Int.tdiv (w64 ((w64 (0-F))*i)) G))).length),.K [1,5,9,53] [46,53,609]] rfl ⟨tt_,(congrArg (fun n=>V.own 46 n) (by simp))⟩ ?_
   cases h
   exact AK.done (Or.inr (ex_ _ (an_ s (Or.inl (ex_ _ (an_ ho (an_ rfl (ex_ _ rfl))))))))
  rcases b2 with(l | q)
  ·replace h:QiC l=some r:=h
   rintro e σ ⟨rfl,rfl⟩
   refine tg_ hC [.n 9] rfl ?_
   refine AK.closeMap (b:=609) rfl ?_
   refine tg_ hC [.K [4] [46,609],.ren 46 600] rfl ?_
   cases h
   exact d1_ rfl rfl ⟨rfl,rfl,tt_⟩
  exact q.elim
 exact q.elim
def Qlz (c:Qm)(a:QLL):Option (QLL×Bool):=
 bif (decide (8<(c.Places.length:Int)))then
 some (a,true)
 else
 (Qbz a).bind fun b=>
 some (a,b)
def Qb4 (a:QLL)(f:Qm)(b:Int)(c:(List (Int×(List Int)))):Option ((Int×(List (Int×(List Int))))⊕(List (Int×(List Int)))):=
 bif (decide (b<(a.length:Int)))then
 (idx a b).bind fun d=>
 (Qc7 (f.Places.length:Int) c d).bind fun e=>
 some (.inl ((w64 (b+1)),e))
 else
 some (.inr c)
def Qb5 (c:(List Int))(a:Qm)(b:Int)(d:(List (Int×(List Int)))):Option ((Int×(List (Int×(List Int))))⊕(List (Int×(List Int)))):=
 bif (decide (b<(c.length:Int)))then
 (idx c b).bind fun e=>
 (chk (decide (0≤(a.Places.length:Int))&&decide ((a.Places.length:Int)≤(a.Places.length:Int))&&decide ((a.Places.length:Int)≤4294967296))).bind fun _=>
 (idx (List.replicate (a.Places.length:Int).toNat (0:Int)) e).bind fun g=>
 (Qfv (a.Places.length:Int) d ((List.replicate (a.Places.length:Int).toNat (0:Int)).set e.toNat 1)).bind fun f=>
 some (.inl ((w64 (b+1)),f))
 else
 some (.inr d)
def QfU (a:Int)(b:QLL):Option ((Int×QLL)⊕QLL):=
 some (.inl ((w64 (a+1)),b))
def Qah (e:Qm)(c:(List (Int×(List Int))))(a:Int)(b:QLL):Option ((Int×QLL)⊕QLL):=
 bif (decide (a<(e.Places.length:Int)))then
 bif (Qb1 c a).isSome then
 (chk (!(((Qb1 c a).getD ([]:(List Int)))).isEmpty)).bind fun _=>
 QfU a b
 else
 (Qbt (e.Places.length:Int) c a).bind fun d=>
 (chk (decide (b.length+([d]:List (List Int)).length≤4294967296))).bind fun _=>
 QfU a (b++([d]:List (List Int)))
 else
 some (.inr b)
def QlA (a:QLL):Option (QLL×Int):=
 some (a,0)
def QdZ (b:Qm)(a:(List (Int×(List Int)))):Option (QLL×Int):=
 (Qy (fun st=>Qah b a st.1 st.2) (0,([]:List (List Int)))).bind (fun q=>QlA q)
def Qi4 (a:Qm)(b:(List (Int×(List Int)))):Option (QLL×Int):=
 (Qdf a).bind fun c=>
 (Qy (fun st=>Qb5 c a st.1 st.2) (0,b)).bind (fun q=>QdZ a q)
def Qd0 (b:Qm)(a:QLL)(c:Bool):Option (QLL×Int):=
 bif c then
 some (([]:List (List Int)),2)
 else
 (Qy (fun st=>Qb4 a b st.1 st.2) (0,([]:(List (Int×(List Int)))))).bind (fun q=>Qi4 b q)
def Qds (a:Qm):Option (QLL×Int):=
 (Qdc a).bind fun b=>
 (Qlz a b).bind (fun v=>Qd0 a v.1 v.2)
theorem QlB (c){r}(h:Qds c=some r):Qc prog 24 [.agg (Qe c)] [] (Qh (.tup [.sl 1 (r.1.map Qi),.I r.2]) []):=by
 refine Qc.walk 73 func24 rfl rfl rfl fun C hC=>?_
 obtain⟨x6,a2,h⟩:=Qd h
 refine Qa hC [.n 9,.v .no [] (.agg (Qe c)),.o (.co false [.d] 1 (x6.map Qi) x6.length),.n 5] rfl ⟨⟨tt_,rfl⟩,⟨(Qhs _ a2),Qj,.inl rfl⟩⟩ ?_
 obtain⟨v,a3,h⟩:=Qd h
 replace h:Qd0 c v.1 v.2=some r:=h
 refine AK.meetX (fun σ=>σ=⟨[(1,.loc 1 0 0),(4,.sl 1 (v.1.map Qi)),(22,.b v.2)],[(1,.var (Qe c))]⟩) ?_ ?_
 ·replace h:=a3
  refine Qa hC [.n 3,.o (.ln c.Places.length),.n 2] rfl ⟨tt_,Qj⟩ ?_
  rcases Qt h with⟨p,h⟩|⟨p,h⟩
  ·refine Qa hC [.S 19 (.b true),.n 4,.frz 14 (x6.map Qi) [4] [],.K [1,4,22] [1]] rfl ⟨(tc_ p),⟨tt_,(Qfp Qj)⟩⟩ ?_
   cases h
   exact AK.met rfl
  obtain⟨a4,G,h⟩:=Qd h
  refine Qa hC [.S 19 (.b false),.n 1,.frz 14 (x6.map Qi) [4,14,20] [],.cm (.fn) [] [] [] [.d,.d] [] (.b a4),.n 2,.K [1,4,22] [1]] rfl ⟨⟨(tc_ p),⟨⟨⟨tt_,(Qfp Qj)⟩,(Qfp Qj)⟩,(Qfp Qj)⟩⟩,(Qi2 _ G)⟩ ?_
  cases h
  exact AK.met rfl
 rintro σ rfl
 obtain⟨a,x8⟩:=v
 replace h:Qd0 c a x8=some r:=h
 refine tg_ hC [.n 1] rfl ?_
 refine bg_ h (fun s h=>Qa hC [.T,.n 8,.denil 2 [some 1],.K [2,3] []] rfl ⟨tt_,s⟩ ?_) fun s h=>Qa hC [.F,.n 6,.o (.ln c.Places.length),.n 1,.O 26 (.map (QK V.I (fun x=>V.sl 1 (x.map Qb)) ([]:(List (Int×(List Int)))))),.v .no [] (.agg [.I (c.Places.length:Int),.map 26]),.n 2,.O 5 (.var [.I (c.Places.length:Int),.map 26]),.n 6,.o (.ln a.length),.n 4,.K [1,5,28,29,30] [1,5,26]] rfl ⟨⟨⟨⟨⟨⟨tt_,s⟩,Qj⟩,rfl⟩,rfl⟩,rfl⟩,Qj⟩ ?_
 ·cases h
  exact d2_ rfl rfl rfl tt_
 obtain⟨a5,H,h⟩:=Qd h
 refine AK.loop (body:=(fun st=>Qb4 a c st.1 st.2)) (fun st σ=>σ=⟨[(1,.loc 1 0 0),(5,.loc 5 0 0),(28,.sl 1 (a.map Qi)),(29,.I (a.length:Int)),(30,.I st.1)],[(1,.var (Qe c)),(5,.var [.I (c.Places.length:Int),.map 26]),(26,.map (QK V.I (fun x=>V.sl 1 (x.map Qb)) st.2))]⟩) (fun q e σ=>e=.exit 0∧σ=⟨[(1,.loc 1 0 0),(5,.loc 5 0 0)],[(1,.var (Qe c)),(5,.var [.I (c.Places.length:Int),.map 26]),(26,.map (QK V.I (fun x=>V.sl 1 (x.map Qb)) q))]⟩) H rfl ?_ ?_
 ·rintro ⟨b0,b1⟩ o σ rfl h
  refine tg_ hC [.n 6] rfl ?_
  rcases Qt h with⟨t,h⟩|⟨t,h⟩
  ·obtain⟨a6,J,h⟩:=Qd h
   obtain⟨a7,L,h⟩:=Qd h
   refine Qa hC [.T,.n 6,.o (.row (Qi a6)),.n 7,.cm (.fn) [(609,26)] [(26,609)] [] [.d,.d] [(609,.map (QK V.I (fun x=>V.sl 1 (x.map Qb)) a7))] (.tup []),.n 7,.K [1,5,28,29,30] [1,5,26]] rfl ⟨⟨⟨tt_,t⟩,(QF J)⟩,(Qni _ _ _ L)⟩ ?_
   cases h
   exact QV rfl rfl
  refine Qa hC [.F,.n 2,.K [1,5] [1,5,26]] rfl ⟨tt_,t⟩ ?_
  cases h
  exact QW rfl (an_ rfl rfl)
 replace h:Qi4 c a5=some r:=h
 rintro e σ ⟨rfl,rfl⟩
 obtain⟨j,M,h⟩:=Qd h
 refine Qa hC [.n 5,.v .no [] (.agg (Qe c)),.o (.co false [.d] 1 (j.map Qb) j.length),.n 5,.K [5,39,40,41] [5,26,39]] rfl ⟨⟨tt_,rfl⟩,⟨(Qhw _ M),Qj,.inl rfl⟩⟩ ?_
 obtain⟨g,N,h⟩:=Qd h
 refine AK.loop (body:=(fun st=>Qb5 j c st.1 st.2)) (fun st σ=>σ=⟨[(5,.loc 5 0 0),(39,.own 39 j.length),(40,.I (j.length:Int)),(41,.I st.1)],[(5,.var [.I (c.Places.length:Int),.map 26]),(26,.map (QK V.I (fun x=>V.sl 1 (x.map Qb)) st.2)),(39,.arr 1 (j.map Qb))]⟩) (fun q e σ=>e=.exit 2∧σ=⟨[(5,.loc 5 0 0)],[(5,.var [.I (c.Places.length:Int),.map 26]),(26,.map (QK V.I (fun x=>V.sl 1 (x.map Qb)) q))]⟩) N rfl ?_ ?_
 ·rintro ⟨b2,b3⟩ o σ rfl h
  refine tg_ hC [.n 6] rfl ?_
  rcases Qt h with⟨u,h⟩|⟨u,h⟩
  ·obtain⟨i,B,h⟩:=Qd h
   obtain⟨P,h⟩:=Qbs h
   obtain⟨a8,D,h⟩:=Qd h
   obtain⟨a9,U,h⟩:=Qd h
   refine Qa hC [.T,.n 7,.o (.row (Qb i)),.n 7,.o (.rows ((List.replicate (c.Places.length:Int).toNat (0:Int)).map Qb)),.S 47 (.own 47 (List.replicate (c.Places.length:Int).toNat (0:Int)).length),.n 8,.st (Qb a8) (((List.replicate (c.Places.length:Int).toNat (0:Int)).set i.toNat 1).map Qb),.n 5,.S 10 (.own 47 ((List.replicate (c.Places.length:Int).toNat (0:Int)).set i.toNat 1).length),.S 47 (.own 47 ((List.replicate (c.Places.length:Int).toNat (0:Int)).set i.toNat 1).length),.S 48 (.own 47 ((List.replicate (c.Places.length:Int).toNat (0:Int)).set i.toNat 1).length),.S 52 (.own 47 ((List.replicate (c.Places.length:Int).toNat (0:Int)).set i.toNat 1).length),.cm (.fn) [(609,26),(610,47)] [(26,609),(47,610)] [] [.d,.d] [(609,.map (QK V.I (fun x=>V.sl 1 (x.map Qb)) a9)),(610,.arr 1 (((List.replicate (c.Places.length:Int).toNat (0:Int)).set i.toNat 1).map Qb))] (.tup []),.n 7,.K [5,39,40,41] [5,26,39]] rfl ⟨⟨⟨⟨⟨⟨⟨⟨⟨⟨⟨⟨tt_,u⟩,(QbQ B rfl)⟩,(Qa2 (Qck B).2)⟩,⟨P,Qlr rfl⟩⟩,(by simp)⟩,(QbQ D rfl)⟩,⟨(Qa2 (Qck D).2),Qix rfl⟩⟩,(congrArg (fun n=>V.own 47 n) (by simp))⟩,(congrArg (fun n=>V.own 47 n) (by simp))⟩,(congrArg (fun n=>V.own 47 n) (by simp))⟩,(congrArg (fun n=>V.own 47 n) (by simp))⟩,(Qly _ _ _ U)⟩ ?_
   cases h
   exact QV rfl rfl
  refine Qa hC [.F,.n 2,.K [5] [5,26]] rfl ⟨tt_,u⟩ ?_
  cases h
  exact QW rfl (an_ rfl rfl)
 replace h:QdZ c g=some r:=h
 rintro e σ ⟨rfl,rfl⟩
 refine Qa hC [.n 16,.adopt 11 65 1,.O 65 (.arr 1 (([]:List (List Int)).map Qi)),.S 11 (.own 65 ([]:List (List Int)).length),.K [5,11,56,57] [5,26,65]] rfl ⟨⟨tt_,rfl⟩,(congrArg (fun n=>V.own 65 n) (by simp))⟩ ?_
 obtain⟨W,X,h⟩:=Qd h
 refine AK.loop (body:=(fun st=>Qah c g st.1 st.2)) (fun st σ=>σ=⟨[(5,.loc 5 0 0),(11,.own 65 st.2.length),(56,.I (c.Places.length:Int)),(57,.I st.1)],[(5,.var [.I (c.Places.length:Int),.map 26]),(26,.map (QK V.I (fun x=>V.sl 1 (x.map Qb)) g)),(65,.arr 1 (st.2.map Qi))]⟩) (fun q e σ=>e=.exit 4∧σ=⟨[(11,.own 65 q.length)],[(65,.arr 1 (q.map Qi))]⟩) X rfl ?_ ?_
 ·rintro ⟨w,Y⟩ o σ rfl h
  refine tg_ hC [.n 6] rfl ?_
  refine bg_ h (fun y h=>Qa hC [.T,.n 2] rfl ⟨tt_,y⟩ ?_) fun y h=>Qa hC [.F,.n 2,.K [11] [65]] rfl ⟨tt_,y⟩ ?_
  ·refine AK.meet (fun σ=>∃A:QLL,σ=⟨[(5,.loc 5 0 0),(11,.own 65 A.length),(56,.I (c.Places.length:Int)),(57,.I w)],[(5,.var [.I (c.Places.length:Int),.map 26]),(26,.map (QK V.I (fun x=>V.sl 1 (x.map Qb)) g)),(65,.arr 1 (A.map Qi))]⟩∧QfU w A=some o) ?_ ?_
   ·refine tg_ hC [.n 12] rfl ?_
    rcases Qt h with⟨E,h⟩|⟨E,h⟩
    ·obtain⟨Z,h⟩:=Qbs h
     refine Qa hC [.o (.any (.sl 1 (((Qb1 g w).getD ([]:(List Int))).map Qb)) none)] rfl ⟨tt_,(fun σ h1 h2 _=>Stp.lookup (e:=V.I) (f:=(fun x=>V.sl 1 (x.map Qb))) (l:=g) (k:=w) (z:=([]:(List Int))) rfl rfl (QC hC.n rfl) (h1 _ _ rfl) (h2 _ _ rfl) (h1 _ _ rfl) QiM Qjz Qxs rfl)⟩ ?_
     refine AK.eqNil rfl rfl rfl (QC hC.n rfl) rfl rfl Qu0 ?_ ?_
     ·intro hz
      simp [List.map_eq_nil_iff.1 hz]at Z
     refine tg_ hC [.n 5,.K [5,11,56,57] [5,26,65]] rfl ?_
     exact AK.met (ex_ _ (an_ rfl h))
    obtain⟨m,a0,h⟩:=Qd h
    obtain⟨a1,h⟩:=Qbs h
    refine Qa hC [.x (fun σ=>σ.put 63 (.lit (.slice none 0 0))),.x (fun σ=>σ.put 64 (.b true)),.n 7,.cm (.fn) [(609,26)] [(68,600),(26,609)] [] [.d,.d] [(600,.arr 1 (m.map Qb)),(609,.map (QK V.I (fun x=>V.sl 1 (x.map Qb)) g))] (.own 600 m.length),.frz 68 (m.map Qb) [68] [],.v (.bd []) [] (.sl 1 (([m]:List (List Int)).map Qi)),.app ((Y++([m]:List (List Int))).map Qi) (Y++([m]:List (List Int))).length,.n 3,.K [5,11,56,57] [5,26,65]] rfl ⟨⟨⟨⟨⟨⟨tt_,(Stp.lookupN (e:=V.I) (f:=(fun x=>V.sl 1 (x.map Qb))) (l:=g) (k:=w) rfl rfl (QC hC.n rfl) rfl rfl rfl QiM Qjz (by kernel_rfl) E)⟩,(Stp.eqNN rfl rfl (QC hC.n rfl) rfl rfl Qu0)⟩,(QmY _ _ _ a0)⟩,⟨tt_,(Qfp Qj)⟩⟩,rfl⟩,⟨Qj,Qjv a1 Qj,Qgz,Qkh Qj⟩⟩ ?_
    exact AK.met (ex_ _ (an_ rfl h))
   rintro σ ⟨A,rfl,h⟩
   refine tg_ hC [.n 4,.K [5,11,56,57] [5,26,65]] rfl ?_
   cases h
   exact QV rfl rfl
  cases h
  exact QW rfl (an_ rfl rfl)
 replace h:QlA W=some r:=h
 rintro e σ ⟨rfl,rfl⟩
 refine Qa hC [.n 10,.frz 65 (W.map Qi) [2] []] rfl ⟨tt_,⟨tt_,(Qfp Qj)⟩⟩ ?_
 cases h
 exact d2_ rfl rfl rfl tt_
def QhP (d:QBg)(a:Int)(c:Int):Option ((Int×Int)⊕(Unit⊕Unit)):=
 bif (decide (c<(d.length:Int)))then
 (idx d c).bind fun b=>
 bif ((decide (b.1≤a))||((decide (b.2<1))||(decide (1048576<b.2))))then
 some (.inr (.inl ()))
 else
 some (.inl (b.1,(w64 (c+1))))
 else
 some (.inr (.inr ()))
def QhQ : Option Bool:=
 some false
def QhR : Option Bool:=
 some true
def QiD (a:QBg):Option Bool:=
 (Qy (fun st=>QhP a st.1 st.2) ((-1),0)).bind (Sum.elim (fun q=>QhQ) (fun q=>QhR))
theorem Qnj (i){r}(h:QiD i=some r):Qc prog 91 [.sl 2 (i.map QaF)] [] (Qh (.b r) []):=by
 refine Qc.walk 29 func91 rfl rfl rfl fun C hC=>?_
 refine Qa hC [.n 14,.o (.ln i.length),.n 4,.K [3,6,7,8] []] rfl ⟨tt_,Qj⟩ ?_
 obtain⟨l,k,h⟩:=Qd h
 refine AK.loop (body:=(fun st=>QhP i st.1 st.2)) (fun st σ=>σ=⟨[(3,.I st.1),(6,.sl 2 (i.map QaF)),(7,.I (i.length:Int)),(8,.I st.2)],[]⟩) (Sum.elim (fun q e σ=>e=.ret∧σ=⟨[(2,.b false)],[]⟩) (fun q e σ=>e=.exit 0∧σ=⟨[],[]⟩)) k rfl ?_ ?_
 ·rintro ⟨a,p⟩ o σ rfl h
  refine tg_ hC [.n 6] rfl ?_
  rcases Qt h with⟨j,h⟩|⟨j,h⟩
  ·obtain⟨d,m,h⟩:=Qd h
   refine Qa hC [.T,.n 6,.o (.row (QaF d)),.v .no [] (.agg (QaF d)),.n 2,.O 5 (.var (QaF d)),.n 4] rfl ⟨⟨⟨⟨tt_,j⟩,(QF m)⟩,rfl⟩,rfl⟩ ?_
   refine AK.meetX (fun σ=>σ=⟨[(5,.loc 5 0 0),(6,.sl 2 (i.map QaF)),(7,.I (i.length:Int)),(8,.I p),(25,.b ((decide (d.1≤a))||((decide (d.2<1))||(decide (1048576<d.2)))))],[(5,.var (QaF d))]⟩) ?_ ?_
   ·refine tg_ hC [.n 6] rfl ?_
    rcases QS (decide (d.1≤a))with c | c
    ·refine Qa hC [.S 16 (.b true),.n 10,.S 25 (.b ((decide (d.1≤a))||((decide (d.2<1))||(decide (1048576<d.2))))),.K [5,6,7,8,25] [5]] rfl ⟨(tc_ c),(congrArg V.b (orT c rfl))⟩ ?_
     exact AK.met rfl
    refine Qa hC [.S 16 (.b false),.n 5] rfl (tc_ c) ?_
    rcases QS (decide (d.2<1))with f | f
    ·refine Qa hC [.S 21 (.b true),.n 5,.S 25 (.b ((decide (d.1≤a))||((decide (d.2<1))||(decide (1048576<d.2))))),.K [5,6,7,8,25] [5]] rfl ⟨(tc_ f),(congrArg V.b (orF c (orT f rfl)))⟩ ?_
     exact AK.met rfl
    refine Qa hC [.S 21 (.b false),.n 5,.S 25 (.b ((decide (d.1≤a))||((decide (d.2<1))||(decide (1048576<d.2))))),.K [5,6,7,8,25] [5]] rfl ⟨(tc_ f),(congrArg V.b (orF c (orF f rfl)))⟩ ?_
    exact AK.met rfl
   rintro σ rfl
   refine tg_ hC [.n 1] rfl ?_
   refine bg_ h (fun g h=>Qa hC [.T,.n 9,.K [2] []] rfl ⟨tt_,g⟩ ?_) fun g h=>Qa hC [.F,.n 13,.K [3,6,7,8] []] rfl ⟨tt_,g⟩ ?_
   ·cases h
    exact QaY rfl (an_ rfl rfl)
   cases h
   exact QV rfl rfl
  refine Qa hC [.F,.n 2,.K [] []] rfl ⟨tt_,j⟩ ?_
  cases h
  exact QW rfl (an_ rfl rfl)
 rcases l with(_ | _)
 ·replace h:QhQ=some r:=h
  rintro e σ ⟨rfl,rfl⟩
  refine tg_ hC [.n 2] rfl ?_
  cases h
  exact d1_ rfl rfl tt_
 replace h:QhR=some r:=h
 rintro e σ ⟨rfl,rfl⟩
 refine tg_ hC [.n 8] rfl ?_
 cases h
 exact d1_ rfl rfl tt_
def QqD (c:QBg)(b:Int)(d:QBg):Option ((Int×QBg)⊕QBg):=
 bif (decide (b<(c.length:Int)))then
 (idx c b).bind fun a=>
 some (.inl ((w64 (b+1)),(QbR ltI d a.1 a.2)))
 else
 some (.inr d)
def QqE (a:QBg):Option (Unit⊕QBg):=
 some (.inr a)
def QtN (a:QBg):Option (Unit⊕QBg):=
 (QiD a).bind fun b=>
 bif (!b)then
 some (.inl ())
 else
 (Qy (fun st=>QqD a st.1 st.2) (0,([]:QBg))).bind (fun q=>QqE q)
theorem QqF (j){r}(h:QtN j=some r):Qc prog 62 [.sl 2 (j.map QaF)] [] ((Sum.elim (fun q=>(Qh (.tup [.lit (.map none),.b false]) [])) (fun q=>(Qh (.tup [.map 601,.b true]) [(601,.map (QK V.I V.I q))]))) r):=by
 refine Qc.walk 24 func62 rfl rfl rfl fun C hC=>?_
 obtain⟨w,s,h⟩:=Qd h
 refine Qa hC [.n 10,.o (.c false [.d] (.b w)),.n 3] rfl ⟨tt_,(Qnj _ s)⟩ ?_
 refine bg_ h (fun i h=>Qa hC [.T,.n 8,.K [2,3] []] rfl ⟨tt_,i⟩ ?_) fun i h=>Qa hC [.F,.n 5,.O 10 (.map (QK V.I V.I ([]:QBg))),.n 7,.o (.ln j.length),.n 4,.K [4,11,12,13] [10]] rfl ⟨⟨⟨tt_,i⟩,rfl⟩,Qj⟩ ?_
 ·cases h
  exact AK.done (ex_ [_,_] (an_ (an_ rfl (an_ rfl tt_)) (QbM tt_)))
 obtain⟨t,m,h⟩:=Qd h
 refine AK.loop (body:=(fun st=>QqD j st.1 st.2)) (fun st σ=>σ=⟨[(4,.map 10),(11,.sl 2 (j.map QaF)),(12,.I (j.length:Int)),(13,.I st.1)],[(10,.map (QK V.I V.I st.2))]⟩) (fun q e σ=>e=.exit 0∧σ=⟨[(4,.map 10)],[(10,.map (QK V.I V.I q))]⟩) m rfl ?_ ?_
 ·rintro ⟨y,u⟩ o σ rfl h
  refine tg_ hC [.n 6] rfl ?_
  rcases Qt h with⟨g,h⟩|⟨g,h⟩
  ·obtain⟨a,p,h⟩:=Qd h
   refine Qa hC [.T,.n 6,.o (.row (QaF a)),.v .no [] (.agg (QaF a)),.n 2,.O 6 (.var (QaF a)),.n 8,.x (fun σ=>σ.set 10 (.map (QK V.I V.I (QbR ltI u a.1 a.2)))),.n 7,.K [4,11,12,13] [10]] rfl ⟨⟨⟨⟨⟨tt_,g⟩,(QF p)⟩,rfl⟩,rfl⟩,(Stp.mapUpdate (e:=V.I) (f:=V.I) (l:=u) (k:=a.1) (v:=a.2) ltI rfl rfl rfl rfl rfl rfl QuZ Qjz rfl)⟩ ?_
   cases h
   exact QV rfl rfl
  refine Qa hC [.F,.n 2,.K [4] [10]] rfl ⟨tt_,g⟩ ?_
  cases h
  exact QW rfl (an_ rfl rfl)
 replace h:QqE t=some r:=h
 rintro e σ ⟨rfl,rfl⟩
 refine tg_ hC [.n 10,.K [2,3] [10],.ren 10 601,.K [2,3] [601]] rfl ?_
 cases h
 exact AK.done (ex_ [_,_] (an_ (an_ rfl (an_ rfl tt_)) (QbM ⟨rfl,tt_⟩)))
def Qnk (a:Unit):Option Int:=
 some 0
noncomputable def QjZ (n9:Int)(k11:Int)(v12:Int):Option (Int⊕Empty):=
 some (.inl (w64 (n9+v12)))
def Qnl (a:Int):Option Int:=
 some a
noncomputable def Qnm (a6:QBg):Option Int:=
 (Qdw (fun st p=>QjZ st p.1 p.2) 0 a6).bind (Sum.elim (fun q=>Qnl q) (fun q=>Empty.elim q))
def QqG (a:QBg):Option Int:=
 (QtN a).bind (Sum.elim (fun q=>Qnk q) (fun q=>Qnm q))
theorem Qso (y){r}(h:QqG y=some r):Qc prog 30 [.sl 2 (y.map QaF)] [] (Qh (.I r) []):=by
 refine Qc.walk 23 func30 rfl rfl rfl fun C hC=>?_
 obtain⟨A,i,h⟩:=Qd h
 refine tg_ hC [.n 8] rfl ?_
 rcases A with(B | u)
 ·replace h:Qnk B=some r:=h
  refine Qa hC [.cm (.fn) [] [] [] [.d] [] (.tup [.lit (.map none),.b false]),.n 16,.x (fun σ=>(σ.set 14 .itr0).put 14 (.loc 14 0 0)),.n 3] rfl ⟨⟨tt_,(QqF _ i)⟩,(Stp.range0 rfl rfl (QC hC.n rfl) rfl QuZ rfl)⟩ ?_
  refine AK.loopOnce ?_
  refine Qa hC [.n 2,.x (fun σ=>σ.put 15 (.tup [.b false])),.n 17] rfl ⟨tt_,(Stp.next0 rfl rfl (QC hC.n rfl) rfl rfl)⟩ ?_
  cases h
  exact d1_ rfl rfl tt_
 replace h:Qnm u=some r:=h
 refine Qa hC [.cm (.fn) [] [(10,601)] [] [.d] [(601,.map (QK V.I V.I u))] (.tup [.map 601,.b true]),.n 16] rfl ⟨tt_,(QqF _ i)⟩ ?_
 refine AK.openMap (b:=10) Qjz rfl fun a c L7 j k=>?_
 refine Qa hC [.x (fun σ=>(σ.set 14 (.itr a c #[] none)).put 14 (.loc 14 0 0)),.n 3,.K [5,14] [10,14]] rfl ⟨tt_,(Stp.range (b:=10) rfl rfl (QC hC.n rfl) rfl rfl QuZ rfl)⟩ ?_
 obtain⟨v,l,h⟩:=Qd h
 refine AK.range (body:=(fun st p=>QjZ st p.1 p.2)) (fun st seen σ=>∃cur:Option Nat,σ=⟨[(5,.I st),(14,.loc 14 0 0)],[(10,.mapX a c (Qbi V.I V.I L7) (QK V.I V.I u)),(14,.itr a c seen cur)]⟩) (fun (q:Empty) _ _=>False) (fun st e σ=>e=.exit 0∧σ=⟨[(5,.I st)],[]⟩) j k l (ex_ _ rfl) ?_ ?_
 ·rintro w seen σ ⟨cur,rfl⟩ hex
  refine tg_ hC [.n 2] rfl ?_
  refine AK.nextT (b:=14) (m:=10) rfl rfl rfl (QC hC.n rfl) rfl rfl rfl rfl ?_ ?_
  ·intro hleft
   refine tg_ hC [.n 7,.K [5] []] rfl ?_
   exact AK.done (Or.inl (an_ hleft (an_ (fun h=>(by cases h)) (an_ rfl rfl))))
  intro z s t g
  obtain⟨o,h⟩:=hex _ g
  have ho:=h
  replace h:QjZ w s t=some o:=h
  refine Qa hC [.n 10,.x (fun σ=>σ.put 17 (.tup [.I s,.I t])),.n 11,.K [5,14] [10,14]] rfl ⟨tt_,(Stp.entryT (b:=14) (m:=10) (e:=V.I) (f:=V.I) rfl rfl (QC hC.n rfl) rfl g rfl rfl)⟩ ?_
  cases h
  exact AK.done (Or.inr (ex_ _ (an_ g (Or.inl (ex_ _ (an_ ho (an_ rfl (ex_ _ rfl))))))))
 rcases v with(w | q)
 ·replace h:Qnl w=some r:=h
  rintro e σ ⟨rfl,rfl⟩
  refine tg_ hC [.n 9] rfl ?_
  cases h
  exact d1_ rfl rfl tt_
 exact q.elim
def Qe2 (e:QMk)(a:Int)(b:(List Int)):Option ((Int×(List Int))⊕(List Int)):=
 bif (decide (a<(e.length:Int)))then
 (idx e a).bind fun c=>
 (QqG c).bind fun d=>
 (idx b a).bind fun f=>
 some (.inl ((w64 (a+1)),(b.set a.toNat d)))
 else
 some (.inr b)
def Qe3 (a:(List Int)):Option (List Int):=
 some a
def Qgq (a:QMk):Option (List Int):=
 (chk (decide (0≤(a.length:Int))&&decide ((a.length:Int)≤(a.length:Int))&&decide ((a.length:Int)≤4294967296))).bind fun _=>
 (Qy (fun st=>Qe2 a st.1 st.2) (0,(List.replicate (a.length:Int).toNat (0:Int)))).bind (fun q=>Qe3 q)
theorem QjQ (b){r}(h:Qgq b=some r):Qc prog 35 [.sl 1 (b.map QjW),.clo (.func 30) [] []] [] (Qh (.own 600 r.length) [(600,.arr 1 (r.map Qb))]):=by
 refine Qc.walk 26 func35 rfl rfl rfl fun C hC=>?_
 obtain⟨l,h⟩:=Qbs h
 refine Qa hC [.n 8,.o (.ln b.length),.o (.rows ((List.replicate (b.length:Int).toNat (0:Int)).map Qb)),.S 10 (.own 10 (List.replicate (b.length:Int).toNat (0:Int)).length),.n 7,.o (.ln b.length),.n 4,.K [1,5,11,12,13] [10]] rfl ⟨⟨⟨⟨tt_,Qj⟩,⟨l,Qlr rfl⟩⟩,(by simp)⟩,Qj⟩ ?_
 obtain⟨u,i,h⟩:=Qd h
 refine AK.loop (body:=(fun st=>Qe2 b st.1 st.2)) (fun st σ=>σ=⟨[(1,.clo (.func 30) [] []),(5,.own 10 st.2.length),(11,.sl 1 (b.map QjW)),(12,.I (b.length:Int)),(13,.I st.1)],[(10,.arr 1 (st.2.map Qb))]⟩) (fun q e σ=>e=.exit 0∧σ=⟨[(5,.own 10 q.length)],[(10,.arr 1 (q.map Qb))]⟩) i rfl ?_ ?_
 ·rintro ⟨s,t⟩ o σ rfl h
  refine tg_ hC [.n 6] rfl ?_
  rcases Qt h with⟨a,h⟩|⟨a,h⟩
  ·obtain⟨m,j,h⟩:=Qd h
   obtain⟨g,k,h⟩:=Qd h
   obtain⟨p,f,h⟩:=Qd h
   refine Qa hC [.T,.n 7,.o (.row (QjW m)),.n 10,.o (.c false [.d] (.I g)),.n 1,.st (Qb p) ((t.set s.toNat g).map Qb),.n 7,.S 5 (.own 10 (t.set s.toNat g).length),.K [1,5,11,12,13] [10]] rfl ⟨⟨⟨⟨⟨⟨tt_,a⟩,(QF j)⟩,(Qso _ k)⟩,(QbQ f rfl)⟩,⟨(Qa2 (Qck f).2),Qix rfl⟩⟩,(congrArg (fun n=>V.own 10 n) (by simp))⟩ ?_
   cases h
   exact QV rfl rfl
  refine Qa hC [.F,.n 2,.K [5] [10]] rfl ⟨tt_,a⟩ ?_
  cases h
  exact QW rfl (an_ rfl rfl)
 replace h:Qe3 u=some r:=h
 rintro e σ ⟨rfl,rfl⟩
 refine tg_ hC [.n 9,.K [4] [10],.ren 10 600] rfl ?_
 cases h
 exact d1_ rfl rfl ⟨rfl,tt_⟩
def QqH (a:(List Int))(b:(List Int)):Option ((List Int)×(List Int)):=
 some (a,b)
theorem Qsp (a b){r}(h:QqH a b=some r):Qc prog 76 [.sl 1 (a.map Qb),.sl 1 (b.map Qb)] [] (Qh (.clo (.func 139) [] [.loc 2 0 0,.loc 3 0 0]) [(2,.var (Qi r.1)),(3,.var (Qi r.2))]):=by
 refine Qc.walk 6 func76 rfl rfl rfl fun C hC=>?_
 refine tg_ hC [.n 14] rfl ?_
 cases h
 exact d1_ rfl rfl ⟨rfl,rfl,tt_⟩
def QrI (a:Int)(b:Int):Option (Int×Int):=
 bif (((decide (a<0))==(decide (b<0)))&&((decide ((w64 (a+b))<0)) != (decide (a<0))))then
 some (0,6)
 else
 some ((w64 (a+b)),0)
theorem Qs0 (a d){r}(h:QrI a d=some r):Qc prog 140 [.I a,.I d] [] (Qh (.tup [.I r.1,.I r.2]) []):=by
 refine Qc.walk 23 func140 rfl rfl rfl fun C hC=>?_
 refine tg_ hC [.n 16] rfl ?_
 refine AK.meetX (fun σ=>σ=⟨[(6,.I (w64 (a+d))),(21,.b (((decide (a<0))==(decide (d<0)))&&((decide ((w64 (a+d))<0)) != (decide (a<0)))))],[]⟩) ?_ ?_
 ·refine tg_ hC [.n 7] rfl ?_
  rcases QS ((decide (a<0))==(decide (d<0)))with c | c
  ·refine Qa hC [.S 15 (.b true),.n 7,.S 21 (.b (((decide (a<0))==(decide (d<0)))&&((decide ((w64 (a+d))<0)) != (decide (a<0))))),.K [6,21] []] rfl ⟨(tc_ c),(congrArg V.b (QbB c rfl))⟩ ?_
   exact AK.met rfl
  refine Qa hC [.S 15 (.b false),.n 7,.S 21 (.b (((decide (a<0))==(decide (d<0)))&&((decide ((w64 (a+d))<0)) != (decide (a<0))))),.K [6,21] []] rfl ⟨(tc_ c),(congrArg V.b (Qdq c rfl))⟩ ?_
  exact AK.met rfl
 rintro σ rfl
 refine tg_ hC [.n 1] rfl ?_
 refine bg_ h (fun e h=>Qa hC [.T,.n 8,.K [4,5] []] rfl ⟨tt_,e⟩ ?_) fun e h=>Qa hC [.F,.n 10,.K [4,5] []] rfl ⟨tt_,e⟩ ?_
 ·cases h
  exact d2_ rfl rfl rfl tt_
 cases h
 exact d2_ rfl rfl rfl tt_
def QkO (a:Int)(b:Int):Option (Int×Int):=
 bif (((decide (a<0)) != (decide (b<0)))&&((decide ((w64 (a-b))<0)) != (decide (a<0))))then
 some (0,6)
 else
 some ((w64 (a-b)),0)
theorem Qoe (a d){r}(h:QkO a d=some r):Qc prog 141 [.I a,.I d] [] (Qh (.tup [.I r.1,.I r.2]) []):=by
 refine Qc.walk 23 func141 rfl rfl rfl fun C hC=>?_
 refine tg_ hC [.n 16] rfl ?_
 refine AK.meetX (fun σ=>σ=⟨[(6,.I (w64 (a-d))),(21,.b (((decide (a<0)) != (decide (d<0)))&&((decide ((w64 (a-d))<0)) != (decide (a<0)))))],[]⟩) ?_ ?_
 ·refine tg_ hC [.n 7] rfl ?_
  rcases QS ((decide (a<0)) != (decide (d<0)))with c | c
  ·refine Qa hC [.S 15 (.b true),.n 7,.S 21 (.b (((decide (a<0)) != (decide (d<0)))&&((decide ((w64 (a-d))<0)) != (decide (a<0))))),.K [6,21] []] rfl ⟨(tc_ c),(congrArg V.b (QbB c rfl))⟩ ?_
   exact AK.met rfl
  refine Qa hC [.S 15 (.b false),.n 7,.S 21 (.b (((decide (a<0)) != (decide (d<0)))&&((decide ((w64 (a-d))<0)) != (decide (a<0))))),.K [6,21] []] rfl ⟨(tc_ c),(congrArg V.b (Qdq c rfl))⟩ ?_
  exact AK.met rfl
 rintro σ rfl
 refine tg_ hC [.n 1] rfl ?_
 refine bg_ h (fun e h=>Qa hC [.T,.n 8,.K [4,5] []] rfl ⟨tt_,e⟩ ?_) fun e h=>Qa hC [.F,.n 10,.K [4,5] []] rfl ⟨tt_,e⟩ ?_
 ·cases h
  exact d2_ rfl rfl rfl tt_
 cases h
 exact d2_ rfl rfl rfl tt_
def QmZ (a:Int):Option Int:=
 bif (decide (a<0))then
 some (IntKind.u64.wrap (0-(IntKind.u64.wrap a)))
 else
 some (IntKind.u64.wrap a)
theorem Qnn (b){r}(h:QmZ b=some r):Qc prog 206 [.I b] [] (Qh (.i .u64 r) []):=by
 refine Qc.walk 10 func206 rfl rfl rfl fun C hC=>?_
 refine tg_ hC [.n 12] rfl ?_
 refine bg_ h (fun a h=>Qa hC [.T,.n 3,.o (.any (.i .u64 (IntKind.u64.wrap b)) none),.n 6,.K [2] []] rfl ⟨⟨tt_,a⟩,(fun σ c d _=>Stp.convI rfl rfl (QC hC.n rfl) (c _ _ rfl) QtM Qpg)⟩ ?_) fun a h=>Qa hC [.F,.n 5,.o (.any (.i .u64 (IntKind.u64.wrap b)) none),.n 4,.K [2] []] rfl ⟨⟨tt_,a⟩,(fun σ c d _=>Stp.convI rfl rfl (QC hC.n rfl) (c _ _ rfl) QtM Qpg)⟩ ?_
 ·cases h
  exact d1_ rfl rfl tt_
 cases h
 exact d1_ rfl rfl tt_
def QkP (a:Int)(b:Int):Option (Int×Int):=
 some ((IntKind.u64.wrap ((IntKind.u64.wrap ((IntKind.u64.wrap ((Qc2 .u64 a 32)*(Qc2 .u64 b 32)))+(Qc2 .u64 (IntKind.u64.wrap ((IntKind.u64.wrap ((Qc2 .u64 a 32)*(Qcy .u64 b 4294967295)))+(Qc2 .u64 (IntKind.u64.wrap ((Qcy .u64 a 4294967295)*(Qcy .u64 b 4294967295))) 32))) 32)))+(Qc2 .u64 (IntKind.u64.wrap ((Qcy .u64 (IntKind.u64.wrap ((IntKind.u64.wrap ((Qc2 .u64 a 32)*(Qcy .u64 b 4294967295)))+(Qc2 .u64 (IntKind.u64.wrap ((Qcy .u64 a 4294967295)*(Qcy .u64 b 4294967295))) 32))) 4294967295)+(IntKind.u64.wrap ((Qcy .u64 a 4294967295)*(Qc2 .u64 b 32))))) 32))),(IntKind.u64.wrap (a*b)))
theorem Qof (b c){r}(h:QkP b c=some r):Qc prog 205 [.i .u64 b,.i .u64 c] [] (Qh (.tup [.i .u64 r.1,.i .u64 r.2]) []):=by
 refine Qc.walk 51 func205 rfl rfl rfl fun C hC=>?_
 refine Qa hC [.n 9,.o (.any (.i .u64 (Qcy .u64 b 4294967295)) none),.n 6,.o (.any (.i .u64 (Qc2 .u64 b 32)) none),.n 6,.o (.any (.i .u64 (Qcy .u64 c 4294967295)) none),.n 6,.o (.any (.i .u64 (Qc2 .u64 c 32)) none),.n 17,.o (.any (.i .u64 (Qc2 .u64 (IntKind.u64.wrap ((Qcy .u64 b 4294967295)*(Qcy .u64 c 4294967295))) 32)) none),.n 7,.o (.any (.i .u64 (Qcy .u64 (IntKind.u64.wrap ((IntKind.u64.wrap ((Qc2 .u64 b 32)*(Qcy .u64 c 4294967295)))+(Qc2 .u64 (IntKind.u64.wrap ((Qcy .u64 b 4294967295)*(Qcy .u64 c 4294967295))) 32))) 4294967295)) none),.n 6,.o (.any (.i .u64 (Qc2 .u64 (IntKind.u64.wrap ((IntKind.u64.wrap ((Qc2 .u64 b 32)*(Qcy .u64 c 4294967295)))+(Qc2 .u64 (IntKind.u64.wrap ((Qcy .u64 b 4294967295)*(Qcy .u64 c 4294967295))) 32))) 32)) none),.n 21,.o (.any (.i .u64 (Qc2 .u64 (IntKind.u64.wrap ((Qcy .u64 (IntKind.u64.wrap ((IntKind.u64.wrap ((Qc2 .u64 b 32)*(Qcy .u64 c 4294967295)))+(Qc2 .u64 (IntKind.u64.wrap ((Qcy .u64 b 4294967295)*(Qcy .u64 c 4294967295))) 32))) 4294967295)+(IntKind.u64.wrap ((Qcy .u64 b 4294967295)*(Qc2 .u64 c 32))))) 32)) none),.n 13] rfl ⟨⟨⟨⟨⟨⟨⟨⟨tt_,(fun σ a d _=>Stp.andB rfl rfl (QC hC.n rfl) (a _ _ rfl) (a _ _ rfl))⟩,(fun σ a d _=>Stp.shr rfl rfl (QC hC.n rfl) (a _ _ rfl) (a _ _ rfl) (by decide))⟩,(fun σ a d _=>Stp.andB rfl rfl (QC hC.n rfl) (a _ _ rfl) (a _ _ rfl))⟩,(fun σ a d _=>Stp.shr rfl rfl (QC hC.n rfl) (a _ _ rfl) (a _ _ rfl) (by decide))⟩,(fun σ a d _=>Stp.shr rfl rfl (QC hC.n rfl) (a _ _ rfl) (a _ _ rfl) (by decide))⟩,(fun σ a d _=>Stp.andB rfl rfl (QC hC.n rfl) (a _ _ rfl) (a _ _ rfl))⟩,(fun σ a d _=>Stp.shr rfl rfl (QC hC.n rfl) (a _ _ rfl) (a _ _ rfl) (by decide))⟩,(fun σ a d _=>Stp.shr rfl rfl (QC hC.n rfl) (a _ _ rfl) (a _ _ rfl) (by decide))⟩ ?_
 cases h
 exact d2_ rfl rfl rfl tt_
def Qir (b:(Int×Int))(c:Int)(d:Int)(a:Int):Option (Int×Int):=
 bif ((decide (0<b.1))||(decide (a<b.2)))then
 some (0,6)
 else
 some ((w64 (c*d)),0)
def Qno (a:Int)(b:Int):Option (Int×Int):=
 (QmZ a).bind fun d=>
 (QmZ b).bind fun e=>
 (QkP d e).bind fun c=>
 bif ((decide (a<0)) != (decide (b<0)))then
 Qir c a b (IntKind.u64.wrap (9223372036854775807+1))
 else
 Qir c a b 9223372036854775807
theorem Qp6 (k l){r}(h:Qno k l=some r):Qc prog 142 [.I k,.I l] [] (Qh (.tup [.I r.1,.I r.2]) []):=by
 refine Qc.walk 34 func142 rfl rfl rfl fun C hC=>?_
 obtain⟨s,m,h⟩:=Qd h
 obtain⟨t,p,h⟩:=Qd h
 obtain⟨f,q,h⟩:=Qd h
 refine Qa hC [.n 9,.o (.c false [.d] (.i .u64 s)),.n 1,.o (.c false [.d] (.i .u64 t)),.o (.c false [.d,.d] (.tup [.i .u64 f.1,.i .u64 f.2])),.n 12] rfl ⟨⟨⟨tt_,(Qnn _ m)⟩,(Qnn _ p)⟩,(Qof _ _ q)⟩ ?_
 refine AK.meet (fun σ=>∃a:Int,σ=⟨[(0,.I k),(1,.I l),(6,.i .u64 f.1),(7,.i .u64 f.2),(8,.i .u64 a)],[]⟩∧Qir f k l a=some r) ?_ ?_
 ·refine tg_ hC [.n 9] rfl ?_
  refine bg_ h (fun g h=>Qa hC [.T,.n 5,.K [0,1,6,7,8] []] rfl ⟨tt_,g⟩ ?_) fun g h=>Qa hC [.F,.n 1,.K [0,1,6,7,8] []] rfl ⟨tt_,g⟩ ?_
  ·exact AK.met (ex_ _ (an_ rfl h))
  exact AK.met (ex_ _ (an_ rfl h))
 rintro σ ⟨a,rfl,h⟩
 refine tg_ hC [.n 2] rfl ?_
 refine AK.meetX (fun σ=>σ=⟨[(0,.I k),(1,.I l),(30,.b ((decide (0<f.1))||(decide (a<f.2))))],[]⟩) ?_ ?_
 ·refine tg_ hC [.n 4] rfl ?_
  rcases QS (decide (0<f.1))with e | e
  ·refine Qa hC [.S 26 (.b true),.n 5,.S 30 (.b ((decide (0<f.1))||(decide (a<f.2)))),.K [0,1,30] []] rfl ⟨(tc_ e),(congrArg V.b (orT e rfl))⟩ ?_
   exact AK.met rfl
  refine Qa hC [.S 26 (.b false),.n 5,.S 30 (.b ((decide (0<f.1))||(decide (a<f.2)))),.K [0,1,30] []] rfl ⟨(tc_ e),(congrArg V.b (orF e rfl))⟩ ?_
  exact AK.met rfl
 rintro σ rfl
 refine tg_ hC [.n 1] rfl ?_
 refine bg_ h (fun j h=>Qa hC [.T,.n 8,.K [4,5] []] rfl ⟨tt_,j⟩ ?_) fun j h=>Qa hC [.F,.n 12,.K [4,5] []] rfl ⟨tt_,j⟩ ?_
 ·cases h
  exact d2_ rfl rfl rfl tt_
 cases h
 exact d2_ rfl rfl rfl tt_
def QjB (b:Int)(a:Int):Option (Int×Int×Int):=
 bif (a==0)then
 some (0,0,7)
 else
 bif ((b==(-9223372036854775808))&&(a==(-1)))then
 some (0,0,6)
 else
 (chk (a != 0)).bind fun _=>
 (chk (a != 0)).bind fun _=>
 some ((w64 (Int.tdiv b a)),(Int.tmod b a),0)
theorem Qkr (d f){r}(h:QjB d f=some r):Qc prog 143 [.I d,.I f] [] (Qh (.tup [.I r.1,.I r.2.1,.I r.2.2]) []):=by
 refine Qc.walk 23 func143 rfl rfl rfl fun C hC=>?_
 refine tg_ hC [.n 16] rfl ?_
 refine bg_ h (fun e h=>Qa hC [.T,.n 10,.K [4,5,6] []] rfl ⟨tt_,e⟩ ?_) fun e h=>Qa hC [.F,.n 1] rfl ⟨tt_,e⟩ ?_
 ·cases h
  exact AK.done (ex_ [_,_,_] (an_ (an_ rfl (an_ rfl (an_ rfl tt_))) (QbM tt_)))
 refine AK.meetX (fun σ=>σ=⟨[(0,.I d),(1,.I f),(10,.b ((d==(-9223372036854775808))&&(f==(-1))))],[]⟩) ?_ ?_
 ·refine tg_ hC [.n 4] rfl ?_
  rcases QS (d==(-9223372036854775808))with a | a
  ·refine Qa hC [.S 13 (.b true),.n 5,.S 10 (.b ((d==(-9223372036854775808))&&(f==(-1)))),.K [0,1,10] []] rfl ⟨(tc_ a),(congrArg V.b (QbB a rfl))⟩ ?_
   exact AK.met rfl
  refine Qa hC [.S 13 (.b false),.n 5,.S 10 (.b ((d==(-9223372036854775808))&&(f==(-1)))),.K [0,1,10] []] rfl ⟨(tc_ a),(congrArg V.b (Qdq a rfl))⟩ ?_
  exact AK.met rfl
 rintro σ rfl
 refine tg_ hC [.n 1] rfl ?_
 rcases Qt h with⟨c,h⟩|⟨c,h⟩
 ·refine Qa hC [.T,.n 10,.K [4,5,6] []] rfl ⟨tt_,c⟩ ?_
  cases h
  exact AK.done (ex_ [_,_,_] (an_ (an_ rfl (an_ rfl (an_ rfl tt_))) (QbM tt_)))
 obtain⟨g,h⟩:=Qbs h
 obtain⟨i,h⟩:=Qbs h
 refine Qa hC [.F,.n 4,.K [0,1] []] rfl ⟨tt_,c⟩ ?_
 refine AK.draw2 Qo hC mixed [.N,.N,.N,.N,.N,.N,.N,.N,.N] [] [] [4,5,6] [] rfl rfl rfl ⟨⟨tt_,(neZ g)⟩,(neZ i)⟩ rfl (by kernel_rfl) rfl rfl rfl ?_
 refine tg_ hC [.n 2,.K [4,5,6] []] rfl ?_
 cases h
 exact AK.done (ex_ [_,_,_] (an_ (an_ rfl (an_ rfl (an_ rfl tt_))) (QbM tt_)))
def QdE (a:Bool):Option (Int×Int):=
 bif a then
 some (1,0)
 else
 some (0,0)
theorem Qcu (c){r}(h:QdE c=some r):Qc prog 144 [.b c] [] (Qh (.tup [.I r.1,.I r.2]) []):=by
 refine Qc.walk 5 func144 rfl rfl rfl fun C hC=>?_
 refine tg_ hC [.n 12] rfl ?_
 refine bg_ h (fun a h=>Qa hC [.T,.n 8,.K [2,3] []] rfl ⟨tt_,a⟩ ?_) fun a h=>Qa hC [.F,.n 9,.K [2,3] []] rfl ⟨tt_,a⟩ ?_
 ·cases h
  exact d2_ rfl rfl rfl tt_
 cases h
 exact d2_ rfl rfl rfl tt_
def QtO (c:Int)(d:Int):Option (Int×Int):=
 bif (c != 0)then
 (QdE (d != 0)).bind fun a=>
 some (a.1,a.2)
 else
 (QdE false).bind fun b=>
 some (b.1,b.2)
def QlC (a:Int)(b:Int):Option (Int×Int):=
 some (a,b)
def QtP (c:Int)(d:Int):Option (Int×Int):=
 bif (c != 0)then
 (QdE true).bind fun a=>
 some (a.1,a.2)
 else
 (QdE (d != 0)).bind fun b=>
 some (b.1,b.2)
def QlD (a:Int)(b:Int):Option (Int×Int):=
 some (a,b)
def Qph (op1:Int)(a:Int)(b:Int):Option (Int×Int):=
 bif (op1==1)then
 (QrI a b).bind fun k=>
 some (k.1,k.2)
 else
 bif (op1==2)then
 (QkO a b).bind fun c=>
 some (c.1,c.2)
 else
 bif (op1==3)then
 (Qno a b).bind fun d=>
 some (d.1,d.2)
 else
 bif (op1==4)then
 (QjB a b).bind fun e=>
 some (e.1,e.2.2)
 else
 bif (op1==5)then
 (QjB a b).bind fun f=>
 some (f.2.1,f.2.2)
 else
 bif (op1==6)then
 (QdE (a==b)).bind fun g=>
 some (g.1,g.2)
 else
 bif (op1==7)then
 (QdE (a != b)).bind fun h=>
 some (h.1,h.2)
 else
 bif (op1==8)then
 (QdE (decide (a<b))).bind fun i=>
 some (i.1,i.2)
 else
 bif (op1==9)then
 (QdE (decide (a≤b))).bind fun j=>
 some (j.1,j.2)
 else
 bif (op1==10)then
 (QtO a b).bind (fun v=>QlC v.1 v.2)
 else
 bif (op1==11)then
 (QtP a b).bind (fun v=>QlD v.1 v.2)
 else
 some (0,1)
theorem Qpi (op1 a2 b3){r}(h:Qph op1 a2 b3=some r):Qc prog 77 [.I op1,.I a2,.I b3] [] (Qh (.tup [.I r.1,.I r.2]) []):=by
 refine Qc.walk 112 func77 rfl rfl rfl fun C hC=>?_
 refine tg_ hC [.n 19] rfl ?_
 rcases Qt h with⟨t,h⟩|⟨t,h⟩
 ·obtain⟨x9,a5,h⟩:=Qd h
  refine Qa hC [.T,.n 4,.o (.c false [.d,.d] (.tup [.I x9.1,.I x9.2])),.n 9] rfl ⟨⟨tt_,t⟩,(Qs0 _ _ a5)⟩ ?_
  cases h
  exact d2_ rfl rfl rfl tt_
 refine Qa hC [.F,.n 6] rfl ⟨tt_,t⟩ ?_
 rcases Qt h with⟨a,h⟩|⟨a,h⟩
 ·obtain⟨x,y,h⟩:=Qd h
  refine Qa hC [.T,.n 4,.o (.c false [.d,.d] (.tup [.I x.1,.I x.2])),.n 9] rfl ⟨⟨tt_,a⟩,(Qoe _ _ y)⟩ ?_
  cases h
  exact d2_ rfl rfl rfl tt_
 refine Qa hC [.F,.n 6] rfl ⟨tt_,a⟩ ?_
 rcases Qt h with⟨e,h⟩|⟨e,h⟩
 ·obtain⟨z,A,h⟩:=Qd h
  refine Qa hC [.T,.n 4,.o (.c false [.d,.d] (.tup [.I z.1,.I z.2])),.n 9] rfl ⟨⟨tt_,e⟩,(Qp6 _ _ A)⟩ ?_
  cases h
  exact d2_ rfl rfl rfl tt_
 refine Qa hC [.F,.n 6] rfl ⟨tt_,e⟩ ?_
 rcases Qt h with⟨f,h⟩|⟨f,h⟩
 ·obtain⟨u,B,h⟩:=Qd h
  refine Qa hC [.T,.n 4,.o (.c false [.d,.d] (.tup [.I u.1,.I u.2.1,.I u.2.2])),.n 20] rfl ⟨⟨tt_,f⟩,(Qkr _ _ B)⟩ ?_
  cases h
  exact d2_ rfl rfl rfl tt_
 refine Qa hC [.F,.n 6] rfl ⟨tt_,f⟩ ?_
 rcases Qt h with⟨g,h⟩|⟨g,h⟩
 ·obtain⟨w,D,h⟩:=Qd h
  refine Qa hC [.T,.n 4,.o (.c false [.d,.d] (.tup [.I w.1,.I w.2.1,.I w.2.2])),.n 20] rfl ⟨⟨tt_,g⟩,(Qkr _ _ D)⟩ ?_
  cases h
  exact d2_ rfl rfl rfl tt_
 refine Qa hC [.F,.n 6] rfl ⟨tt_,g⟩ ?_
 rcases Qt h with⟨i,h⟩|⟨i,h⟩
 ·obtain⟨E,G,h⟩:=Qd h
  refine Qa hC [.T,.n 5,.o (.c false [.d] (.tup [.I E.1,.I E.2])),.n 9] rfl ⟨⟨tt_,i⟩,(Qcu _ G)⟩ ?_
  cases h
  exact d2_ rfl rfl rfl tt_
 refine Qa hC [.F,.n 6] rfl ⟨tt_,i⟩ ?_
 rcases Qt h with⟨j,h⟩|⟨j,h⟩
 ·obtain⟨H,J,h⟩:=Qd h
  refine Qa hC [.T,.n 5,.o (.c false [.d] (.tup [.I H.1,.I H.2])),.n 9] rfl ⟨⟨tt_,j⟩,(Qcu _ J)⟩ ?_
  cases h
  exact d2_ rfl rfl rfl tt_
 refine Qa hC [.F,.n 6] rfl ⟨tt_,j⟩ ?_
 rcases Qt h with⟨k,h⟩|⟨k,h⟩
 ·obtain⟨L,M,h⟩:=Qd h
  refine Qa hC [.T,.n 5,.o (.c false [.d] (.tup [.I L.1,.I L.2])),.n 9] rfl ⟨⟨tt_,k⟩,(Qcu _ M)⟩ ?_
  cases h
  exact d2_ rfl rfl rfl tt_
 refine Qa hC [.F,.n 6] rfl ⟨tt_,k⟩ ?_
 rcases Qt h with⟨l,h⟩|⟨l,h⟩
 ·obtain⟨N,O,h⟩:=Qd h
  refine Qa hC [.T,.n 5,.o (.c false [.d] (.tup [.I N.1,.I N.2])),.n 9] rfl ⟨⟨tt_,l⟩,(Qcu _ O)⟩ ?_
  cases h
  exact d2_ rfl rfl rfl tt_
 refine Qa hC [.F,.n 6] rfl ⟨tt_,l⟩ ?_
 refine bg_ h (fun m h=>Qa hC [.T,.n 1] rfl ⟨tt_,m⟩ ?_) fun m h=>Qa hC [.F,.n 6] rfl ⟨tt_,m⟩ ?_
 ·obtain⟨v,P,h⟩:=Qd h
  replace h:QlC v.1 v.2=some r:=h
  refine AK.meetX (fun σ=>σ=⟨[(6,.I v.1),(7,.I v.2)],[]⟩) ?_ ?_
  ·replace h:=P
   refine tg_ hC [.n 4] rfl ?_
   rcases Qt h with⟨p,h⟩|⟨p,h⟩
   ·obtain⟨U,W,h⟩:=Qd h
    refine Qa hC [.S 94 (.b true),.n 3,.o (.c false [.d] (.tup [.I U.1,.I U.2])),.n 5,.K [6,7] []] rfl ⟨(tc_ p),(Qcu _ W)⟩ ?_
    cases h
    exact AK.met rfl
   obtain⟨X,Y,h⟩:=Qd h
   refine Qa hC [.S 94 (.b false),.n 3,.o (.c false [.d] (.tup [.I X.1,.I X.2])),.n 5,.K [6,7] []] rfl ⟨(tc_ p),(Qcu _ Y)⟩ ?_
   cases h
   exact AK.met rfl
  rintro σ rfl
  obtain⟨a6,a7⟩:=v
  replace h:QlC a6 a7=some r:=h
  refine tg_ hC [.n 4] rfl ?_
  cases h
  exact d2_ rfl rfl rfl tt_
 refine bg_ h (fun q h=>Qa hC [.T,.n 1] rfl ⟨tt_,q⟩ ?_) fun q h=>Qa hC [.F,.n 10,.K [6,7] []] rfl ⟨tt_,q⟩ ?_
 ·obtain⟨v,Z,h⟩:=Qd h
  replace h:QlD v.1 v.2=some r:=h
  refine AK.meetX (fun σ=>σ=⟨[(6,.I v.1),(7,.I v.2)],[]⟩) ?_ ?_
  ·replace h:=Z
   refine tg_ hC [.n 4] rfl ?_
   rcases Qt h with⟨s,h⟩|⟨s,h⟩
   ·obtain⟨a0,a1,h⟩:=Qd h
    refine Qa hC [.S 105 (.b true),.n 3,.o (.c false [.d] (.tup [.I a0.1,.I a0.2])),.n 5,.K [6,7] []] rfl ⟨(tc_ s),(Qcu _ a1)⟩ ?_
    cases h
    exact AK.met rfl
   obtain⟨a3,a4,h⟩:=Qd h
   refine Qa hC [.S 105 (.b false),.n 3,.o (.c false [.d] (.tup [.I a3.1,.I a3.2])),.n 5,.K [6,7] []] rfl ⟨(tc_ s),(Qcu _ a4)⟩ ?_
   cases h
   exact AK.met rfl
  rintro σ rfl
  obtain⟨a8,a9⟩:=v
  replace h:QlD a8 a9=some r:=h
  refine tg_ hC [.n 4] rfl ?_
  cases h
  exact d2_ rfl rfl rfl tt_
 cases h
 exact d2_ rfl rfl rfl tt_
def Qew (b:Int)(a:Int):Option ((Int×Int)⊕Int):=
 bif (a != 0)then
 some (.inl (0,a))
 else
 some (.inr b)
def QjC (g:Int)(h:Int)(f:Int)(e:QgB):Option ((Int×Int)⊕Int):=
 (Qph 3 e.a e.b).bind fun d=>
 bif (d.2==0)then
 (Qph 1 f d.1).bind fun c=>
 Qew c.1 c.2
 else
 Qew d.1 d.2
theorem Qih (lpl lpf:Nat)(j:Int)(k:Int)(l:Int)(p:QgB){r:((Int×Int)⊕Int)}(h:QjC j k l p=some r):Qng prog lpl (Qbp lpf) (Qx0 (.loc 610 0 0) (.loc 611 0 0) (.loc 612 0 0) (.agg (QgQ p))) [(609,.lp lpl (Qbp lpf) (Qfq (.loc 610 0 0) (.loc 611 0 0) (.loc 612 0 0)) 0),(610,.var (Qb j)),(611,.var (Qb k)),(612,.var (Qb l))] ((Sum.elim (fun q=>(Qh (.b false) [(609,.lp lpl (Qbp lpf) (Qfq (.loc 610 0 0) (.loc 611 0 0) (.loc 612 0 0)) 2),(610,.var (Qb q.1)),(611,.var (Qb q.2)),(612,.var (Qb l))])) (fun q=>(Qh (.b true) [(609,.lp lpl (Qbp lpf) (Qfq (.loc 610 0 0) (.loc 611 0 0) (.loc 612 0 0)) 0),(610,.var (Qb j)),(611,.var (Qb k)),(612,.var (Qb q))]))) r):=by
 refine Qng.walk (b:=609) 35 rfl rfl fun C hC=>?_
 refine Qa hC [.n 3,.O 7 (.var (QgQ p)),.n 1] rfl ⟨tt_,rfl⟩ ?_
 refine AK.done (an_ rfl (ex_ _ (an_ rfl ?_)))
 obtain⟨t,s,h⟩:=Qd h
 refine Qa hC [.n 7,.o (.c false [.d,.d,.d] (.tup [.I t.1,.I t.2])),.n 7] rfl ⟨tt_,(Qpi _ _ _ s)⟩ ?_
 refine AK.meet (fun σ=>∃m:Int,∃a:Int,σ=⟨[(4,.loc 610 0 0),(5,.loc 611 0 0),(6,.loc 612 0 0),(8,.I m),(9,.I a)],[(609,.lp lpl (Qbp lpf) (Qfq (.loc 610 0 0) (.loc 611 0 0) (.loc 612 0 0)) 1),(610,.var (Qb j)),(611,.var (Qb k)),(612,.var (Qb l))]⟩∧Qew m a=some r) ?_ ?_
 ·refine tg_ hC [.n 6] rfl ?_
  rcases Qt h with⟨e,h⟩|⟨e,h⟩
  ·obtain⟨g,i,h⟩:=Qd h
   refine Qa hC [.T,.n 3,.o (.c false [.d,.d,.d] (.tup [.I g.1,.I g.2])),.n 6,.K [4,5,6,8,9] [609,610,611,612]] rfl ⟨⟨tt_,e⟩,(Qpi _ _ _ i)⟩ ?_
   exact AK.met (ex_ _ (ex_ _ (an_ rfl h)))
  refine Qa hC [.F,.n 1,.K [4,5,6,8,9] [609,610,611,612]] rfl ⟨tt_,e⟩ ?_
  exact AK.met (ex_ _ (ex_ _ (an_ rfl h)))
 rintro σ ⟨m,a,rfl,h⟩
 refine tg_ hC [.n 7] rfl ?_
 refine bg_ h (fun f h=>Qa hC [.T,.n 4,.O 610 (.var (Qb 0)),.n 1,.O 611 (.var (Qb a)),.n 5,.K [] [609,610,611,612]] rfl ⟨⟨⟨tt_,f⟩,rfl⟩,rfl⟩ ?_) fun f h=>Qa hC [.F,.n 5,.O 612 (.var (Qb m)),.n 2,.K [] [609,610,611,612]] rfl ⟨⟨tt_,f⟩,rfl⟩ ?_
 ·cases h
  refine AK.done ?_
  exact ex_ _ (an_ rfl (QbM ⟨rfl,rfl,rfl,rfl,tt_⟩))
 cases h
 refine AK.done ?_
 exact ex_ _ (an_ rfl (QbM ⟨rfl,rfl,rfl,rfl,tt_⟩))
def QlE (b:Int)(a:(Int×Int)):Option ((Int×Int)⊕((Int×Int×Int)⊕Int)):=
 some (.inr (.inl (a.1,a.2,b)))
def QlF (a:Int)(b:Int):Option ((Int×Int)⊕((Int×Int×Int)⊕Int)):=
 some (.inl ((w64 (a+1)),b))
def QlG (f:(List Int))(g:(List Int))(h:Int)(i:Int)(a:Int)(b:Int):Option ((Int×Int)⊕((Int×Int×Int)⊕Int)):=
 bif (decide (a<(min2 (f.length:Int) (g.length:Int))))then
 (idx f a).bind fun c=>
 (idx g a).bind fun d=>
 (QjC h i b (QgB.mk c d)).bind fun e=>
 (Sum.elim (fun q=>QlE b q) (fun q=>QlF a q)) e
 else
 some (.inr (.inr b))
def QlH (a:Int)(b:Int)(c:Int):Option ((Int×Int×Int)⊕Int):=
 some (.inl (a,b,c))
def QlI (a:Int):Option ((Int×Int×Int)⊕Int):=
 some (.inr a)
def QoB (a:Int)(b:Int)(c:Int)(d:(List Int))(e:(List Int)):Option ((Int×Int×Int)⊕Int):=
 (Qy (fun st=>QlG d e a b st.1 st.2) (0,c)).bind (Sum.elim (fun q=>QlH q.1 q.2.1 q.2.2) (fun q=>QlI q))
theorem QlJ (lpl lpf:Nat)(k:Int)(l:Int)(P:Int)(i:(List Int))(j:(List Int)){r:((Int×Int×Int)⊕Int)}(h:QoB k l P i j=some r):Qc prog 139 [.clo (.yield lpl) [] [],.loc 613 0 0,.loc 614 0 0] [(609,.lp lpl (Qbp lpf) (Qfq (.loc 610 0 0) (.loc 611 0 0) (.loc 612 0 0)) 0),(610,.var (Qb k)),(611,.var (Qb l)),(612,.var (Qb P)),(613,.var (Qi i)),(614,.var (Qi j))] ((Sum.elim (fun q=>(Qh (.tup []) [(609,.lp lpl (Qbp lpf) (Qfq (.loc 610 0 0) (.loc 611 0 0) (.loc 612 0 0)) 2),(610,.var (Qb q.1)),(611,.var (Qb q.2.1)),(612,.var (Qb q.2.2)),(613,.var (Qi i)),(614,.var (Qi j))])) (fun q=>(Qh (.tup []) [(609,.lp lpl (Qbp lpf) (Qfq (.loc 610 0 0) (.loc 611 0 0) (.loc 612 0 0)) 0),(610,.var (Qb k)),(611,.var (Qb l)),(612,.var (Qb q)),(613,.var (Qi i)),(614,.var (Qi j))]))) r):=by
 refine Qc.walk 26 func139 rfl rfl rfl fun C hC=>?_
 refine Qa hC [.n 3,.o (.ln i.length),.n 1,.o (.ln j.length),.n 5,.K [0,1,2,9,10] [609,610,611,612,613,614]] rfl ⟨⟨tt_,Qj⟩,Qj⟩ ?_
 obtain⟨B,y,h⟩:=Qd h
 refine AK.loop (body:=(fun st=>QlG i j k l st.1 st.2)) (fun st σ=>σ=⟨[(0,.clo (.yield lpl) [] []),(1,.loc 613 0 0),(2,.loc 614 0 0),(9,.I (min2 (i.length:Int) (j.length:Int))),(10,.I st.1)],[(609,.lp lpl (Qbp lpf) (Qfq (.loc 610 0 0) (.loc 611 0 0) (.loc 612 0 0)) 0),(610,.var (Qb k)),(611,.var (Qb l)),(612,.var (Qb st.2)),(613,.var (Qi i)),(614,.var (Qi j))]⟩) (Sum.elim (fun q e σ=>e=.ret∧σ=⟨[],[(609,.lp lpl (Qbp lpf) (Qfq (.loc 610 0 0) (.loc 611 0 0) (.loc 612 0 0)) 2),(610,.var (Qb q.1)),(611,.var (Qb q.2.1)),(612,.var (Qb q.2.2)),(613,.var (Qi i)),(614,.var (Qi j))]⟩) (fun q e σ=>e=.exit 0∧σ=⟨[],[(609,.lp lpl (Qbp lpf) (Qfq (.loc 610 0 0) (.loc 611 0 0) (.loc 612 0 0)) 0),(610,.var (Qb k)),(611,.var (Qb l)),(612,.var (Qb q)),(613,.var (Qi i)),(614,.var (Qi j))]⟩)) y rfl ?_ ?_
 ·rintro ⟨D,p⟩ o σ rfl h
  refine tg_ hC [.n 6] rfl ?_
  refine bg_ h (fun f h=>Qa hC [.T,.n 11] rfl ⟨tt_,f⟩ ?_) fun f h=>Qa hC [.F,.n 2,.K [] [609,610,611,612,613,614]] rfl ⟨tt_,f⟩ ?_
  ·obtain⟨s,v,h⟩:=Qd h
   obtain⟨t,w,h⟩:=Qd h
   obtain⟨E,x,h⟩:=Qd h
   rcases E with(c | u)
   ·replace h:QlE p c=some o:=h
    refine tg_ hC [.K [0,1,2,4,9,10] [609,610,611,612,613,614]] rfl ?_
    refine AK.draw2 Qo hC mixed [.N,.N,.N,.a (.row (Qb s)) none false,.N,.N,.N,.a (.row (Qb t)) none false,.N,.a .no (some ([],.agg (QgQ (QgB.mk s t)))) false,.m (.any ⟨[],[(609,.lp lpl (Qbp lpf) (Qfq (.loc 610 0 0) (.loc 611 0 0) (.loc 612 0 0)) 2),(610,.var (Qb c.1)),(611,.var (Qb c.2)),(612,.var (Qb p))],some (23,.b false)⟩),.N] [] [] [0,1,2,9,10,24] [609,610,611,612,613,614] rfl rfl rfl ⟨⟨⟨⟨tt_,(QF v)⟩,(QF w)⟩,rfl⟩,(fun σ z A=>Stp.yieldH (b:=609) (M:=[(609,609),(610,610),(611,611),(612,612)]) (N:=[(609,609),(610,610),(611,611),(612,612)]) (dead:=[]) (ms:=[.d,.d,.d,.d,.d,.d,.d,.d,.d,.d,.d,.d,.d,.d,.d,.d,.d,.d,.d,.d,.d,.d,.d,.d,.d,.d,.d,.d,.d,.d,.d,.d,.d,.d,.d]) (outs:=[(609,.lp lpl (Qbp lpf) (Qfq (.loc 610 0 0) (.loc 611 0 0) (.loc 612 0 0)) 2),(610,.var (Qb c.1)),(611,.var (Qb c.2)),(612,.var (Qb p))]) (r:=.b false) A rfl (z _ _ rfl) (A _ _ rfl) rfl (QcO z rfl) rfl rfl (QC hC.n rfl) hC.g rfl rfl rfl rfl rfl rfl rfl rfl (Qih _ _ _ _ _ _ x))⟩ rfl (by kernel_rfl) rfl rfl rfl ?_
    refine Qa hC [.O 609 (.lp lpl (Qbp lpf) (Qfq (.loc 610 0 0) (.loc 611 0 0) (.loc 612 0 0)) 2),.O 610 (.var (Qb c.1)),.O 611 (.var (Qb c.2)),.O 612 (.var (Qb p)),.n 5,.K [] [609,610,611,612,613,614]] rfl ⟨⟨⟨⟨tt_,rfl⟩,rfl⟩,rfl⟩,rfl⟩ ?_
    cases h
    exact QaY rfl (an_ rfl rfl)
   replace h:QlF D u=some o:=h
   refine tg_ hC [.K [0,1,2,4,9,10] [609,610,611,612,613,614]] rfl ?_
   refine AK.draw2 Qo hC mixed [.N,.N,.N,.a (.row (Qb s)) none false,.N,.N,.N,.a (.row (Qb t)) none false,.N,.a .no (some ([],.agg (QgQ (QgB.mk s t)))) false,.m (.any ⟨[],[(609,.lp lpl (Qbp lpf) (Qfq (.loc 610 0 0) (.loc 611 0 0) (.loc 612 0 0)) 0),(610,.var (Qb k)),(611,.var (Qb l)),(612,.var (Qb u))],some (23,.b true)⟩),.N] [] [] [0,1,2,9,10,24] [609,610,611,612,613,614] rfl rfl rfl ⟨⟨⟨⟨tt_,(QF v)⟩,(QF w)⟩,rfl⟩,(fun σ z A=>Stp.yieldH (b:=609) (M:=[(609,609),(610,610),(611,611),(612,612)]) (N:=[(609,609),(610,610),(611,611),(612,612)]) (dead:=[]) (ms:=[.d,.d,.d,.d,.d,.d,.d,.d,.d,.d,.d,.d,.d,.d,.d,.d,.d,.d,.d,.d,.d,.d,.d,.d,.d,.d,.d,.d,.d,.d,.d,.d,.d,.d,.d]) (outs:=[(609,.lp lpl (Qbp lpf) (Qfq (.loc 610 0 0) (.loc 611 0 0) (.loc 612 0 0)) 0),(610,.var (Qb k)),(611,.var (Qb l)),(612,.var (Qb u))]) (r:=.b true) A rfl (z _ _ rfl) (A _ _ rfl) rfl (QcO z rfl) rfl rfl (QC hC.n rfl) hC.g rfl rfl rfl rfl rfl rfl rfl rfl (Qih _ _ _ _ _ _ x))⟩ rfl (by kernel_rfl) rfl rfl rfl ?_
   refine Qa hC [.O 609 (.lp lpl (Qbp lpf) (Qfq (.loc 610 0 0) (.loc 611 0 0) (.loc 612 0 0)) 0),.O 610 (.var (Qb k)),.O 611 (.var (Qb l)),.O 612 (.var (Qb u)),.n 9,.K [0,1,2,9,10] [609,610,611,612,613,614]] rfl ⟨⟨⟨⟨tt_,rfl⟩,rfl⟩,rfl⟩,rfl⟩ ?_
   cases h
   exact QV rfl rfl
  cases h
  exact QW rfl (an_ rfl rfl)
 rcases B with(⟨G,H,J⟩|L)
 ·replace h:QlH G H J=some r:=h
  rintro e σ ⟨rfl,rfl⟩
  refine tg_ hC [.n 1,.K [] [609,610,611,612,613,614]] rfl ?_
  cases h
  refine AK.done ?_
  exact ex_ [] (an_ tt_ (QbM ⟨rfl,rfl,rfl,rfl,rfl,rfl,tt_⟩))
 replace h:QlI L=some r:=h
 rintro e σ ⟨rfl,rfl⟩
 refine tg_ hC [.n 1,.K [] [609,610,611,612,613,614]] rfl ?_
 cases h
 refine AK.done ?_
 exact ex_ [] (an_ tt_ (QbM ⟨rfl,rfl,rfl,rfl,rfl,rfl,tt_⟩))
def Qnp (a:(Int×Int×Int)):Option (Int×Int):=
 some (a.1,a.2.1)
def Qnq (a:Int):Option (Int×Int):=
 some (a,0)
def Qm0 (b:(List Int))(c:(List Int)):Option (Int×Int):=
 (QqH b c).bind fun a=>
 (QoB 0 0 0 a.1 a.2).bind (Sum.elim (fun q=>Qnp q) (fun q=>Qnq q))
theorem Qnr (g i){r}(h:Qm0 g i=some r):Qc prog 34 [.sl 1 (g.map Qb),.sl 1 (i.map Qb)] [] (Qh (.tup [.I r.1,.I r.2]) []):=by
 refine Qc.walkR 35 func34 rfl ntmps34 rfl fun C hC hR=>?_
 obtain⟨b,f,h⟩:=Qd h
 refine Qa hC [.n 10,.O 6 (.var (Qb 0)),.n 7,.cm (.fn) [] [(12,2),(603,3)] [] [.d,.d] [(2,.var (Qi b.1)),(3,.var (Qi b.2))] (.clo (.func 139) [] [.loc 2 0 0,.loc 3 0 0]),.n 3,.K [4,5,6,12] [4,5,6,12,603]] rfl ⟨⟨tt_,rfl⟩,(Qsp _ _ f)⟩ ?_
 obtain⟨j,c,h⟩:=Qd h
 rcases j with(e | a)
 ·replace h:Qnp e=some r:=h
  refine AK.rangeF 607 [4,5,6] [(609,607),(610,4),(611,5),(612,6),(613,12),(614,603)] [(607,609),(4,610),(5,611),(6,612),(12,613),(603,614)] [] [.d,.d,.d] Qbp hC hR (fun _=>rfl) rfl rfl rfl rfl fun lpl lpf=>?_
  refine ex_ [(609,.lp lpl (Qbp lpf) (Qfq (.loc 610 0 0) (.loc 611 0 0) (.loc 612 0 0)) 2),(610,.var (Qb e.1)),(611,.var (Qb e.2.1)),(612,.var (Qb e.2.2)),(613,.var (Qi b.1)),(614,.var (Qi b.2))] (ex_ (.tup []) (ex_ _ (ex_ _ (ex_ (Qfq (.loc 4 0 0) (.loc 5 0 0) (.loc 6 0 0)) (ex_ 2 (an_ rfl ?_))))))
  refine an_ (QlJ _ _ _ _ _ _ _ c) (an_ rfl (an_ (bne_iff_ne.1 (show(2 != 1)=true from rfl)) ?_))
  refine QxW rfl ?_
  refine tg_ hC [.n 3,.K [4,5] [4,5]] rfl ?_
  cases h
  exact AK.done (ex_ [_,_] (an_ (an_ (ex_ _ (ex_ _ (an_ rfl (an_ rfl (Or.inr (an_ (Qo.ag rfl) rfl)))))) (an_ (ex_ _ (ex_ _ (an_ rfl (an_ rfl (Or.inr (an_ (Qo.ag rfl) rfl)))))) tt_)) (QbM tt_)))
 replace h:Qnq a=some r:=h
 refine AK.rangeF 607 [4,5,6] [(609,607),(610,4),(611,5),(612,6),(613,12),(614,603)] [(607,609),(4,610),(5,611),(6,612),(12,613),(603,614)] [] [.d,.d,.d] Qbp hC hR (fun _=>rfl) rfl rfl rfl rfl fun lpl lpf=>?_
 refine ex_ [(609,.lp lpl (Qbp lpf) (Qfq (.loc 610 0 0) (.loc 611 0 0) (.loc 612 0 0)) 0),(610,.var (Qb 0)),(611,.var (Qb 0)),(612,.var (Qb a)),(613,.var (Qi b.1)),(614,.var (Qi b.2))] (ex_ (.tup []) (ex_ _ (ex_ _ (ex_ (Qfq (.loc 4 0 0) (.loc 5 0 0) (.loc 6 0 0)) (ex_ 0 (an_ rfl ?_))))))
 refine an_ (QlJ _ _ _ _ _ _ _ c) (an_ rfl (an_ (bne_iff_ne.1 (show(0 != 1)=true from rfl)) ?_))
 refine QxV rfl ?_
 refine Qa hC [.n 6,.O 4 (.var (Qb a)),.n 1,.O 5 (.var (Qb 0)),.n 3,.K [4,5] [4,5]] rfl ⟨⟨tt_,rfl⟩,rfl⟩ ?_
 cases h
 exact AK.done (ex_ [_,_] (an_ (an_ (ex_ _ (ex_ _ (an_ rfl (an_ rfl (Or.inr (an_ (Qo.ag rfl) rfl)))))) (an_ (ex_ _ (ex_ _ (an_ rfl (an_ rfl (Or.inr (an_ (Qo.ag rfl) rfl)))))) tt_)) (QbM tt_)))
def QoC (a:(List Int))(b:QMk):Option (Int×Int):=
 bif ((a.length:Int) != (b.length:Int))then
 some (0,1)
 else
 (Qgq b).bind fun d=>
 (Qm0 a d).bind fun c=>
 some (c.1,c.2)
theorem QqN (b e){r}(h:QoC b e=some r):Qc prog 12 [.sl 1 (b.map Qb),.sl 1 (e.map QjW)] [] (Qh (.tup [.I r.1,.I r.2]) []):=by
 refine Qc.walk 17 func12 rfl rfl rfl fun C hC=>?_
 refine Qa hC [.n 10,.o (.ln b.length),.n 1,.o (.ln e.length),.n 3] rfl ⟨⟨tt_,Qj⟩,Qj⟩ ?_
 rcases Qt h with⟨a,h⟩|⟨a,h⟩
 ·refine Qa hC [.T,.n 8] rfl ⟨tt_,a⟩ ?_
  cases h
  exact d2_ rfl rfl rfl tt_
 obtain⟨f,g,h⟩:=Qd h
 obtain⟨j,i,h⟩:=Qd h
 refine Qa hC [.F,.n 6,.cm (.fn) [] [(13,600)] [] [.d,.d] [(600,.arr 1 (f.map Qb))] (.own 600 f.length),.o (.c true [.d,.o (f.map Qb)] (.tup [.I j.1,.I j.2])),.n 7] rfl ⟨⟨⟨tt_,a⟩,(QjQ _ g)⟩,⟨(QjT rfl),(Qnr _ _ i)⟩⟩ ?_
 cases h
 exact d2_ rfl rfl rfl tt_
def Qmw (c:(List Int))(d:(List Int))(a:Int):Option (Int⊕(Unit⊕Unit)):=
 bif (decide (a<(c.length:Int)))then
 (idx c a).bind fun e=>
 (idx d a).bind fun b=>
 bif (e != b)then
 some (.inr (.inl ()))
 else
 some (.inl (w64 (a+1)))
 else
 some (.inr (.inr ()))
def Qmx : Option Bool:=
 some false
def Qmy : Option Bool:=
 some true
def QjD (a:(List Int))(b:(List Int)):Option Bool:=
 bif ((a.length:Int) != (b.length:Int))then
 some false
 else
 (Qy (fun st=>Qmw a b st) 0).bind (Sum.elim (fun q=>Qmx) (fun q=>Qmy))
theorem QjE (g i){r}(h:QjD g i=some r):Qc prog 17 [.sl 1 (g.map Qb),.sl 1 (i.map Qb)] [] (Qh (.b r) []):=by
 refine Qc.walk 26 func17 rfl rfl rfl fun C hC=>?_
 refine Qa hC [.n 9,.o (.ln g.length),.n 1,.o (.ln i.length),.n 3] rfl ⟨⟨tt_,Qj⟩,Qj⟩ ?_
 refine bg_ h (fun d h=>Qa hC [.T,.n 7,.K [4] []] rfl ⟨tt_,d⟩ ?_) fun d h=>Qa hC [.F,.n 9,.K [0,1,5] []] rfl ⟨tt_,d⟩ ?_
 ·cases h
  exact d1_ rfl rfl tt_
 obtain⟨l,j,h⟩:=Qd h
 refine AK.loop (body:=(fun st=>Qmw g i st)) (fun st σ=>σ=⟨[(0,.sl 1 (g.map Qb)),(1,.sl 1 (i.map Qb)),(5,.I st)],[]⟩) (Sum.elim (fun q e σ=>e=.ret∧σ=⟨[(4,.b false)],[]⟩) (fun q e σ=>e=.exit 0∧σ=⟨[],[]⟩)) j rfl ?_ ?_
 ·rintro t o σ rfl h
  refine Qa hC [.n 5,.o (.ln g.length),.n 3] rfl ⟨tt_,Qj⟩ ?_
  rcases Qt h with⟨f,h⟩|⟨f,h⟩
  ·obtain⟨s,m,h⟩:=Qd h
   obtain⟨p,k,h⟩:=Qd h
   refine Qa hC [.T,.n 5,.K [0,1,5] []] rfl ⟨tt_,f⟩ ?_
   refine AK.draw2 Qo hC mixed [.N,.N,.a (.row (Qb s)) none false,.N,.N,.N,.a (.row (Qb p)) none false,.N,.N] [] [] [0,1,5,25] [] rfl rfl rfl ⟨⟨tt_,(QF m)⟩,(QF k)⟩ rfl (by kernel_rfl) rfl rfl rfl ?_
   refine tg_ hC [.n 1] rfl ?_
   refine bg_ h (fun c h=>Qa hC [.T,.n 8,.K [4] []] rfl ⟨tt_,c⟩ ?_) fun c h=>Qa hC [.F,.n 8,.K [0,1,5] []] rfl ⟨tt_,c⟩ ?_
   ·cases h
    exact QaY rfl (an_ rfl rfl)
   cases h
   exact QV rfl rfl
  refine Qa hC [.F,.n 2,.K [] []] rfl ⟨tt_,f⟩ ?_
  cases h
  exact QW rfl (an_ rfl rfl)
 rcases l with(_ | _)
 ·replace h:Qmx=some r:=h
  rintro e σ ⟨rfl,rfl⟩
  refine tg_ hC [.n 2] rfl ?_
  cases h
  exact d1_ rfl rfl tt_
 replace h:Qmy=some r:=h
 rintro e σ ⟨rfl,rfl⟩
 refine tg_ hC [.n 8] rfl ?_
 cases h
 exact d1_ rfl rfl tt_
def Qmz (d:QLL)(e:QLL)(a:Int):Option (Int⊕(Unit⊕Unit)):=
 bif (decide (a<(d.length:Int)))then
 (idx d a).bind fun f=>
 (idx e a).bind fun b=>
 (QjD f b).bind fun c=>
 bif (!c)then
 some (.inr (.inl ()))
 else
 some (.inl (w64 (a+1)))
 else
 some (.inr (.inr ()))
def QmA : Option Bool:=
 some false
def QmB : Option Bool:=
 some true
def QlK (a:QLL)(b:QLL):Option Bool:=
 bif ((a.length:Int) != (b.length:Int))then
 some false
 else
 (Qy (fun st=>Qmz a b st) 0).bind (Sum.elim (fun q=>QmA) (fun q=>QmB))
theorem QmC (j k){r}(h:QlK j k=some r):Qc prog 14 [.sl 1 (j.map Qi),.sl 1 (k.map Qi)] [] (Qh (.b r) []):=by
 refine Qc.walk 27 func14 rfl rfl rfl fun C hC=>?_
 refine Qa hC [.n 9,.o (.ln j.length),.n 1,.o (.ln k.length),.n 3] rfl ⟨⟨tt_,Qj⟩,Qj⟩ ?_
 refine bg_ h (fun g h=>Qa hC [.T,.n 7,.K [4] []] rfl ⟨tt_,g⟩ ?_) fun g h=>Qa hC [.F,.n 9,.K [0,1,5] []] rfl ⟨tt_,g⟩ ?_
 ·cases h
  exact d1_ rfl rfl tt_
 obtain⟨s,l,h⟩:=Qd h
 refine AK.loop (body:=(fun st=>Qmz j k st)) (fun st σ=>σ=⟨[(0,.sl 1 (j.map Qi)),(1,.sl 1 (k.map Qi)),(5,.I st)],[]⟩) (Sum.elim (fun q e σ=>e=.ret∧σ=⟨[(4,.b false)],[]⟩) (fun q e σ=>e=.exit 0∧σ=⟨[],[]⟩)) l rfl ?_ ?_
 ·rintro x o σ rfl h
  refine Qa hC [.n 5,.o (.ln j.length),.n 3] rfl ⟨tt_,Qj⟩ ?_
  rcases Qt h with⟨i,h⟩|⟨i,h⟩
  ·obtain⟨w,t,h⟩:=Qd h
   obtain⟨u,m,h⟩:=Qd h
   obtain⟨v,p,h⟩:=Qd h
   refine Qa hC [.T,.n 5,.K [0,1,5] []] rfl ⟨tt_,i⟩ ?_
   refine AK.draw2 Qo hC mixed [.N,.N,.a (.row (Qi w)) none false,.N,.N,.N,.a (.row (Qi u)) none false,.N,.a (.c false [.d,.d] (.b v)) none false,.N] [] [] [0,1,5,26] [] rfl rfl rfl ⟨⟨⟨tt_,(QF t)⟩,(QF m)⟩,(QjE _ _ p)⟩ rfl (by kernel_rfl) rfl rfl rfl ?_
   refine tg_ hC [.n 1] rfl ?_
   refine bg_ h (fun f h=>Qa hC [.T,.n 8,.K [4] []] rfl ⟨tt_,f⟩ ?_) fun f h=>Qa hC [.F,.n 8,.K [0,1,5] []] rfl ⟨tt_,f⟩ ?_
   ·cases h
    exact QaY rfl (an_ rfl rfl)
   cases h
   exact QV rfl rfl
  refine Qa hC [.F,.n 2,.K [] []] rfl ⟨tt_,i⟩ ?_
  cases h
  exact QW rfl (an_ rfl rfl)
 rcases s with(_ | _)
 ·replace h:QmA=some r:=h
  rintro e σ ⟨rfl,rfl⟩
  refine tg_ hC [.n 2] rfl ?_
  cases h
  exact d1_ rfl rfl tt_
 replace h:QmB=some r:=h
 rintro e σ ⟨rfl,rfl⟩
 refine tg_ hC [.n 8] rfl ?_
 cases h
 exact d1_ rfl rfl tt_
def QmD (a:Int)(b:(List Int)):Option Bool:=
 (idx b a).bind fun c=>
 some (c != 0)
theorem Qpj (a c){r}(h:QmD a c=some r):Qc prog 46 [.I a,.loc 609 0 0] [(609,.var (Qi c))] (Qh (.b r) [(609,.var (Qi c))]):=by
 refine Qc.walk 9 func46 rfl rfl rfl fun C hC=>?_
 obtain⟨e,d,h⟩:=Qd h
 refine Qa hC [.n 9,.o (.row (Qb e)),.n 6] rfl ⟨tt_,(QF d)⟩ ?_
 cases h
 exact d1_ rfl rfl ⟨rfl,tt_⟩
def Qd1 (c:(List Int))(d:(List Int))(a:Int):Option (Int⊕(Int⊕Unit)):=
 bif (decide (a<(c.length:Int)))then
 (idx c a).bind fun e=>
 (QmD e d).bind fun b=>
 bif b then
 some (.inr (.inl a))
 else
 some (.inl (w64 (a+1)))
 else
 some (.inr (.inr ()))
def Qd2 (a:Int):Option Int:=
 some a
def Qd3 : Option Int:=
 some (-1)
def Qe4 (a:(List Int))(b:(List Int)):Option Int:=
 (Qy (fun st=>Qd1 a b st) 0).bind (Sum.elim (fun q=>Qd2 q) (fun q=>Qd3))
theorem Qi5 (g c){r}(h:Qe4 g c=some r):Qc prog 80 [.sl 1 (g.map Qb),.clo (.func 46) [] [.loc 609 0 0]] [(609,.var (Qi c))] (Qh (.I r) [(609,.var (Qi c))]):=by
 refine Qc.walk 19 func80 rfl rfl rfl fun C hC=>?_
 refine Qa hC [.n 9,.o (.ln g.length),.n 4,.K [0,1,7,8] [609]] rfl ⟨tt_,Qj⟩ ?_
 obtain⟨k,i,h⟩:=Qd h
 refine AK.loop (body:=(fun st=>Qd1 g c st)) (fun st σ=>σ=⟨[(0,.sl 1 (g.map Qb)),(1,.clo (.func 46) [] [.loc 609 0 0]),(7,.I (g.length:Int)),(8,.I st)],[(609,.var (Qi c))]⟩) (Sum.elim (fun q e σ=>e=.ret∧σ=⟨[(4,.I q)],[(609,.var (Qi c))]⟩) (fun q e σ=>e=.exit 0∧σ=⟨[],[(609,.var (Qi c))]⟩)) i rfl ?_ ?_
 ·rintro t o σ rfl h
  refine tg_ hC [.n 6] rfl ?_
  rcases Qt h with⟨f,h⟩|⟨f,h⟩
  ·obtain⟨p,l,h⟩:=Qd h
   obtain⟨m,j,h⟩:=Qd h
   refine Qa hC [.T,.n 15,.o (.row (Qb p)),.n 1,.cm (.clo) [(609,609)] [(609,609)] [] [.d,.d] [(609,.var (Qi c))] (.b m),.n 2] rfl ⟨⟨⟨tt_,f⟩,(QF l)⟩,(Qpj _ _ j)⟩ ?_
   refine bg_ h (fun a h=>Qa hC [.T,.n 9,.K [4] [609]] rfl ⟨tt_,a⟩ ?_) fun a h=>Qa hC [.F,.n 7,.K [0,1,7,8] [609]] rfl ⟨tt_,a⟩ ?_
   ·cases h
    exact QaY rfl (an_ rfl rfl)
   cases h
   exact QV rfl rfl
  refine Qa hC [.F,.n 2,.K [] [609]] rfl ⟨tt_,f⟩ ?_
  cases h
  exact QW rfl (an_ rfl rfl)
 rcases k with(s | _)
 ·replace h:Qd2 s=some r:=h
  rintro e σ ⟨rfl,rfl⟩
  refine tg_ hC [.n 2] rfl ?_
  cases h
  exact d1_ rfl rfl ⟨rfl,tt_⟩
 replace h:Qd3=some r:=h
 rintro e σ ⟨rfl,rfl⟩
 refine tg_ hC [.n 8] rfl ?_
 cases h
 exact d1_ rfl rfl ⟨rfl,tt_⟩
def Qd4 (a:(List Int))(b:(List Int)):Option Bool:=
 (Qe4 a b).bind fun c=>
 some (decide (0≤c))
theorem QhS (e a){r}(h:Qd4 e a=some r):Qc prog 47 [.sl 1 (e.map Qb),.clo (.func 46) [] [.loc 609 0 0]] [(609,.var (Qi a))] (Qh (.b r) [(609,.var (Qi a))]):=by
 refine Qc.walk 9 func47 rfl rfl rfl fun C hC=>?_
 obtain⟨f,c,h⟩:=Qd h
 refine Qa hC [.n 9,.cm (.fn) [(609,609)] [(609,609)] [] [.d,.d] [(609,.var (Qi a))] (.I f),.n 5] rfl ⟨tt_,(Qi5 _ _ c)⟩ ?_
 cases h
 exact d1_ rfl rfl ⟨rfl,tt_⟩
def QmE (b:(List Int))(c:(List Int)):Option Bool:=
 (Qm0 c b).bind fun a=>
 some ((a.1 != 0)||(a.2 != 0))
theorem Qpk (i f){r}(h:QmE i f=some r):Qc prog 45 [.sl 1 (i.map Qb),.loc 609 0 0] [(609,.var (Qi f))] (Qh (.b r) [(609,.var (Qi f))]):=by
 refine Qc.walk 18 func45 rfl rfl rfl fun C hC=>?_
 obtain⟨e,g,h⟩:=Qd h
 refine Qa hC [.n 9,.o (.c false [.d,.d] (.tup [.I e.1,.I e.2])),.n 8] rfl ⟨tt_,(Qnr _ _ g)⟩ ?_
 refine AK.meetX (fun σ=>σ=⟨[(3,.b ((e.1 != 0)||(e.2 != 0)))],[(609,.var (Qi f))]⟩) ?_ ?_
 ·refine tg_ hC [.n 4] rfl ?_
  rcases QS (e.1 != 0)with a | a
  ·refine Qa hC [.S 14 (.b true),.n 5,.S 3 (.b ((e.1 != 0)||(e.2 != 0))),.K [3] [609]] rfl ⟨(tc_ a),(congrArg V.b (orT a rfl))⟩ ?_
   exact AK.met rfl
  refine Qa hC [.S 14 (.b false),.n 5,.S 3 (.b ((e.1 != 0)||(e.2 != 0))),.K [3] [609]] rfl ⟨(tc_ a),(congrArg V.b (orF a rfl))⟩ ?_
  exact AK.met rfl
 rintro σ rfl
 refine tg_ hC [.n 2] rfl ?_
 cases h
 exact d1_ rfl rfl ⟨rfl,tt_⟩
def Qd5 (c:QLL)(d:(List Int))(a:Int):Option (Int⊕(Int⊕Unit)):=
 bif (decide (a<(c.length:Int)))then
 (idx c a).bind fun e=>
 (QmE e d).bind fun b=>
 bif b then
 some (.inr (.inl a))
 else
 some (.inl (w64 (a+1)))
 else
 some (.inr (.inr ()))
def Qd6 (a:Int):Option Int:=
 some a
def Qd7 : Option Int:=
 some (-1)
def Qe5 (a:QLL)(b:(List Int)):Option Int:=
 (Qy (fun st=>Qd5 a b st) 0).bind (Sum.elim (fun q=>Qd6 q) (fun q=>Qd7))
theorem Qi6 (g c){r}(h:Qe5 g c=some r):Qc prog 83 [.sl 1 (g.map Qi),.clo (.func 45) [] [.loc 609 0 0]] [(609,.var (Qi c))] (Qh (.I r) [(609,.var (Qi c))]):=by
 refine Qc.walk 19 func83 rfl rfl rfl fun C hC=>?_
 refine Qa hC [.n 9,.o (.ln g.length),.n 4,.K [0,1,7,8] [609]] rfl ⟨tt_,Qj⟩ ?_
 obtain⟨k,i,h⟩:=Qd h
 refine AK.loop (body:=(fun st=>Qd5 g c st)) (fun st σ=>σ=⟨[(0,.sl 1 (g.map Qi)),(1,.clo (.func 45) [] [.loc 609 0 0]),(7,.I (g.length:Int)),(8,.I st)],[(609,.var (Qi c))]⟩) (Sum.elim (fun q e σ=>e=.ret∧σ=⟨[(4,.I q)],[(609,.var (Qi c))]⟩) (fun q e σ=>e=.exit 0∧σ=⟨[],[(609,.var (Qi c))]⟩)) i rfl ?_ ?_
 ·rintro t o σ rfl h
  refine tg_ hC [.n 6] rfl ?_
  rcases Qt h with⟨f,h⟩|⟨f,h⟩
  ·obtain⟨p,l,h⟩:=Qd h
   obtain⟨m,j,h⟩:=Qd h
   refine Qa hC [.T,.n 15,.o (.row (Qi p)),.n 1,.cm (.clo) [(609,609)] [(609,609)] [] [.d,.d] [(609,.var (Qi c))] (.b m),.n 2] rfl ⟨⟨⟨tt_,f⟩,(QF l)⟩,(Qpk _ _ j)⟩ ?_
   refine bg_ h (fun a h=>Qa hC [.T,.n 9,.K [4] [609]] rfl ⟨tt_,a⟩ ?_) fun a h=>Qa hC [.F,.n 7,.K [0,1,7,8] [609]] rfl ⟨tt_,a⟩ ?_
   ·cases h
    exact QaY rfl (an_ rfl rfl)
   cases h
   exact QV rfl rfl
  refine Qa hC [.F,.n 2,.K [] [609]] rfl ⟨tt_,f⟩ ?_
  cases h
  exact QW rfl (an_ rfl rfl)
 rcases k with(s | _)
 ·replace h:Qd6 s=some r:=h
  rintro e σ ⟨rfl,rfl⟩
  refine tg_ hC [.n 2] rfl ?_
  cases h
  exact d1_ rfl rfl ⟨rfl,tt_⟩
 replace h:Qd7=some r:=h
 rintro e σ ⟨rfl,rfl⟩
 refine tg_ hC [.n 8] rfl ?_
 cases h
 exact d1_ rfl rfl ⟨rfl,tt_⟩
def Qd8 (a:QLL)(b:(List Int)):Option Bool:=
 (Qe5 a b).bind fun c=>
 some (decide (0≤c))
theorem QhT (e a){r}(h:Qd8 e a=some r):Qc prog 48 [.sl 1 (e.map Qi),.clo (.func 45) [] [.loc 609 0 0]] [(609,.var (Qi a))] (Qh (.b r) [(609,.var (Qi a))]):=by
 refine Qc.walk 9 func48 rfl rfl rfl fun C hC=>?_
 obtain⟨f,c,h⟩:=Qd h
 refine Qa hC [.n 9,.cm (.fn) [(609,609)] [(609,609)] [] [.d,.d] [(609,.var (Qi a))] (.I f),.n 5] rfl ⟨tt_,(Qi6 _ _ c)⟩ ?_
 cases h
 exact d1_ rfl rfl ⟨rfl,tt_⟩
def QqO (c:Qm)(d:(List Int)):Option Bool:=
 (Qdf c).bind fun e=>
 (Qd4 e d).bind fun f=>
 bif (!f)then
 (Qdc c).bind fun a=>
 (Qd8 a d).bind fun b=>
 some (!b)
 else
 some false
def Qi7 (a:Bool):Option Bool:=
 some a
def QiN (a:Qm)(b:(List Int)):Option Bool:=
 bif ((b.length:Int) != (a.Places.length:Int))then
 some false
 else
 (QqO a b).bind (fun c=>Qi7 c)
theorem Qi8 (f g){r}(h:QiN f g=some r):Qc prog 20 [.agg (Qe f),.sl 1 (g.map Qb)] [] (Qh (.b r) []):=by
 refine Qc.walk 27 func20 rfl rfl rfl fun C hC=>?_
 refine Qa hC [.n 11,.o (.ln g.length),.n 2,.o (.ln f.Places.length),.n 3] rfl ⟨⟨tt_,Qj⟩,Qj⟩ ?_
 refine bg_ h (fun c h=>Qa hC [.T,.n 7,.K [4] []] rfl ⟨tt_,c⟩ ?_) fun c h=>Qa hC [.F,.n 15] rfl ⟨tt_,c⟩ ?_
 ·cases h
  exact d1_ rfl rfl tt_
 obtain⟨k,l,h⟩:=Qd h
 replace h:Qi7 k=some r:=h
 refine AK.meetX (fun σ=>σ=⟨[(4,.b k)],[]⟩) ?_ ?_
 ·replace h:=l
  obtain⟨m,p,h⟩:=Qd h
  obtain⟨t,q,h⟩:=Qd h
  refine Qa hC [.n 1,.v .no [] (.agg (Qe f)),.o (.co false [.d] 1 (m.map Qb) m.length),.n 1,.frz 16 (m.map Qb) [16] [],.cm (.fn) [(609,3)] [(3,609)] [] [.d,.d] [(609,.var (Qi g))] (.b t),.n 2] rfl ⟨⟨⟨⟨tt_,rfl⟩,⟨(Qhw _ p),Qj,.inl rfl⟩⟩,⟨tt_,(Qfp Qj)⟩⟩,(QhS _ _ q)⟩ ?_
  rcases Qt h with⟨a,h⟩|⟨a,h⟩
  ·obtain⟨e,i,h⟩:=Qd h
   obtain⟨s,j,h⟩:=Qd h
   refine Qa hC [.S 20 (.b true),.v .no [] (.agg (Qe f)),.o (.co false [.d] 1 (e.map Qi) e.length),.n 1,.frz 22 (e.map Qi) [22] [],.cm (.fn) [(609,3)] [(3,609)] [] [.d,.d] [(609,.var (Qi g))] (.b s),.n 4,.K [4] []] rfl ⟨⟨⟨⟨(tc_ a),rfl⟩,⟨(Qhs _ i),Qj,.inl rfl⟩⟩,⟨tt_,(Qfp Qj)⟩⟩,(QhT _ _ j)⟩ ?_
   cases h
   exact AK.met rfl
  refine Qa hC [.S 20 (.b false),.n 8,.K [4] []] rfl (tc_ a) ?_
  cases h
  exact AK.met rfl
 rintro σ rfl
 replace h:Qi7 k=some r:=h
 refine tg_ hC [.n 2] rfl ?_
 cases h
 exact d1_ rfl rfl tt_
def Qii (c:(List Int))(d:Int)(a:Int):Option ((Int×Int)⊕Int):=
 bif (decide (a<(c.length:Int)))then
 (idx c a).bind fun b=>
 some (.inl ((min2 d b),(w64 (a+1))))
 else
 some (.inr d)
def Qij (a:Int):Option Int:=
 some a
def QjF (a:(List Int)):Option Int:=
 bif (decide ((a.length:Int)<1))then
 none
 else
 (idx a 0).bind fun b=>
 (Qy (fun st=>Qii a st.1 st.2) (b,1)).bind (fun q=>Qij q)
theorem Ql7 (c){r}(h:QjF c=some r):Qc prog 50 [.sl 1 (c.map Qb)] [] (Qh (.I r) []):=by
 refine Qc.walk 25 func50 rfl rfl rfl fun C hC=>?_
 refine Qa hC [.n 9,.o (.ln c.length),.n 3] rfl ⟨tt_,Qj⟩ ?_
 rcases Qt h with⟨b,h⟩|⟨b,h⟩
 ·refine Qa hC [.T,.n 2] rfl ⟨tt_,b⟩ ?_
  cases h
 obtain⟨j,g,h⟩:=Qd h
 refine Qa hC [.F,.n 5,.o (.row (Qb j)),.n 11,.K [0,3,4] []] rfl ⟨⟨tt_,b⟩,(QF g)⟩ ?_
 obtain⟨k,d,h⟩:=Qd h
 refine AK.loop (body:=(fun st=>Qii c st.1 st.2)) (fun st σ=>σ=⟨[(0,.sl 1 (c.map Qb)),(3,.I st.1),(4,.I st.2)],[]⟩) (fun q e σ=>e=.exit 0∧σ=⟨[(3,.I q)],[]⟩) d rfl ?_ ?_
 ·rintro ⟨l,m⟩ o σ rfl h
  refine Qa hC [.n 5,.o (.ln c.length),.n 3] rfl ⟨tt_,Qj⟩ ?_
  rcases Qt h with⟨a,h⟩|⟨a,h⟩
  ·obtain⟨i,f,h⟩:=Qd h
   refine Qa hC [.T,.n 8,.o (.row (Qb i)),.n 11,.K [0,3,4] []] rfl ⟨⟨tt_,a⟩,(QF f)⟩ ?_
   cases h
   exact QV rfl rfl
  refine Qa hC [.F,.n 2,.K [3] []] rfl ⟨tt_,a⟩ ?_
  cases h
  exact QW rfl (an_ rfl rfl)
 replace h:Qij k=some r:=h
 rintro e σ ⟨rfl,rfl⟩
 refine tg_ hC [.n 9] rfl ?_
 cases h
 exact d1_ rfl rfl tt_
def Qog (b:Int)(a:(List Int)):Option Bool:=
 bif (decide (b<(a.length:Int)))then
 (idx a b).bind fun c=>
 bif (decide (0<c))then
 (QjF a).bind fun d=>
 some (decide (0≤d))
 else
 some false
 else
 some false
def QfV (a:Bool):Option Bool:=
 some a
def QkQ (a:(List Int))(b:Int):Option Bool:=
 (Qog b a).bind (fun c=>QfV c)
theorem Qoh (g f){r}(h:QkQ g f=some r):Qc prog 49 [.sl 1 (g.map Qb),.loc 609 0 0] [(609,.var (Qb f))] (Qh (.b r) [(609,.var (Qb f))]):=by
 refine Qc.walk 20 func49 rfl rfl rfl fun C hC=>?_
 refine tg_ hC [.n 6] rfl ?_
 obtain⟨i,j,h⟩:=Qd h
 replace h:QfV i=some r:=h
 refine AK.meetX (fun σ=>σ=⟨[(3,.b i)],[(609,.var (Qb f))]⟩) ?_ ?_
 ·replace h:=j
  refine Qa hC [.n 3,.o (.ln g.length),.n 2] rfl ⟨tt_,Qj⟩ ?_
  rcases Qt h with⟨a,h⟩|⟨a,h⟩
  ·obtain⟨m,k,h⟩:=Qd h
   refine Qa hC [.S 8 (.b true),.n 2,.o (.row (Qb m)),.n 4] rfl ⟨(tc_ a),(QF k)⟩ ?_
   rcases Qt h with⟨e,h⟩|⟨e,h⟩
   ·obtain⟨p,l,h⟩:=Qd h
    refine Qa hC [.S 15 (.b true),.n 1,.o (.c false [.d] (.I p)),.n 4,.K [3] [609]] rfl ⟨(tc_ e),(Ql7 _ l)⟩ ?_
    cases h
    exact AK.met rfl
   refine Qa hC [.S 15 (.b false),.n 6,.K [3] [609]] rfl (tc_ e) ?_
   cases h
   exact AK.met rfl
  refine Qa hC [.S 8 (.b false),.n 13,.K [3] [609]] rfl (tc_ a) ?_
  cases h
  exact AK.met rfl
 rintro σ rfl
 replace h:QfV i=some r:=h
 refine tg_ hC [.n 2] rfl ?_
 cases h
 exact d1_ rfl rfl ⟨rfl,tt_⟩
def Qd9 (c:QLL)(d:Int)(a:Int):Option (Int⊕(Int⊕Unit)):=
 bif (decide (a<(c.length:Int)))then
 (idx c a).bind fun e=>
 (QkQ e d).bind fun b=>
 bif b then
 some (.inr (.inl a))
 else
 some (.inl (w64 (a+1)))
 else
 some (.inr (.inr ()))
def Qea (a:Int):Option Int:=
 some a
def Qeb : Option Int:=
 some (-1)
def Qe6 (a:QLL)(b:Int):Option Int:=
 (Qy (fun st=>Qd9 a b st) 0).bind (Sum.elim (fun q=>Qea q) (fun q=>Qeb))
theorem Qi9 (g c){r}(h:Qe6 g c=some r):Qc prog 83 [.sl 1 (g.map Qi),.clo (.func 49) [] [.loc 609 0 0]] [(609,.var (Qb c))] (Qh (.I r) [(609,.var (Qb c))]):=by
 refine Qc.walk 19 func83 rfl rfl rfl fun C hC=>?_
 refine Qa hC [.n 9,.o (.ln g.length),.n 4,.K [0,1,7,8] [609]] rfl ⟨tt_,Qj⟩ ?_
 obtain⟨k,i,h⟩:=Qd h
 refine AK.loop (body:=(fun st=>Qd9 g c st)) (fun st σ=>σ=⟨[(0,.sl 1 (g.map Qi)),(1,.clo (.func 49) [] [.loc 609 0 0]),(7,.I (g.length:Int)),(8,.I st)],[(609,.var (Qb c))]⟩) (Sum.elim (fun q e σ=>e=.ret∧σ=⟨[(4,.I q)],[(609,.var (Qb c))]⟩) (fun q e σ=>e=.exit 0∧σ=⟨[],[(609,.var (Qb c))]⟩)) i rfl ?_ ?_
 ·rintro t o σ rfl h
  refine tg_ hC [.n 6] rfl ?_
  rcases Qt h with⟨f,h⟩|⟨f,h⟩
  ·obtain⟨p,l,h⟩:=Qd h
   obtain⟨m,j,h⟩:=Qd h
   refine Qa hC [.T,.n 15,.o (.row (Qi p)),.n 1,.cm (.clo) [(609,609)] [(609,609)] [] [.d,.d] [(609,.var (Qb c))] (.b m),.n 2] rfl ⟨⟨⟨tt_,f⟩,(QF l)⟩,(Qoh _ _ j)⟩ ?_
   refine bg_ h (fun a h=>Qa hC [.T,.n 9,.K [4] [609]] rfl ⟨tt_,a⟩ ?_) fun a h=>Qa hC [.F,.n 7,.K [0,1,7,8] [609]] rfl ⟨tt_,a⟩ ?_
   ·cases h
    exact QaY rfl (an_ rfl rfl)
   cases h
   exact QV rfl rfl
  refine Qa hC [.F,.n 2,.K [] [609]] rfl ⟨tt_,f⟩ ?_
  cases h
  exact QW rfl (an_ rfl rfl)
 rcases k with(s | _)
 ·replace h:Qea s=some r:=h
  rintro e σ ⟨rfl,rfl⟩
  refine tg_ hC [.n 2] rfl ?_
  cases h
  exact d1_ rfl rfl ⟨rfl,tt_⟩
 replace h:Qeb=some r:=h
 rintro e σ ⟨rfl,rfl⟩
 refine tg_ hC [.n 8] rfl ?_
 cases h
 exact d1_ rfl rfl ⟨rfl,tt_⟩
def Qec (a:QLL)(b:Int):Option Bool:=
 (Qe6 a b).bind fun c=>
 some (decide (0≤c))
theorem QhU (e a){r}(h:Qec e a=some r):Qc prog 48 [.sl 1 (e.map Qi),.clo (.func 49) [] [.loc 609 0 0]] [(609,.var (Qb a))] (Qh (.b r) [(609,.var (Qb a))]):=by
 refine Qc.walk 9 func48 rfl rfl rfl fun C hC=>?_
 obtain⟨f,c,h⟩:=Qd h
 refine Qa hC [.n 9,.cm (.fn) [(609,609)] [(609,609)] [] [.d,.d] [(609,.var (Qb a))] (.I f),.n 5] rfl ⟨tt_,(Qi9 _ _ c)⟩ ?_
 cases h
 exact d1_ rfl rfl ⟨rfl,tt_⟩
def Qhz (b:Int)(a:(List Int)):Option ((Int×(List Int))⊕(List Int)):=
 some (.inl ((w64 (b+1)),a))
def Qks (a:Int)(e:QLL)(b:Int)(c:(List Int)):Option ((Int×(List Int))⊕(List Int)):=
 bif (decide (b<(max2 0 (min2 a 1000))))then
 (Qec e b).bind fun d=>
 bif d then
 (chk (decide (c.length+([b]:List Int).length≤4294967296))).bind fun _=>
 Qhz b (c++([b]:List Int))
 else
 Qhz b c
 else
 some (.inr c)
def Qkt (a:(List Int)):Option (List Int):=
 some a
def QmF (b:QLL)(a:Int):Option (List Int):=
 (Qy (fun st=>Qks a b st.1 st.2) (0,([]:List Int))).bind (fun q=>Qkt q)
theorem Qpl (j a){r}(h:QmF j a=some r):Qc prog 22 [.sl 1 (j.map Qi),.I a] [] (Qh (.own 600 r.length) [(600,.arr 1 (r.map Qb))]):=by
 refine Qc.walk 24 func22 rfl rfl rfl fun C hC=>?_
 refine Qa hC [.n 20,.adopt 5 18 1,.O 18 (.arr 1 (([]:List Int).map Qb)),.S 5 (.own 18 ([]:List Int).length),.K [0,5,10,11] [18]] rfl ⟨⟨tt_,rfl⟩,(congrArg (fun n=>V.own 18 n) (by simp))⟩ ?_
 obtain⟨t,k,h⟩:=Qd h
 refine AK.loop (body:=(fun st=>Qks a j st.1 st.2)) (fun st σ=>σ=⟨[(0,.sl 1 (j.map Qi)),(5,.own 18 st.2.length),(10,.I (max2 0 (min2 a 1000))),(11,.I st.1)],[(18,.arr 1 (st.2.map Qb))]⟩) (fun q e σ=>e=.exit 0∧σ=⟨[(5,.own 18 q.length)],[(18,.arr 1 (q.map Qb))]⟩) k rfl ?_ ?_
 ·rintro ⟨i,s⟩ o σ rfl h
  refine tg_ hC [.n 6] rfl ?_
  refine bg_ h (fun c h=>Qa hC [.T,.n 2] rfl ⟨tt_,c⟩ ?_) fun c h=>Qa hC [.F,.n 2,.K [5] [18]] rfl ⟨tt_,c⟩ ?_
  ·refine AK.meet (fun σ=>∃g:(List Int),σ=⟨[(0,.sl 1 (j.map Qi)),(5,.own 18 g.length),(10,.I (max2 0 (min2 a 1000))),(11,.I i)],[(18,.arr 1 (g.map Qb))]⟩∧Qhz i g=some o) ?_ ?_
   ·obtain⟨p,l,h⟩:=Qd h
    refine Qa hC [.n 6,.O 6 (.var (Qb i)),.n 12,.cm (.fn) [(609,6)] [(6,609)] [] [.d,.d] [(609,.var (Qb i))] (.b p),.n 2] rfl ⟨⟨tt_,rfl⟩,(QhU _ _ l)⟩ ?_
    rcases Qt h with⟨f,h⟩|⟨f,h⟩
    ·obtain⟨m,h⟩:=Qbs h
     refine Qa hC [.T,.n 3,.v (.bd []) [] (.sl 1 (([i]:List Int).map Qb)),.app ((s++([i]:List Int)).map Qb) (s++([i]:List Int)).length,.n 3,.K [0,5,10,11] [18]] rfl ⟨⟨⟨tt_,f⟩,rfl⟩,⟨Qj,Qjv m Qj,Qgz,Qkh Qj⟩⟩ ?_
     exact AK.met (ex_ _ (an_ rfl h))
    refine Qa hC [.F,.n 2,.K [0,5,10,11] [18]] rfl ⟨tt_,f⟩ ?_
    exact AK.met (ex_ _ (an_ rfl h))
   rintro σ ⟨g,rfl,h⟩
   refine tg_ hC [.n 4,.K [0,5,10,11] [18]] rfl ?_
   cases h
   exact QV rfl rfl
  cases h
  exact QW rfl (an_ rfl rfl)
 replace h:Qkt t=some r:=h
 rintro e σ ⟨rfl,rfl⟩
 refine tg_ hC [.n 9,.K [4] [18],.ren 18 600] rfl ?_
 cases h
 exact d1_ rfl rfl ⟨rfl,tt_⟩
def QqP (b:(QLL×Int))(a:Qm)(l:(Int×Int)):Option Bool:=
 bif (b.2==0)then
 (QlK b.1 ([([1,1,0]:List Int)]:List (List Int))).bind fun m=>
 bif m then
 (QiN a ([2,2,0]:List Int)).bind fun c=>
 bif c then
 (QiN a ([1,1,1]:List Int)).bind fun d=>
 bif (!d)then
 (QiN a ([1,2,0]:List Int)).bind fun e=>
 bif (!e)then
 bif (l.1==13)then
 bif (l.2==0)then
 (Qdc a).bind fun f=>
 (QlK f ([([(-1),1,0]:List Int),([1,(-1),0]:List Int)]:List (List Int))).bind fun g=>
 bif g then
 (Qdf a).bind fun h=>
 (QjD h ([2]:List Int)).bind fun i=>
 bif i then
 (QmF b.1 3).bind fun j=>
 (QjD j ([0,1]:List Int)).bind fun k=>
 some k
 else
 some false
 else
 some false
 else
 some false
 else
 some false
 else
 some false
 else
 some false
 else
 some false
 else
 some false
 else
 some false
def Qja (a:Bool):Option Bool:=
 some a
def QiO  : Option Bool:=
 (Qkj).bind fun a=>
 (Qds a).bind fun b=>
 (QoC ([2,3,9]:List Int) ([([(0,5)]:List (Int×Int)),([(0,1)]:List (Int×Int)),([]:QBg)]:List QBg)).bind fun c=>
 (QqP b a c).bind (fun d=>Qja d)
theorem QqQ  {r:Bool}(h:QiO  = some r):Qc prog 9 [] [] (Qh (.b r) []):=by
 refine Qc.walk 75 func9 rfl rfl rfl fun C hC=>?_
 obtain⟨l,F,h⟩:=Qd h
 obtain⟨Y,G,h⟩:=Qd h
 obtain⟨Z,H,h⟩:=Qd h
 refine Qa hC [.n 7,.o (.c false [] (.agg (Qe l))),.n 2,.O 1 (.var (Qe l)),.n 4,.v .no [] (.agg (Qe l)),.o (.c false [.d] (.tup [.sl 1 (Y.1.map Qi),.I Y.2])),.n 9,.v (.bd []) [] (.sl 1 (([2,3,9]:List Int).map Qb)),.v .no [] (.agg (QaF (0,5))),.v (.bd []) [] (.sl 2 (([(0,5)]:List (Int×Int)).map QaF)),.v .no [] (.agg (QaF (0,1))),.v (.bd []) [] (.sl 2 (([(0,1)]:List (Int×Int)).map QaF)),.v (.bd [none,none,some 2]) [] (.sl 1 (([([(0,5)]:List (Int×Int)),([(0,1)]:List (Int×Int)),([]:QBg)]:List QBg).map QjW)),.o (.c false [.d,.d] (.tup [.I Z.1,.I Z.2])),.n 8] rfl ⟨⟨⟨⟨⟨⟨⟨⟨⟨⟨⟨tt_,(Qsn  F)⟩,rfl⟩,rfl⟩,(QlB _ G)⟩,rfl⟩,rfl⟩,rfl⟩,rfl⟩,rfl⟩,rfl⟩,(QqN _ _ H)⟩ ?_
 obtain⟨J,L,h⟩:=Qd h
 replace h:Qja J=some r:=h
 refine AK.meetX (fun σ=>σ=⟨[(0,.b J)],[]⟩) ?_ ?_
 ·replace h:=L
  refine tg_ hC [.n 4] rfl ?_
  rcases Qt h with⟨m,h⟩|⟨m,h⟩
  ·obtain⟨x8,M,h⟩:=Qd h
   refine Qa hC [.S 24 (.b true),.n 1,.v (.bd []) [] (.sl 1 (([1,1,0]:List Int).map Qb)),.v (.bd []) [] (.sl 1 (([([1,1,0]:List Int)]:List (List Int)).map Qi)),.o (.c false [.d,.d] (.b x8)),.n 2] rfl ⟨⟨⟨(tc_ m),rfl⟩,rfl⟩,(QmC _ _ M)⟩ ?_
   rcases Qt h with⟨p,h⟩|⟨p,h⟩
   ·obtain⟨N,u,h⟩:=Qd h
    refine Qa hC [.S 30 (.b true),.v .no [] (.agg (Qe l)),.v (.bd []) [] (.sl 1 (([2,2,0]:List Int).map Qb)),.o (.c false [.d,.d] (.b N)),.n 2] rfl ⟨⟨⟨(tc_ p),rfl⟩,rfl⟩,(Qi8 _ _ u)⟩ ?_
    rcases Qt h with⟨a,h⟩|⟨a,h⟩
    ·obtain⟨P,w,h⟩:=Qd h
     refine Qa hC [.S 35 (.b true),.v .no [] (.agg (Qe l)),.v (.bd []) [] (.sl 1 (([1,1,1]:List Int).map Qb)),.o (.c false [.d,.d] (.b P)),.n 3] rfl ⟨⟨⟨(tc_ a),rfl⟩,rfl⟩,(Qi8 _ _ w)⟩ ?_
     rcases Qt h with⟨e,h⟩|⟨e,h⟩
     ·obtain⟨T,x,h⟩:=Qd h
      refine Qa hC [.S 41 (.b true),.v .no [] (.agg (Qe l)),.v (.bd []) [] (.sl 1 (([1,2,0]:List Int).map Qb)),.o (.c false [.d,.d] (.b T)),.n 3] rfl ⟨⟨⟨(tc_ e),rfl⟩,rfl⟩,(Qi8 _ _ x)⟩ ?_
      refine bg_ h (fun f h=>Qa hC [.S 47 (.b true),.n 4] rfl (tc_ f) ?_) fun f h=>Qa hC [.S 47 (.b false),.n 29,.K [0] []] rfl (tc_ f) ?_
      ·refine bg_ h (fun g h=>Qa hC [.S 51 (.b true),.n 4] rfl (tc_ g) ?_) fun g h=>Qa hC [.S 51 (.b false),.n 25,.K [0] []] rfl (tc_ g) ?_
       ·rcases Qt h with⟨i,h⟩|⟨i,h⟩
        ·obtain⟨q,y,h⟩:=Qd h
         obtain⟨U,z,h⟩:=Qd h
         refine Qa hC [.S 55 (.b true),.v .no [] (.agg (Qe l)),.o (.co false [.d] 1 (q.map Qi) q.length),.v (.bd []) [] (.sl 1 (([(-1),1,0]:List Int).map Qb)),.v (.bd []) [] (.sl 1 (([1,(-1),0]:List Int).map Qb)),.v (.bd []) [] (.sl 1 (([([(-1),1,0]:List Int),([1,(-1),0]:List Int)]:List (List Int)).map Qi)),.o (.c true [.o (q.map Qi),.d] (.b U)),.n 2] rfl ⟨⟨⟨⟨⟨⟨(tc_ i),rfl⟩,⟨(Qhs _ y),Qj,.inl rfl⟩⟩,rfl⟩,rfl⟩,rfl⟩,⟨(QjT rfl),(QmC _ _ z)⟩⟩ ?_
         rcases Qt h with⟨j,h⟩|⟨j,h⟩
         ·obtain⟨s,A,h⟩:=Qd h
          obtain⟨W,B,h⟩:=Qd h
          refine Qa hC [.S 63 (.b true),.v .no [] (.agg (Qe l)),.o (.co false [.d] 1 (s.map Qb) s.length),.v (.bd []) [] (.sl 1 (([2]:List Int).map Qb)),.o (.c true [.o (s.map Qb),.d] (.b W)),.n 2] rfl ⟨⟨⟨⟨(tc_ j),rfl⟩,⟨(Qhw _ A),Qj,.inl rfl⟩⟩,rfl⟩,⟨(QjT rfl),(QjE _ _ B)⟩⟩ ?_
          rcases Qt h with⟨k,h⟩|⟨k,h⟩
          ·obtain⟨t,D,h⟩:=Qd h
           obtain⟨X,E,h⟩:=Qd h
           refine Qa hC [.S 69 (.b true),.n 1,.o (.co false [.d,.d] 1 (t.map Qb) t.length),.v (.bd []) [] (.sl 1 (([0,1]:List Int).map Qb)),.o (.c true [.o (t.map Qb),.d] (.b X)),.n 3,.K [0] []] rfl ⟨⟨⟨(tc_ k),⟨(Qpl _ _ D),Qj,.inl rfl⟩⟩,rfl⟩,⟨(QjT rfl),(QjE _ _ E)⟩⟩ ?_
           cases h
           exact AK.met rfl
          refine Qa hC [.S 69 (.b false),.n 7,.K [0] []] rfl (tc_ k) ?_
          cases h
          exact AK.met rfl
         refine Qa hC [.S 63 (.b false),.n 13,.K [0] []] rfl (tc_ j) ?_
         cases h
         exact AK.met rfl
        refine Qa hC [.S 55 (.b false),.n 21,.K [0] []] rfl (tc_ i) ?_
        cases h
        exact AK.met rfl
       cases h
       exact AK.met rfl
      cases h
      exact AK.met rfl
     refine Qa hC [.S 41 (.b false),.n 35,.K [0] []] rfl (tc_ e) ?_
     cases h
     exact AK.met rfl
    refine Qa hC [.S 35 (.b false),.n 41,.K [0] []] rfl (tc_ a) ?_
    cases h
    exact AK.met rfl
   refine Qa hC [.S 30 (.b false),.n 46,.K [0] []] rfl (tc_ p) ?_
   cases h
   exact AK.met rfl
  refine Qa hC [.S 24 (.b false),.n 52,.K [0] []] rfl (tc_ m) ?_
  cases h
  exact AK.met rfl
 rintro σ rfl
 replace h:Qja J=some r:=h
 refine tg_ hC [.n 2] rfl ?_
 cases h
 exact d1_ rfl rfl tt_
def QhV (f:Qk)(rec_law04_few:Qk→Int→Option Int)(a:Int)(c:Int)(d:Int):Option ((Int×Int)⊕(Unit⊕Int)):=
 bif (decide (d<(f.Kids.length:Int)))then
 (idx f.Kids d).bind fun e=>
 (rec_law04_few e (w64 (a-1))).bind fun b=>
 bif (b==0)then
 some (.inr (.inl ()))
 else
 bif (decide ((w64 ((w64 (c-500))+b))≤1))then
 some (.inr (.inl ()))
 else
 some (.inl ((w64 ((w64 (c-500))+b)),(w64 (d+1))))
 else
 some (.inr (.inr c))
def Qns : Option Int:=
 some 0
def Qnt (a:Int):Option Int:=
 some (w64 (a-1))
def QkB (rec_law04_few:Qk→Int→Option Int)(b:Qk)(a:Int):Option Int:=
 bif ((decide (a≤0))||(decide (9<(b.Kids.length:Int))))then
 some 0
 else
 (Qy (fun st=>QhV b rec_law04_few a st.1 st.2) (500,0)).bind (Sum.elim (fun q=>Qns) (fun q=>Qnt q))
def Qdt : Nat→Qk→Int→Option Int
 | 0,_,_=>none
 | n+1,b,a=>QkB (Qdt n) b a
def Qm1 (b:Qk)(a:Int):Option Int:=Qdt (SizeOf.sizeOf b) b a
theorem QqR (rec_law04_few:Qk→Int→Option Int)(hrec_law04_few:∀(f:Qk) (a:Int) {r:Int},rec_law04_few f a=some r→Qc prog 102 [.agg (Qp f),.I a] [] (Qh (.I r) []))(f:Qk)(a:Int){r:Int}(h:QkB rec_law04_few f a=some r):Qc prog 102 [.agg (Qp f),.I a] [] (Qh (.I r) []):=by
 refine Qc.walk 41 func102 rfl rfl rfl fun C hC=>?_
 refine tg_ hC [.n 8] rfl ?_
 refine AK.meetX (fun σ=>σ=⟨[(1,.I a),(2,.loc 2 0 0),(15,.b ((decide (a≤0))||(decide (9<(f.Kids.length:Int)))))],[(2,.var (Qp f))]⟩) ?_ ?_
 ·refine tg_ hC [.n 4] rfl ?_
  rcases QS (decide (a≤0))with g | g
  ·refine Qa hC [.S 10 (.b true),.n 6,.S 15 (.b ((decide (a≤0))||(decide (9<(f.Kids.length:Int))))),.K [1,2,15] [2]] rfl ⟨(tc_ g),(congrArg V.b (orT g rfl))⟩ ?_
   exact AK.met rfl
  refine Qa hC [.S 10 (.b false),.n 2,.o (.ln f.Kids.length),.n 3,.S 15 (.b ((decide (a≤0))||(decide (9<(f.Kids.length:Int))))),.K [1,2,15] [2]] rfl ⟨⟨(tc_ g),QhN _⟩,(congrArg V.b (orF g rfl))⟩ ?_
  exact AK.met rfl
 rintro σ rfl
 refine tg_ hC [.n 1] rfl ?_
 refine bg_ h (fun l h=>Qa hC [.T,.n 7,.K [4] []] rfl ⟨tt_,l⟩ ?_) fun l h=>Qa hC [.F,.n 14,.K [1,2,5,6] [2]] rfl ⟨tt_,l⟩ ?_
 ·cases h
  exact d1_ rfl rfl tt_
 obtain⟨u,m,h⟩:=Qd h
 refine AK.loop (body:=(fun st=>QhV f rec_law04_few a st.1 st.2)) (fun st σ=>σ=⟨[(1,.I a),(2,.loc 2 0 0),(5,.I st.1),(6,.I st.2)],[(2,.var (Qp f))]⟩) (Sum.elim (fun q e σ=>e=.ret∧σ=⟨[(4,.I 0)],[]⟩) (fun q e σ=>e=.exit 0∧σ=⟨[(5,.I q)],[]⟩)) m rfl ?_ ?_
 ·rintro ⟨y,z⟩ o σ rfl h
  refine Qa hC [.n 6,.o (.ln f.Kids.length),.n 3] rfl ⟨tt_,QhN _⟩ ?_
  rcases Qt h with⟨i,h⟩|⟨i,h⟩
  ·obtain⟨p,s,h⟩:=Qd h
   obtain⟨w,t,h⟩:=Qd h
   refine Qa hC [.T,.n 9,.o (.row (Qp p)),.v .no [] (.agg (Qp p)),.n 2,.o (.c false [.d,.d] (.I w)),.n 10] rfl ⟨⟨⟨⟨tt_,i⟩,(Qlb s)⟩,rfl⟩,(hrec_law04_few _ _ t)⟩ ?_
   refine bg_ h (fun j h=>Qa hC [.T,.n 9,.K [4] []] rfl ⟨tt_,j⟩ ?_) fun j h=>Qa hC [.F,.n 17] rfl ⟨tt_,j⟩ ?_
   ·cases h
    exact QaY rfl (an_ rfl rfl)
   refine bg_ h (fun k h=>Qa hC [.T,.n 8,.K [4] []] rfl ⟨tt_,k⟩ ?_) fun k h=>Qa hC [.F,.n 8,.K [1,2,5,6] [2]] rfl ⟨tt_,k⟩ ?_
   ·cases h
    exact QaY rfl (an_ rfl rfl)
   cases h
   exact QV rfl rfl
  refine Qa hC [.F,.n 2,.K [5] []] rfl ⟨tt_,i⟩ ?_
  cases h
  exact QW rfl (an_ rfl rfl)
 rcases u with(_ | x)
 ·replace h:Qns=some r:=h
  rintro e σ ⟨rfl,rfl⟩
  refine tg_ hC [.n 2] rfl ?_
  cases h
  exact d1_ rfl rfl tt_
 replace h:Qnt x=some r:=h
 rintro e σ ⟨rfl,rfl⟩
 refine tg_ hC [.n 10] rfl ?_
 cases h
 exact d1_ rfl rfl tt_
theorem QlL : ∀(fuel:Nat) (b:Qk) (a:Int) {r:Int},Qdt fuel b a=some r→Qc prog 102 [.agg (Qp b),.I a] [] (Qh (.I r) [])
 | 0,_,_,_,h=>by cases h
 | n+1,b,a,_,h=>QqR (Qdt n) (fun _ _ _ h=>QlL n _ _ h) b a h
theorem Qsq (b a){r}(h:Qm1 b a=some r):Qc prog 102 [.agg (Qp b),.I a] [] (Qh (.I r) []):=QlL _ b a h
def QgD (a:Qk):Option Bool:=
 (Qm1 a 60).bind fun b=>
 some (decide (0<b))
theorem Qj0 (a){r}(h:QgD a=some r):Qc prog 63 [.agg (Qp a)] [] (Qh (.b r) []):=by
 refine Qc.walk 6 func63 rfl rfl rfl fun C hC=>?_
 obtain⟨f,e,h⟩:=Qd h
 refine Qa hC [.n 8,.v .no [] (.agg (Qp a)),.o (.c false [.d,.d] (.I f)),.n 5] rfl ⟨⟨tt_,rfl⟩,(Qsq _ _ e)⟩ ?_
 cases h
 exact d1_ rfl rfl tt_
def Qnu (d:Qm)(e:Int)(a:Int)(b:QI):Option Bool:=
 (idx d.Colours e).bind fun c=>
 bif (decide (100<(c.Name.size:Int)))then
 some true
 else
 some (decide (400<(w64 (a+(b.Names.length:Int)))))
def QhW (e:Qm)(f:Int)(a:Int):Option (Int⊕(Unit⊕Unit)):=
 (idx e.Colours f).bind fun b=>
 bif (decide (a<(b.Names.length:Int)))then
 (idx e.Colours f).bind fun c=>
 (idx c.Names a).bind fun d=>
 bif (decide (100<(d.size:Int)))then
 some (.inr (.inl ()))
 else
 some (.inl (w64 (a+1)))
 else
 some (.inr (.inr ()))
def Qnv : Option ((Int×Int)⊕(Unit⊕Int)):=
 some (.inr (.inl ()))
def Qnw (a:Int)(b:QI)(c:Int):Option ((Int×Int)⊕(Unit⊕Int)):=
 some (.inl ((w64 (a+(b.Names.length:Int))),(w64 (c+1))))
def QhX (e:Qm)(d:Int)(a:Int)(b:QI)(c:Bool):Option ((Int×Int)⊕(Unit⊕Int)):=
 bif c then
 some (.inr (.inl ()))
 else
 (Qy (fun st=>QhW e d st) 0).bind (Sum.elim (fun q=>Qnv) (fun q=>Qnw a b d))
def QhY (c:Qm)(a:Int)(d:Int):Option ((Int×Int)⊕(Unit⊕Int)):=
 bif (decide (d<(c.Colours.length:Int)))then
 (idx c.Colours d).bind fun b=>
 (Qnu c d a b).bind (fun e=>QhX c d a b e)
 else
 some (.inr (.inr a))
def Qnx : Option Bool:=
 some false
def QhZ (c:Qm)(a:Int)(b:Int):Option ((Int×Int)⊕(Unit⊕Int)):=
 bif (decide (b<(c.Places.length:Int)))then
 (idx c.Places b).bind fun d=>
 (idx c.Places b).bind fun e=>
 bif (decide (100<(e.Name.size:Int)))then
 some (.inr (.inl ()))
 else
 some (.inl ((w64 (a+(d.First.length:Int))),(w64 (b+1))))
 else
 some (.inr (.inr a))
def Qny : Option Bool:=
 some false
def QgT (b:Qw)(a:Int):Option (Int⊕(Unit⊕Unit)):=
 bif (decide (a<(b.Vars.length:Int)))then
 (idx b.Vars a).bind fun c=>
 bif (decide (100<(c.Name.size:Int)))then
 some (.inr (.inl ()))
 else
 some (.inl (w64 (a+1)))
 else
 some (.inr (.inr ()))
def QmG : Option ((Int×Int)⊕(Unit⊕Unit)):=
 some (.inr (.inl ()))
def QgU (c:Qw)(a:Bool)(b:Int):Option ((Bool×Int)⊕Bool):=
 bif (decide (b<(c.Ins.length:Int)))then
 (idx c.Ins b).bind fun d=>
 (QgD d.Expr).bind fun e=>
 some (.inl ((a&&e),(w64 (b+1))))
 else
 some (.inr a)
def QgV (c:Qw)(a:Bool)(b:Int):Option ((Bool×Int)⊕Bool):=
 bif (decide (b<(c.Outs.length:Int)))then
 (idx c.Outs b).bind fun d=>
 (QgD d.Expr).bind fun e=>
 some (.inl ((a&&e),(w64 (b+1))))
 else
 some (.inr a)
def QgW (a:Int)(b:Qw)(d:Int)(c:Bool):Option ((Int×Int)⊕(Unit⊕Unit)):=
 bif (!c)then
 some (.inr (.inl ()))
 else
 some (.inl ((w64 ((w64 ((w64 ((w64 (a+(b.Vars.length:Int)))+(b.Ins.length:Int)))+(b.Outs.length:Int)))+(b.Cancel.length:Int))),(w64 (d+1))))
def QgX (b:Qw)(a:Int)(d:Int)(c:Bool):Option ((Int×Int)⊕(Unit⊕Unit)):=
 (Qy (fun st=>QgV b st.1 st.2) (c,0)).bind (fun q=>QgW a b d q)
def QgY (b:Qw)(a:Int)(c:Int):Option ((Int×Int)⊕(Unit⊕Unit)):=
 (QgD b.Guard).bind fun d=>
 (Qy (fun st=>QgU b st.1 st.2) (d,0)).bind (fun q=>QgX b a c q)
def QgZ (d:Qm)(b:Int)(c:Int):Option ((Int×Int)⊕(Unit⊕Unit)):=
 bif (decide (c<(d.Tasks.length:Int)))then
 (idx d.Tasks c).bind fun a=>
 bif ((decide (200<(w64 ((w64 ((w64 ((w64 (b+(a.Vars.length:Int)))+(a.Ins.length:Int)))+(a.Outs.length:Int)))+(a.Cancel.length:Int)))))||(decide (100<(a.Name.size:Int))))then
 some (.inr (.inl ()))
 else
 (Qy (fun st=>QgT a st) 0).bind (Sum.elim (fun q=>QmG) (fun q=>QgY a b c))
 else
 some (.inr (.inr ()))
def QmH : Option Bool:=
 some false
def QmI (a:Int):Option Bool:=
 some (decide (a≤400))
def Qg0 (b:Qm)(a:Int):Option Bool:=
 (Qy (fun st=>QgZ b st.1 st.2) (0,0)).bind (Sum.elim (fun q=>QmH) (fun q=>QmI a))
def Qg1 (b:Qm)(a:Int):Option Bool:=
 (Qy (fun st=>QhZ b st.1 st.2) (a,0)).bind (Sum.elim (fun q=>Qny) (fun q=>Qg0 b q))
def QiE (a:Qm):Option Bool:=
 bif ((decide (40<(a.Colours.length:Int)))||((decide (70<(a.Places.length:Int)))||(decide (70<(a.Tasks.length:Int)))))then
 some false
 else
 (Qy (fun st=>QhY a st.1 st.2) (0,0)).bind (Sum.elim (fun q=>Qnx) (fun q=>Qg1 a q))
theorem Qsr (i){r}(h:QiE i=some r):Qc prog 32 [.agg (Qe i)] [] (Qh (.b r) []):=by
 refine Qc.walk 201 func32 rfl rfl rfl fun C hC=>?_
 unfold QiE at h
 refine tg_ hC [.n 8] rfl ?_
 refine AK.meetX (fun σ=>σ=⟨[(1,.loc 1 0 0),(31,.b ((decide (40<(i.Colours.length:Int)))||((decide (70<(i.Places.length:Int)))||(decide (70<(i.Tasks.length:Int))))))],[(1,.var (Qe i))]⟩) ?_ ?_
 ·refine Qa hC [.n 3,.o (.ln i.Colours.length),.n 2] rfl ⟨tt_,Qj⟩ ?_
  rcases QS (decide (40<(i.Colours.length:Int)))with w | w
  ·refine Qa hC [.S 20 (.b true),.n 12,.S 31 (.b ((decide (40<(i.Colours.length:Int)))||((decide (70<(i.Places.length:Int)))||(decide (70<(i.Tasks.length:Int)))))),.K [1,31] [1]] rfl ⟨(tc_ w),(congrArg V.b (orT w rfl))⟩ ?_
   exact AK.met rfl
  refine Qa hC [.S 20 (.b false),.n 2,.o (.ln i.Places.length),.n 3] rfl ⟨(tc_ w),Qj⟩ ?_
  rcases QS (decide (70<(i.Places.length:Int)))with x | x
  ·refine Qa hC [.S 26 (.b true),.n 6,.S 31 (.b ((decide (40<(i.Colours.length:Int)))||((decide (70<(i.Places.length:Int)))||(decide (70<(i.Tasks.length:Int)))))),.K [1,31] [1]] rfl ⟨(tc_ x),(congrArg V.b (orF w (orT x rfl)))⟩ ?_
   exact AK.met rfl
  refine Qa hC [.S 26 (.b false),.n 2,.o (.ln i.Tasks.length),.n 3,.S 31 (.b ((decide (40<(i.Colours.length:Int)))||((decide (70<(i.Places.length:Int)))||(decide (70<(i.Tasks.length:Int)))))),.K [1,31] [1]] rfl ⟨⟨(tc_ x),Qj⟩,(congrArg V.b (orF w (orF x rfl)))⟩ ?_
  exact AK.met rfl
 rintro σ rfl
 refine tg_ hC [.n 1] rfl ?_
 refine bg_ h (fun Z h=>Qa hC [.T,.n 7,.K [2] []] rfl ⟨tt_,Z⟩ ?_) fun Z h=>Qa hC [.F,.n 14,.K [1,3,4] [1]] rfl ⟨tt_,Z⟩ ?_
 ·cases h
  exact d1_ rfl rfl tt_
 obtain⟨d0,a1,h⟩:=Qd h
 refine AK.loop (body:=(fun st=>QhY i st.1 st.2)) (fun st σ=>σ=⟨[(1,.loc 1 0 0),(3,.I st.1),(4,.I st.2)],[(1,.var (Qe i))]⟩) (Sum.elim (fun q e σ=>e=.ret∧σ=⟨[(2,.b false)],[]⟩) (fun q e σ=>e=.exit 0∧σ=⟨[(1,.loc 1 0 0),(3,.I q)],[(1,.var (Qe i))]⟩)) a1 rfl ?_ ?_
 ·rintro ⟨j,i9⟩ o σ rfl h
  refine Qa hC [.n 6,.o (.ln i.Colours.length),.n 3] rfl ⟨tt_,Qj⟩ ?_
  rcases Qt h with⟨y,h⟩|⟨y,h⟩
  ·obtain⟨l,a2,h⟩:=Qd h
   refine Qa hC [.T,.n 10,.o (.row (Qx l)),.n 2,.o (.ln l.Names.length),.n 6] rfl ⟨⟨⟨tt_,y⟩,(QF a2)⟩,Qj⟩ ?_
   obtain⟨a0,a3,h⟩:=Qd h
   replace h:QhX i i9 j l a0=some o:=h
   refine AK.meetX (fun σ=>σ=⟨[(1,.loc 1 0 0),(3,.I (w64 (j+(l.Names.length:Int)))),(4,.I i9),(59,.b a0)],[(1,.var (Qe i))]⟩) ?_ ?_
   ·replace h:=a3
    obtain⟨d1,a4,h⟩:=Qd h
    refine Qa hC [.n 4,.o (.row (Qx d1)),.n 5] rfl ⟨tt_,(QF a4)⟩ ?_
    refine bg_ h (fun z h=>Qa hC [.S 56 (.b true),.n 4,.K [1,3,4,59] [1]] rfl (tc_ z) ?_) fun z h=>Qa hC [.S 56 (.b false),.n 4,.K [1,3,4,59] [1]] rfl (tc_ z) ?_
    ·cases h
     exact AK.met rfl
    cases h
    exact AK.met rfl
   rintro σ rfl
   replace h:QhX i i9 j l a0=some o:=h
   refine tg_ hC [.n 1] rfl ?_
   refine bg_ h (fun A h=>Qa hC [.T,.n 9,.K [2] []] rfl ⟨tt_,A⟩ ?_) fun A h=>Qa hC [.F,.n 8,.K [1,3,4,5] [1]] rfl ⟨tt_,A⟩ ?_
   ·cases h
    exact QaY rfl (an_ rfl rfl)
   obtain⟨d2,a5,h⟩:=Qd h
   refine AK.loop (body:=(fun st=>QhW i i9 st)) (fun st σ=>σ=⟨[(1,.loc 1 0 0),(3,.I (w64 (j+(l.Names.length:Int)))),(4,.I i9),(5,.I st)],[(1,.var (Qe i))]⟩) (Sum.elim (fun q e σ=>e=.ret∧σ=⟨[(2,.b false)],[]⟩) (fun q e σ=>e=.exit 2∧σ=⟨[(1,.loc 1 0 0),(3,.I (w64 (j+(l.Names.length:Int)))),(4,.I i9)],[(1,.var (Qe i))]⟩)) a5 rfl ?_ ?_
   ·rintro e3 o σ rfl h
    obtain⟨a6,a7,h⟩:=Qd h
    refine Qa hC [.n 7,.o (.row (Qx a6)),.n 2,.o (.ln a6.Names.length),.n 3] rfl ⟨⟨tt_,(QF a7)⟩,Qj⟩ ?_
    rcases Qt h with⟨B,h⟩|⟨B,h⟩
    ·obtain⟨d3,a8,h⟩:=Qd h
     obtain⟨d4,a9,h⟩:=Qd h
     refine Qa hC [.T,.n 9,.o (.row (Qx d3)),.n 3,.o (.row (QcB d4)),.n 5] rfl ⟨⟨⟨tt_,B⟩,(QF a8)⟩,(QF a9)⟩ ?_
     refine bg_ h (fun D h=>Qa hC [.T,.n 8,.K [2] []] rfl ⟨tt_,D⟩ ?_) fun D h=>Qa hC [.F,.n 8,.K [1,3,4,5] [1]] rfl ⟨tt_,D⟩ ?_
     ·cases h
      exact QaY rfl (an_ rfl rfl)
     cases h
     exact QV rfl rfl
    refine Qa hC [.F,.n 2,.K [1,3,4] [1]] rfl ⟨tt_,B⟩ ?_
    cases h
    exact QW rfl (an_ rfl rfl)
   rcases d2 with(_ | _)
   ·replace h:Qnv=some o:=h
    rintro e σ ⟨rfl,rfl⟩
    refine tg_ hC [.n 3,.K [2] []] rfl ?_
    cases h
    exact QaY rfl (an_ rfl rfl)
   replace h:Qnw j l i9=some o:=h
   rintro e σ ⟨rfl,rfl⟩
   refine tg_ hC [.n 8,.K [1,3,4] [1]] rfl ?_
   cases h
   exact QV rfl rfl
  refine Qa hC [.F,.n 2,.K [1,3] [1]] rfl ⟨tt_,y⟩ ?_
  cases h
  exact QW rfl (an_ rfl rfl)
 rcases d0 with(_ | E)
 ·replace h:Qnx=some r:=h
  rintro e σ ⟨rfl,rfl⟩
  refine tg_ hC [.n 2] rfl ?_
  cases h
  exact d1_ rfl rfl tt_
 replace h:Qg1 i E=some r:=h
 rintro e σ ⟨rfl,rfl⟩
 refine tg_ hC [.n 9,.K [1,3,6] [1]] rfl ?_
 obtain⟨d5,b0,h⟩:=Qd h
 refine AK.loop (body:=(fun st=>QhZ i st.1 st.2)) (fun st σ=>σ=⟨[(1,.loc 1 0 0),(3,.I st.1),(6,.I st.2)],[(1,.var (Qe i))]⟩) (Sum.elim (fun q e σ=>e=.ret∧σ=⟨[(2,.b false)],[]⟩) (fun q e σ=>e=.exit 4∧σ=⟨[(1,.loc 1 0 0),(3,.I q)],[(1,.var (Qe i))]⟩)) b0 rfl ?_ ?_
 ·rintro ⟨b1,e4⟩ o σ rfl h
  refine Qa hC [.n 6,.o (.ln i.Places.length),.n 3] rfl ⟨tt_,Qj⟩ ?_
  rcases Qt h with⟨G,h⟩|⟨G,h⟩
  ·obtain⟨b2,b3,h⟩:=Qd h
   obtain⟨d6,b4,h⟩:=Qd h
   refine Qa hC [.T,.n 10,.o (.row (Qq b2)),.n 2,.o (.ln b2.First.length),.n 9,.o (.row (Qq d6)),.n 6] rfl ⟨⟨⟨⟨tt_,G⟩,(QF b3)⟩,Qj⟩,(QF b4)⟩ ?_
   refine bg_ h (fun H h=>Qa hC [.T,.n 8,.K [2] []] rfl ⟨tt_,H⟩ ?_) fun H h=>Qa hC [.F,.n 8,.K [1,3,6] [1]] rfl ⟨tt_,H⟩ ?_
   ·cases h
    exact QaY rfl (an_ rfl rfl)
   cases h
   exact QV rfl rfl
  refine Qa hC [.F,.n 2,.K [1,3] [1]] rfl ⟨tt_,G⟩ ?_
  cases h
  exact QW rfl (an_ rfl rfl)
 rcases d5 with(_ | g)
 ·replace h:Qny=some r:=h
  rintro e σ ⟨rfl,rfl⟩
  refine tg_ hC [.n 2] rfl ?_
  cases h
  exact d1_ rfl rfl tt_
 replace h:Qg0 i g=some r:=h
 rintro e σ ⟨rfl,rfl⟩
 refine tg_ hC [.n 14,.K [1,3,7,8] [1]] rfl ?_
 obtain⟨d7,b5,h⟩:=Qd h
 refine AK.loop (body:=(fun st=>QgZ i st.1 st.2)) (fun st σ=>σ=⟨[(1,.loc 1 0 0),(3,.I g),(7,.I st.1),(8,.I st.2)],[(1,.var (Qe i))]⟩) (Sum.elim (fun q e σ=>e=.ret∧σ=⟨[(2,.b false)],[]⟩) (fun q e σ=>e=.exit 6∧σ=⟨[(3,.I g)],[]⟩)) b5 rfl ?_ ?_
 ·rintro ⟨f,k⟩ o σ rfl h
  refine Qa hC [.n 6,.o (.ln i.Tasks.length),.n 3] rfl ⟨tt_,Qj⟩ ?_
  rcases Qt h with⟨J,h⟩|⟨J,h⟩
  ·obtain⟨a,b6,h⟩:=Qd h
   refine Qa hC [.T,.n 9,.o (.row (Qf a)),.v .no [] (.agg (Qf a)),.n 2,.O 9 (.var (Qf a)),.n 7,.o (.ln a.Vars.length),.n 3,.o (.ln a.Ins.length),.n 3,.o (.ln a.Outs.length),.n 3,.o (.ln a.Cancel.length),.n 6] rfl ⟨⟨⟨⟨⟨⟨⟨⟨tt_,J⟩,(QF b6)⟩,rfl⟩,rfl⟩,Qj⟩,Qj⟩,Qj⟩,Qj⟩ ?_
   refine AK.meetX (fun σ=>σ=⟨[(1,.loc 1 0 0),(3,.I g),(7,.I (w64 ((w64 ((w64 ((w64 (f+(a.Vars.length:Int)))+(a.Ins.length:Int)))+(a.Outs.length:Int)))+(a.Cancel.length:Int)))),(8,.I k),(9,.loc 9 0 0),(142,.b ((decide (200<(w64 ((w64 ((w64 ((w64 (f+(a.Vars.length:Int)))+(a.Ins.length:Int)))+(a.Outs.length:Int)))+(a.Cancel.length:Int)))))||(decide (100<(a.Name.size:Int)))))],[(1,.var (Qe i)),(9,.var (Qf a))]⟩) ?_ ?_
   ·refine tg_ hC [.n 4] rfl ?_
    rcases QS (decide (200<(w64 ((w64 ((w64 ((w64 (f+(a.Vars.length:Int)))+(a.Ins.length:Int)))+(a.Outs.length:Int)))+(a.Cancel.length:Int)))))with m | m
    ·refine Qa hC [.S 137 (.b true),.n 6,.S 142 (.b ((decide (200<(w64 ((w64 ((w64 ((w64 (f+(a.Vars.length:Int)))+(a.Ins.length:Int)))+(a.Outs.length:Int)))+(a.Cancel.length:Int)))))||(decide (100<(a.Name.size:Int))))),.K [1,3,7,8,9,142] [1,9]] rfl ⟨(tc_ m),(congrArg V.b (orT m rfl))⟩ ?_
     exact AK.met rfl
    refine Qa hC [.S 137 (.b false),.n 6,.S 142 (.b ((decide (200<(w64 ((w64 ((w64 ((w64 (f+(a.Vars.length:Int)))+(a.Ins.length:Int)))+(a.Outs.length:Int)))+(a.Cancel.length:Int)))))||(decide (100<(a.Name.size:Int))))),.K [1,3,7,8,9,142] [1,9]] rfl ⟨(tc_ m),(congrArg V.b (orF m rfl))⟩ ?_
    exact AK.met rfl
   rintro σ rfl
   refine tg_ hC [.n 1] rfl ?_
   refine bg_ h (fun L h=>Qa hC [.T,.n 9,.K [2] []] rfl ⟨tt_,L⟩ ?_) fun L h=>Qa hC [.F,.n 9,.K [1,3,7,8,9,10] [1,9]] rfl ⟨tt_,L⟩ ?_
   ·cases h
    exact QaY rfl (an_ rfl rfl)
   obtain⟨d8,b7,h⟩:=Qd h
   refine AK.loop (body:=(fun st=>QgT a st)) (fun st σ=>σ=⟨[(1,.loc 1 0 0),(3,.I g),(7,.I (w64 ((w64 ((w64 ((w64 (f+(a.Vars.length:Int)))+(a.Ins.length:Int)))+(a.Outs.length:Int)))+(a.Cancel.length:Int)))),(8,.I k),(9,.loc 9 0 0),(10,.I st)],[(1,.var (Qe i)),(9,.var (Qf a))]⟩) (Sum.elim (fun q e σ=>e=.ret∧σ=⟨[(2,.b false)],[]⟩) (fun q e σ=>e=.exit 8∧σ=⟨[(1,.loc 1 0 0),(3,.I g),(7,.I (w64 ((w64 ((w64 ((w64 (f+(a.Vars.length:Int)))+(a.Ins.length:Int)))+(a.Outs.length:Int)))+(a.Cancel.length:Int)))),(8,.I k),(9,.loc 9 0 0)],[(1,.var (Qe i)),(9,.var (Qf a))]⟩)) b7 rfl ?_ ?_
   ·rintro e5 o σ rfl h
    refine Qa hC [.n 6,.o (.ln a.Vars.length),.n 3] rfl ⟨tt_,Qj⟩ ?_
    rcases Qt h with⟨M,h⟩|⟨M,h⟩
    ·obtain⟨d9,b8,h⟩:=Qd h
     refine Qa hC [.T,.n 9,.o (.row (QA d9)),.n 6] rfl ⟨⟨tt_,M⟩,(QF b8)⟩ ?_
     refine bg_ h (fun N h=>Qa hC [.T,.n 8,.K [2] []] rfl ⟨tt_,N⟩ ?_) fun N h=>Qa hC [.F,.n 8,.K [1,3,7,8,9,10] [1,9]] rfl ⟨tt_,N⟩ ?_
     ·cases h
      exact QaY rfl (an_ rfl rfl)
     cases h
     exact QV rfl rfl
    refine Qa hC [.F,.n 2,.K [1,3,7,8,9] [1,9]] rfl ⟨tt_,M⟩ ?_
    cases h
    exact QW rfl (an_ rfl rfl)
   rcases d8 with(_ | _)
   ·replace h:QmG=some o:=h
    rintro e σ ⟨rfl,rfl⟩
    refine tg_ hC [.n 4,.K [2] []] rfl ?_
    cases h
    exact QaY rfl (an_ rfl rfl)
   replace h:QgY a f k=some o:=h
   rintro e σ ⟨rfl,rfl⟩
   obtain⟨e0,b9,h⟩:=Qd h
   refine Qa hC [.n 5,.v .no [] (.agg (Qp a.Guard)),.o (.c false [.d] (.b e0)),.n 10,.K [1,3,7,8,9,11,12] [1,9]] rfl ⟨⟨tt_,rfl⟩,(Qj0 _ b9)⟩ ?_
   obtain⟨c0,c1,h⟩:=Qd h
   refine AK.loop (body:=(fun st=>QgU a st.1 st.2)) (fun st σ=>σ=⟨[(1,.loc 1 0 0),(3,.I g),(7,.I (w64 ((w64 ((w64 ((w64 (f+(a.Vars.length:Int)))+(a.Ins.length:Int)))+(a.Outs.length:Int)))+(a.Cancel.length:Int)))),(8,.I k),(9,.loc 9 0 0),(11,.b st.1),(12,.I st.2)],[(1,.var (Qe i)),(9,.var (Qf a))]⟩) (fun q e σ=>e=.exit 10∧σ=⟨[(1,.loc 1 0 0),(3,.I g),(7,.I (w64 ((w64 ((w64 ((w64 (f+(a.Vars.length:Int)))+(a.Ins.length:Int)))+(a.Outs.length:Int)))+(a.Cancel.length:Int)))),(8,.I k),(9,.loc 9 0 0),(11,.b q)],[(1,.var (Qe i)),(9,.var (Qf a))]⟩) c1 rfl ?_ ?_
   ·rintro ⟨t,e1⟩ o σ rfl h
    refine Qa hC [.n 6,.o (.ln a.Ins.length),.n 3] rfl ⟨tt_,Qj⟩ ?_
    rcases Qt h with⟨P,h⟩|⟨P,h⟩
    ·obtain⟨c2,c3,h⟩:=Qd h
     obtain⟨X,c4,h⟩:=Qd h
     refine Qa hC [.T,.n 9,.o (.row (QR c2)),.n 1,.v .no [] (.agg (Qp c2.Expr)),.o (.c false [.d] (.b X)),.n 3] rfl ⟨⟨⟨⟨tt_,P⟩,(QF c3)⟩,rfl⟩,(Qj0 _ c4)⟩ ?_
     refine AK.meetX (fun σ=>σ=⟨[(1,.loc 1 0 0),(3,.I g),(7,.I (w64 ((w64 ((w64 ((w64 (f+(a.Vars.length:Int)))+(a.Ins.length:Int)))+(a.Outs.length:Int)))+(a.Cancel.length:Int)))),(8,.I k),(9,.loc 9 0 0),(11,.b (t&&X)),(12,.I e1)],[(1,.var (Qe i)),(9,.var (Qf a))]⟩) ?_ ?_
     ·refine tg_ hC [.n 3] rfl ?_
      rcases QS t with p | p
      ·refine Qa hC [.S 176 (.b true),.n 4,.S 11 (.b (t&&X)),.K [1,3,7,8,9,11,12] [1,9]] rfl ⟨(tc_ p),(congrArg V.b (QbB p rfl))⟩ ?_
       exact AK.met rfl
      refine Qa hC [.S 176 (.b false),.n 4,.S 11 (.b (t&&X)),.K [1,3,7,8,9,11,12] [1,9]] rfl ⟨(tc_ p),(congrArg V.b (Qdq p rfl))⟩ ?_
      exact AK.met rfl
     rintro σ rfl
     refine tg_ hC [.n 7,.K [1,3,7,8,9,11,12] [1,9]] rfl ?_
     cases h
     exact QV rfl rfl
    refine Qa hC [.F,.n 2,.K [1,3,7,8,9,11] [1,9]] rfl ⟨tt_,P⟩ ?_
    cases h
    exact QW rfl (an_ rfl rfl)
   replace h:QgX a f k c0=some o:=h
   rintro e σ ⟨rfl,rfl⟩
   refine tg_ hC [.n 9,.K [1,3,7,8,9,11,14] [1,9]] rfl ?_
   obtain⟨c5,c6,h⟩:=Qd h
   refine AK.loop (body:=(fun st=>QgV a st.1 st.2)) (fun st σ=>σ=⟨[(1,.loc 1 0 0),(3,.I g),(7,.I (w64 ((w64 ((w64 ((w64 (f+(a.Vars.length:Int)))+(a.Ins.length:Int)))+(a.Outs.length:Int)))+(a.Cancel.length:Int)))),(8,.I k),(9,.loc 9 0 0),(11,.b st.1),(14,.I st.2)],[(1,.var (Qe i)),(9,.var (Qf a))]⟩) (fun q e σ=>e=.exit 12∧σ=⟨[(1,.loc 1 0 0),(3,.I g),(7,.I (w64 ((w64 ((w64 ((w64 (f+(a.Vars.length:Int)))+(a.Ins.length:Int)))+(a.Outs.length:Int)))+(a.Cancel.length:Int)))),(8,.I k),(11,.b q)],[(1,.var (Qe i))]⟩) c6 rfl ?_ ?_
   ·rintro ⟨u,e2⟩ o σ rfl h
    refine Qa hC [.n 6,.o (.ln a.Outs.length),.n 3] rfl ⟨tt_,Qj⟩ ?_
    rcases Qt h with⟨U,h⟩|⟨U,h⟩
    ·obtain⟨c7,c8,h⟩:=Qd h
     obtain⟨Y,c9,h⟩:=Qd h
     refine Qa hC [.T,.n 9,.o (.row (QR c7)),.n 1,.v .no [] (.agg (Qp c7.Expr)),.o (.c false [.d] (.b Y)),.n 3] rfl ⟨⟨⟨⟨tt_,U⟩,(QF c8)⟩,rfl⟩,(Qj0 _ c9)⟩ ?_
     refine AK.meetX (fun σ=>σ=⟨[(1,.loc 1 0 0),(3,.I g),(7,.I (w64 ((w64 ((w64 ((w64 (f+(a.Vars.length:Int)))+(a.Ins.length:Int)))+(a.Outs.length:Int)))+(a.Cancel.length:Int)))),(8,.I k),(9,.loc 9 0 0),(11,.b (u&&Y)),(14,.I e2)],[(1,.var (Qe i)),(9,.var (Qf a))]⟩) ?_ ?_
     ·refine tg_ hC [.n 3] rfl ?_
      rcases QS u with s | s
      ·refine Qa hC [.S 194 (.b true),.n 4,.S 11 (.b (u&&Y)),.K [1,3,7,8,9,11,14] [1,9]] rfl ⟨(tc_ s),(congrArg V.b (QbB s rfl))⟩ ?_
       exact AK.met rfl
      refine Qa hC [.S 194 (.b false),.n 4,.S 11 (.b (u&&Y)),.K [1,3,7,8,9,11,14] [1,9]] rfl ⟨(tc_ s),(congrArg V.b (Qdq s rfl))⟩ ?_
      exact AK.met rfl
     rintro σ rfl
     refine tg_ hC [.n 7,.K [1,3,7,8,9,11,14] [1,9]] rfl ?_
     cases h
     exact QV rfl rfl
    refine Qa hC [.F,.n 2,.K [1,3,7,8,11] [1]] rfl ⟨tt_,U⟩ ?_
    cases h
    exact QW rfl (an_ rfl rfl)
   replace h:QgW f a k c5=some o:=h
   rintro e σ ⟨rfl,rfl⟩
   refine tg_ hC [.n 8] rfl ?_
   refine bg_ h (fun W h=>Qa hC [.T,.n 8,.K [2] []] rfl ⟨tt_,W⟩ ?_) fun W h=>Qa hC [.F,.n 8,.K [1,3,7,8] [1]] rfl ⟨tt_,W⟩ ?_
   ·cases h
    exact QaY rfl (an_ rfl rfl)
   cases h
   exact QV rfl rfl
  refine Qa hC [.F,.n 2,.K [3] []] rfl ⟨tt_,J⟩ ?_
  cases h
  exact QW rfl (an_ rfl rfl)
 rcases d7 with(_ | _)
 ·replace h:QmH=some r:=h
  rintro e σ ⟨rfl,rfl⟩
  refine tg_ hC [.n 2] rfl ?_
  cases h
  exact d1_ rfl rfl tt_
 replace h:QmI g=some r:=h
 rintro e σ ⟨rfl,rfl⟩
 refine tg_ hC [.n 10] rfl ?_
 cases h
 exact d1_ rfl rfl tt_
def QiP (a:Qm):Option Bool:=
 some ((decide ((a.Places.length:Int)≤64))&&(decide ((a.Tasks.length:Int)≤64)))
theorem QqS (a){r}(h:QiP a=some r):Qc prog 65 [.loc 609 0 0] [(609,.var (Qe a))] (Qh (.b r) [(609,.var (Qe a))]):=by
 refine Qc.walk 12 func65 rfl rfl rfl fun C hC=>?_
 refine tg_ hC [.n 6] rfl ?_
 refine AK.meetX (fun σ=>σ=⟨[(1,.b ((decide ((a.Places.length:Int)≤64))&&(decide ((a.Tasks.length:Int)≤64))))],[(609,.var (Qe a))]⟩) ?_ ?_
 ·refine Qa hC [.n 3,.o (.ln a.Places.length),.n 2] rfl ⟨tt_,Qj⟩ ?_
  rcases QS (decide ((a.Places.length:Int)≤64))with c | c
  ·refine Qa hC [.S 6 (.b true),.n 2,.o (.ln a.Tasks.length),.n 4,.S 1 (.b ((decide ((a.Places.length:Int)≤64))&&(decide ((a.Tasks.length:Int)≤64)))),.K [1] [609]] rfl ⟨⟨(tc_ c),Qj⟩,(congrArg V.b (QbB c rfl))⟩ ?_
   exact AK.met rfl
  refine Qa hC [.S 6 (.b false),.n 7,.S 1 (.b ((decide ((a.Places.length:Int)≤64))&&(decide ((a.Tasks.length:Int)≤64)))),.K [1] [609]] rfl ⟨(tc_ c),(congrArg V.b (Qdq c rfl))⟩ ?_
  exact AK.met rfl
 rintro σ rfl
 refine tg_ hC [.n 2] rfl ?_
 cases h
 exact d1_ rfl rfl ⟨rfl,tt_⟩
def Qai (b:(List QG))(a:Int):Option Bool:=
 some ((decide (0≤a))&&(decide (a<(b.length:Int))))
theorem Qbj (d c){r}(h:Qai d c=some r):Qc prog 67 [.sl 3 (d.map Qq),.I c] [] (Qh (.b r) []):=by
 refine Qc.walk 13 func67 rfl rfl rfl fun C hC=>?_
 refine tg_ hC [.n 6] rfl ?_
 refine AK.meetX (fun σ=>σ=⟨[(4,.b ((decide (0≤c))&&(decide (c<(d.length:Int)))))],[]⟩) ?_ ?_
 ·refine tg_ hC [.n 4] rfl ?_
  rcases QS (decide (0≤c))with a | a
  ·refine Qa hC [.S 7 (.b true),.n 2,.o (.ln d.length),.n 4,.S 4 (.b ((decide (0≤c))&&(decide (c<(d.length:Int))))),.K [4] []] rfl ⟨⟨(tc_ a),Qj⟩,(congrArg V.b (QbB a rfl))⟩ ?_
   exact AK.met rfl
  refine Qa hC [.S 7 (.b false),.n 7,.S 4 (.b ((decide (0≤c))&&(decide (c<(d.length:Int))))),.K [4] []] rfl ⟨(tc_ a),(congrArg V.b (Qdq a rfl))⟩ ?_
  exact AK.met rfl
 rintro σ rfl
 refine tg_ hC [.n 2] rfl ?_
 cases h
 exact d1_ rfl rfl tt_
def QlM (a:Qm):Option Bool:=
 (Qai a.Places a.From).bind fun b=>
 bif b then
 (Qai a.Places a.To).bind fun c=>
 some c
 else
 some false
def QfW (a:Bool):Option Bool:=
 some a
def QiQ (a:Qm):Option Bool:=
 (QlM a).bind (fun b=>QfW b)
theorem QqT (e){r}(h:QiQ e=some r):Qc prog 66 [.loc 609 0 0] [(609,.var (Qe e))] (Qh (.b r) [(609,.var (Qe e))]):=by
 refine Qc.walk 14 func66 rfl rfl rfl fun C hC=>?_
 refine tg_ hC [.n 6] rfl ?_
 obtain⟨f,g,h⟩:=Qd h
 replace h:QfW f=some r:=h
 refine AK.meetX (fun σ=>σ=⟨[(1,.b f)],[(609,.var (Qe e))]⟩) ?_ ?_
 ·replace h:=g
  obtain⟨k,i,h⟩:=Qd h
  refine Qa hC [.n 5,.o (.c false [.d,.d] (.b k)),.n 1] rfl ⟨tt_,(Qbj _ _ i)⟩ ?_
  rcases Qt h with⟨a,h⟩|⟨a,h⟩
  ·obtain⟨l,j,h⟩:=Qd h
   refine Qa hC [.S 7 (.b true),.n 4,.o (.c false [.d,.d] (.b l)),.n 3,.K [1] [609]] rfl ⟨(tc_ a),(Qbj _ _ j)⟩ ?_
   cases h
   exact AK.met rfl
  refine Qa hC [.S 7 (.b false),.n 8,.K [1] [609]] rfl (tc_ a) ?_
  cases h
  exact AK.met rfl
 rintro σ rfl
 replace h:QfW f=some r:=h
 refine tg_ hC [.n 2] rfl ?_
 cases h
 exact d1_ rfl rfl ⟨rfl,tt_⟩
def QiR (a:Qm):Option Bool:=
 some (a.From != a.To)
theorem QqU (a){r}(h:QiR a=some r):Qc prog 68 [.loc 609 0 0] [(609,.var (Qe a))] (Qh (.b r) [(609,.var (Qe a))]):=by
 refine Qc.walk 7 func68 rfl rfl rfl fun C hC=>?_
 refine tg_ hC [.n 16] rfl ?_
 cases h
 exact d1_ rfl rfl ⟨rfl,tt_⟩
def QiS (a:Qm)(c:Int)(d:Int)(e:Int):Option Int:=
 (QiP a).bind fun f=>
 bif (!f)then
 some c
 else
 (QiQ a).bind fun g=>
 bif (!g)then
 some d
 else
 (QiR a).bind fun b=>
 bif (!b)then
 some e
 else
 some 0
theorem QqV (g k l m){r}(h:QiS g k l m=some r):Qc prog 64 [.own 609 3] [(609,.var [.clo (.func 65) [] [.loc 610 0 0],.I k,.clo (.func 66) [] [.loc 610 0 0],.I l,.clo (.func 68) [] [.loc 610 0 0],.I m]),(610,.var (Qe g))] (Qh (.I r) [(609,.var [.clo (.func 65) [] [.loc 610 0 0],.I k,.clo (.func 66) [] [.loc 610 0 0],.I l,.clo (.func 68) [] [.loc 610 0 0],.I m]),(610,.var (Qe g))]):=by
 refine Qc.walk 18 func64 rfl rfl rfl fun C hC=>?_
 refine tg_ hC [.n 14] rfl ?_
 refine AK.loopN 4 (AK.rnd ?_)
 obtain⟨t,p,h⟩:=Qd h
 refine Qa hC [.n 2,.v .no [] (.b true),.n 10,.o (.any (.loc 609 0 0) none),.n 3,.O 4 (.var [.clo (.func 65) [] [.loc 610 0 0],.I k]),.n 6,.cm (.clo) [(609,610)] [(610,609)] [] [.d] [(609,.var (Qe g))] (.b t),.n 3] rfl ⟨⟨⟨⟨tt_,rfl⟩,(fun σ e i _=>Stp.idxV rfl rfl (QC hC.n rfl) (e _ _ rfl) (e _ _ rfl) (Qo.es rfl) (i _ _ rfl) (by decide))⟩,rfl⟩,(QqS _ p)⟩ ?_
 refine bg_ h (fun f h=>Qa hC [.T,.n 13,.K [2] [609,610]] rfl ⟨tt_,f⟩ ?_) fun f h=>Qa hC [.F,.n 4,.v .no [] (.I 1),.n 2] rfl ⟨⟨tt_,f⟩,rfl⟩ ?_
 ·cases h
  exact d1_ rfl rfl ⟨rfl,rfl,tt_⟩
 refine AK.met (AK.rnd ?_)
 obtain⟨u,q,h⟩:=Qd h
 refine Qa hC [.n 2,.v .no [] (.b true),.n 10,.o (.any (.loc 609 0 2) none),.n 1,.kill 4,.n 2,.O 4 (.var [.clo (.func 66) [] [.loc 610 0 0],.I l]),.n 6,.cm (.clo) [(609,610)] [(610,609)] [] [.d] [(609,.var (Qe g))] (.b u),.n 3] rfl ⟨⟨⟨⟨tt_,rfl⟩,(fun σ e i _=>Stp.idxV rfl rfl (QC hC.n rfl) (e _ _ rfl) (e _ _ rfl) (Qo.es rfl) (i _ _ rfl) (by decide))⟩,rfl⟩,(QqT _ q)⟩ ?_
 refine bg_ h (fun a h=>Qa hC [.T,.n 13,.K [2] [609,610]] rfl ⟨tt_,a⟩ ?_) fun a h=>Qa hC [.F,.n 4,.v .no [] (.I 2),.n 2] rfl ⟨⟨tt_,a⟩,rfl⟩ ?_
 ·cases h
  exact d1_ rfl rfl ⟨rfl,rfl,tt_⟩
 refine AK.met (AK.rnd ?_)
 obtain⟨s,j,h⟩:=Qd h
 refine Qa hC [.n 2,.v .no [] (.b true),.n 10,.o (.any (.loc 609 0 4) none),.n 1,.kill 4,.n 2,.O 4 (.var [.clo (.func 68) [] [.loc 610 0 0],.I m]),.n 6,.cm (.clo) [(609,610)] [(610,609)] [] [.d] [(609,.var (Qe g))] (.b s),.n 3] rfl ⟨⟨⟨⟨tt_,rfl⟩,(fun σ e i _=>Stp.idxV rfl rfl (QC hC.n rfl) (e _ _ rfl) (e _ _ rfl) (Qo.es rfl) (i _ _ rfl) (by decide))⟩,rfl⟩,(QqU _ j)⟩ ?_
 refine bg_ h (fun c h=>Qa hC [.T,.n 13,.K [2] [609,610]] rfl ⟨tt_,c⟩ ?_) fun c h=>Qa hC [.F,.n 4,.v .no [] (.I 3),.n 2] rfl ⟨⟨tt_,c⟩,rfl⟩ ?_
 ·cases h
  exact d1_ rfl rfl ⟨rfl,rfl,tt_⟩
 refine AK.met (AK.rnd ?_)
 refine Qa hC [.n 2,.v .no [] (.b false),.n 15] rfl ⟨tt_,rfl⟩ ?_
 cases h
 exact d1_ rfl rfl ⟨rfl,rfl,tt_⟩
def QiT (a:Int)(b:Int):Option Int:=
 bif (decide (b<a))then
 some 0
 else
 some (w64 ((w64 (min2 (IntKind.u64.wrap ((IntKind.u64.wrap b)-(IntKind.u64.wrap a))) 1024))+1))
theorem QqW (a b){r}(h:QiT a b=some r):Qc prog 243 [.I a,.I b] [] (Qh (.I r) []):=by
 refine Qc.walk 16 func243 rfl rfl rfl fun C hC=>?_
 refine tg_ hC [.n 13] rfl ?_
 refine bg_ h (fun c h=>Qa hC [.T,.n 7,.K [4] []] rfl ⟨tt_,c⟩ ?_) fun c h=>Qa hC [.F,.n 5,.o (.any (.i .u64 (IntKind.u64.wrap b)) none),.n 1,.o (.any (.i .u64 (IntKind.u64.wrap a)) none),.n 2,.o (.any (.I (w64 (min2 (IntKind.u64.wrap ((IntKind.u64.wrap b)-(IntKind.u64.wrap a))) 1024))) none),.n 5,.K [4] []] rfl ⟨⟨⟨⟨tt_,c⟩,(fun σ d e _=>Stp.convI rfl rfl (QC hC.n rfl) (d _ _ rfl) QtM Qpg)⟩,(fun σ d e _=>Stp.convI rfl rfl (QC hC.n rfl) (d _ _ rfl) QtM Qpg)⟩,(fun σ d e _=>Stp.convI rfl rfl (QC hC.n rfl) (d _ _ rfl) Qpg QtM)⟩ ?_
 ·cases h
  exact d1_ rfl rfl tt_
 cases h
 exact d1_ rfl rfl tt_
def Qdg (a:Int):Option Bool:=
 some (bif (decide (97≤a))then((decide (a≤122))||((decide (65≤a))&&(decide (a≤90))))else((decide (65≤a))&&(decide (a≤90))))
theorem Qku (a){r}(h:Qdg a=some r):Qc prog 223 [.i .u8 a] [] (Qh (.b r) []):=by
 refine Qc.walk 17 func223 rfl rfl rfl fun C hC=>?_
 unfold Qdg at h
 refine tg_ hC [.n 6] rfl ?_
 refine AK.meetX (fun σ=>σ=⟨[(2,.b (bif (decide (97≤a))then((decide (a≤122))||((decide (65≤a))&&(decide (a≤90))))else((decide (65≤a))&&(decide (a≤90)))))],[]⟩) ?_ ?_
 ·refine tg_ hC [.n 4] rfl ?_
  rcases QS (decide (97≤a))with c | c
  ·refine Qa hC [.S 5 (.b true),.n 4] rfl (tc_ c) ?_
   rcases QS (decide (a≤122))with d | d
   ·refine Qa hC [.S 9 (.b true),.n 9,.S 2 (.b (bif (decide (97≤a))then((decide (a≤122))||((decide (65≤a))&&(decide (a≤90))))else((decide (65≤a))&&(decide (a≤90))))),.K [2] []] rfl ⟨(tc_ d),(congrArg V.b (QvN c (orT d rfl)))⟩ ?_
    exact AK.met rfl
   refine Qa hC [.S 9 (.b false),.n 3] rfl (tc_ d) ?_
   rcases QS (decide (65≤a))with e | e
   ·refine Qa hC [.S 12 (.b true),.n 6,.S 2 (.b (bif (decide (97≤a))then((decide (a≤122))||((decide (65≤a))&&(decide (a≤90))))else((decide (65≤a))&&(decide (a≤90))))),.K [2] []] rfl ⟨(tc_ e),(congrArg V.b (QvN c (orF d (QbB e rfl))))⟩ ?_
    exact AK.met rfl
   refine Qa hC [.S 12 (.b false),.n 6,.S 2 (.b (bif (decide (97≤a))then((decide (a≤122))||((decide (65≤a))&&(decide (a≤90))))else((decide (65≤a))&&(decide (a≤90))))),.K [2] []] rfl ⟨(tc_ e),(congrArg V.b (QvN c (orF d (Qdq e rfl))))⟩ ?_
   exact AK.met rfl
  refine Qa hC [.S 5 (.b false),.n 7] rfl (tc_ c) ?_
  rcases QS (decide (65≤a))with f | f
  ·refine Qa hC [.S 12 (.b true),.n 6,.S 2 (.b (bif (decide (97≤a))then((decide (a≤122))||((decide (65≤a))&&(decide (a≤90))))else((decide (65≤a))&&(decide (a≤90))))),.K [2] []] rfl ⟨(tc_ f),(congrArg V.b (QwM c (QbB f rfl)))⟩ ?_
   exact AK.met rfl
  refine Qa hC [.S 12 (.b false),.n 6,.S 2 (.b (bif (decide (97≤a))then((decide (a≤122))||((decide (65≤a))&&(decide (a≤90))))else((decide (65≤a))&&(decide (a≤90))))),.K [2] []] rfl ⟨(tc_ f),(congrArg V.b (QwM c (Qdq f rfl)))⟩ ?_
  exact AK.met rfl
 rintro σ rfl
 refine tg_ hC [.n 2] rfl ?_
 cases h
 exact d1_ rfl rfl tt_
def QlN (a:ByteArray):Option Bool:=
 bif (QfP a (⟨#[]⟩:ByteArray))then
 some true
 else
 bif (decide (32<(a.size:Int)))then
 some true
 else
 (sidx a 0).bind fun b=>
 (Qdg b).bind fun c=>
 some (!c)
def QlO (a:Int):Option Bool:=
 (Qdg a).bind fun b=>
 bif (!b)then
 bif (decide (a<48))then
 some (a != 95)
 else
 bif (decide (57<a))then
 some (a != 95)
 else
 some false
 else
 some false
def QfX (a:Int)(b:Bool):Option (Int⊕(Unit⊕Unit)):=
 bif b then
 some (.inr (.inl ()))
 else
 some (.inl (w64 (a+1)))
def QfY (d:ByteArray)(a:Int):Option (Int⊕(Unit⊕Unit)):=
 bif (decide (a<(d.size:Int)))then
 (sidx d a).bind fun b=>
 (QlO b).bind (fun c=>QfX a c)
 else
 some (.inr (.inr ()))
def QfZ : Option Bool:=
 some false
def Qf0 : Option Bool:=
 some true
def Qf1 (a:ByteArray)(b:Bool):Option Bool:=
 bif b then
 some false
 else
 (Qy (fun st=>QfY a st) 0).bind (Sum.elim (fun q=>QfZ) (fun q=>Qf0))
def QeD (a:ByteArray):Option Bool:=
 (QlN a).bind (fun b=>Qf1 a b)
theorem Qjb (l){r}(h:QeD l=some r):Qc prog 177 [.s l] [] (Qh (.b r) []):=by
 refine Qc.walk 42 func177 rfl rfl rfl fun C hC=>?_
 refine tg_ hC [.n 7] rfl ?_
 obtain⟨z,A,h⟩:=Qd h
 replace h:Qf1 l z=some r:=h
 refine AK.meetX (fun σ=>σ=⟨[(0,.s l),(17,.b z)],[]⟩) ?_ ?_
 ·replace h:=A
  refine tg_ hC [.n 4] rfl ?_
  refine bg_ h (fun m h=>Qa hC [.S 7 (.b true),.n 11,.K [0,17] []] rfl (tc_ m) ?_) fun m h=>Qa hC [.S 7 (.b false),.n 5] rfl (tc_ m) ?_
  ·cases h
   exact AK.met rfl
  rcases Qt h with⟨p,h⟩|⟨p,h⟩
  ·refine Qa hC [.S 12 (.b true),.n 6,.K [0,17] []] rfl (tc_ p) ?_
   cases h
   exact AK.met rfl
  obtain⟨J,B,h⟩:=Qd h
  obtain⟨L,D,h⟩:=Qd h
  refine Qa hC [.S 12 (.b false),.n 1,.o (.num J),.o (.c false [.d] (.b L)),.n 3,.K [0,17] []] rfl ⟨⟨(tc_ p),B⟩,(Qku _ D)⟩ ?_
  cases h
  exact AK.met rfl
 rintro σ rfl
 replace h:Qf1 l z=some r:=h
 refine tg_ hC [.n 1] rfl ?_
 refine bg_ h (fun a h=>Qa hC [.T,.n 7,.K [2] []] rfl ⟨tt_,a⟩ ?_) fun a h=>Qa hC [.F,.n 11,.K [0,19,20] []] rfl ⟨tt_,a⟩ ?_
 ·cases h
  exact d1_ rfl rfl tt_
 obtain⟨E,v,h⟩:=Qd h
 refine AK.loop (body:=(fun st=>QfY l st)) (fun st σ=>σ=⟨[(0,.s l),(19,.I (l.size:Int)),(20,.I st)],[]⟩) (Sum.elim (fun q e σ=>e=.ret∧σ=⟨[(2,.b false)],[]⟩) (fun q e σ=>e=.exit 0∧σ=⟨[],[]⟩)) v rfl ?_ ?_
 ·rintro t o σ rfl h
  refine tg_ hC [.n 6] rfl ?_
  rcases Qt h with⟨f,h⟩|⟨f,h⟩
  ·obtain⟨G,w,h⟩:=Qd h
   refine Qa hC [.T,.n 14,.o (.num G),.n 4] rfl ⟨⟨tt_,f⟩,w⟩ ?_
   obtain⟨u,x,h⟩:=Qd h
   replace h:QfX t u=some o:=h
   refine AK.meetX (fun σ=>σ=⟨[(0,.s l),(19,.I (l.size:Int)),(20,.I t),(40,.b u)],[]⟩) ?_ ?_
   ·replace h:=x
    obtain⟨H,y,h⟩:=Qd h
    refine Qa hC [.n 2,.o (.c false [.d] (.b H)),.n 2] rfl ⟨tt_,(Qku _ y)⟩ ?_
    refine bg_ h (fun g h=>Qa hC [.S 29 (.b true),.n 3] rfl (tc_ g) ?_) fun g h=>Qa hC [.S 29 (.b false),.n 12,.K [0,19,20,40] []] rfl (tc_ g) ?_
    ·refine bg_ h (fun i h=>Qa hC [.S 32 (.b true),.n 9,.K [0,19,20,40] []] rfl (tc_ i) ?_) fun i h=>Qa hC [.S 32 (.b false),.n 5] rfl (tc_ i) ?_
     ·cases h
      exact AK.met rfl
     refine bg_ h (fun j h=>Qa hC [.S 37 (.b true),.n 4,.K [0,19,20,40] []] rfl (tc_ j) ?_) fun j h=>Qa hC [.S 37 (.b false),.n 4,.K [0,19,20,40] []] rfl (tc_ j) ?_
     ·cases h
      exact AK.met rfl
     cases h
     exact AK.met rfl
    cases h
    exact AK.met rfl
   rintro σ rfl
   replace h:QfX t u=some o:=h
   refine tg_ hC [.n 1] rfl ?_
   refine bg_ h (fun k h=>Qa hC [.T,.n 8,.K [2] []] rfl ⟨tt_,k⟩ ?_) fun k h=>Qa hC [.F,.n 7,.K [0,19,20] []] rfl ⟨tt_,k⟩ ?_
   ·cases h
    exact QaY rfl (an_ rfl rfl)
   cases h
   exact QV rfl rfl
  refine Qa hC [.F,.n 2,.K [] []] rfl ⟨tt_,f⟩ ?_
  cases h
  exact QW rfl (an_ rfl rfl)
 rcases E with(_ | _)
 ·replace h:QfZ=some r:=h
  rintro e σ ⟨rfl,rfl⟩
  refine tg_ hC [.n 2] rfl ?_
  cases h
  exact d1_ rfl rfl tt_
 replace h:Qf0=some r:=h
 rintro e σ ⟨rfl,rfl⟩
 refine tg_ hC [.n 8] rfl ?_
 cases h
 exact d1_ rfl rfl tt_
def QkR (a:ByteArray)(c:QSB):Option Bool:=
 (QeD a).bind fun b=>
 bif (!b)then
 some true
 else
 some ((Qb1 c a).getD false)
def Qfd (c:Int)(d:QSB)(a:ByteArray)(b:Bool):Option ((Int×QSB)⊕(Unit⊕Unit)):=
 bif b then
 some (.inr (.inl ()))
 else
 some (.inl ((w64 (c+1)),(QbR ltS d a true)))
def Qfe (d:(List ByteArray))(b:Int)(e:QSB):Option ((Int×QSB)⊕(Unit⊕Unit)):=
 bif (decide (b<(d.length:Int)))then
 (idx d b).bind fun a=>
 (QkR a e).bind (fun c=>Qfd b e a c)
 else
 some (.inr (.inr ()))
def Qff : Option Bool:=
 some false
def Qfg : Option Bool:=
 some true
def Qh0 (a:(List ByteArray)):Option Bool:=
 (Qy (fun st=>Qfe a st.1 st.2) (0,([]:QSB))).bind (Sum.elim (fun q=>Qff) (fun q=>Qfg))
theorem Qp7 (j){r}(h:Qh0 j=some r):Qc prog 244 [.sl 1 (j.map QcB)] [] (Qh (.b r) []):=by
 refine Qc.walk 24 func244 rfl rfl rfl fun C hC=>?_
 refine Qa hC [.n 8,.O 6 (.map (QK V.s V.b ([]:QSB))),.n 7,.o (.ln j.length),.n 4,.K [3,7,8,9] [6]] rfl ⟨⟨tt_,rfl⟩,Qj⟩ ?_
 obtain⟨B,u,h⟩:=Qd h
 refine AK.loop (body:=(fun st=>Qfe j st.1 st.2)) (fun st σ=>σ=⟨[(3,.map 6),(7,.sl 1 (j.map QcB)),(8,.I (j.length:Int)),(9,.I st.1)],[(6,.map (QK V.s V.b st.2))]⟩) (Sum.elim (fun q e σ=>e=.ret∧σ=⟨[(2,.b false)],[]⟩) (fun q e σ=>e=.exit 0∧σ=⟨[],[]⟩)) u rfl ?_ ?_
 ·rintro ⟨D,m⟩ o σ rfl h
  refine tg_ hC [.n 6] rfl ?_
  rcases Qt h with⟨p,h⟩|⟨p,h⟩
  ·obtain⟨a,w,h⟩:=Qd h
   refine Qa hC [.T,.n 6,.o (.row (QcB a)),.n 6] rfl ⟨⟨tt_,p⟩,(QF w)⟩ ?_
   obtain⟨t,y,h⟩:=Qd h
   replace h:Qfd D m a t=some o:=h
   refine AK.meetX (fun σ=>σ=⟨[(3,.map 6),(5,.s a),(7,.sl 1 (j.map QcB)),(8,.I (j.length:Int)),(9,.I D),(20,.b t)],[(6,.map (QK V.s V.b m))]⟩) ?_ ?_
   ·replace h:=y
    obtain⟨E,A,h⟩:=Qd h
    refine Qa hC [.n 2,.o (.c false [.d] (.b E)),.n 2] rfl ⟨tt_,(Qjb _ A)⟩ ?_
    refine bg_ h (fun g h=>Qa hC [.S 16 (.b true),.n 5,.K [3,5,7,8,9,20] [6]] rfl (tc_ g) ?_) fun g h=>Qa hC [.S 16 (.b false),.n 2,.o (.any (.b ((Qb1 m a).getD false)) none),.n 2,.K [3,5,7,8,9,20] [6]] rfl ⟨(tc_ g),(fun σ G H _=>Stp.lookup (e:=V.s) (f:=V.b) (l:=m) (k:=a) (z:=false) rfl rfl (QC hC.n rfl) (G _ _ rfl) (H _ _ rfl) (G _ _ rfl) QrH QuY QwY rfl)⟩ ?_
    ·cases h
     exact AK.met rfl
    cases h
    exact AK.met rfl
   rintro σ rfl
   replace h:Qfd D m a t=some o:=h
   refine tg_ hC [.n 1] rfl ?_
   refine bg_ h (fun i h=>Qa hC [.T,.n 9,.K [2] []] rfl ⟨tt_,i⟩ ?_) fun i h=>Qa hC [.F,.n 5,.x (fun σ=>σ.set 6 (.map (QK V.s V.b (QbR ltS m a true)))),.n 7,.K [3,7,8,9] [6]] rfl ⟨⟨tt_,i⟩,(Stp.mapUpdate (e:=V.s) (f:=V.b) (l:=m) (k:=a) (v:=true) ltS rfl rfl rfl rfl rfl rfl QrH QuY rfl)⟩ ?_
   ·cases h
    exact QaY rfl (an_ rfl rfl)
   cases h
   exact QV rfl rfl
  refine Qa hC [.F,.n 2,.K [] []] rfl ⟨tt_,p⟩ ?_
  cases h
  exact QW rfl (an_ rfl rfl)
 rcases B with(_ | _)
 ·replace h:Qff=some r:=h
  rintro e σ ⟨rfl,rfl⟩
  refine tg_ hC [.n 2] rfl ?_
  cases h
  exact d1_ rfl rfl tt_
 replace h:Qfg=some r:=h
 rintro e σ ⟨rfl,rfl⟩
 refine tg_ hC [.n 8] rfl ?_
 cases h
 exact d1_ rfl rfl tt_
def Qb6 : Option Int:=
 some 0
def QiU (b:QI)(a:(List Int)):Option Int:=
 bif (b.Kind==1)then
 (QiT b.Lo b.Hi).bind fun e=>
 some e
 else
 bif (b.Kind==2)then
 (Qh0 b.Names).bind fun f=>
 bif f then
 some (b.Names.length:Int)
 else
 Qb6
 else
 bif (b.Kind==3)then
 bif ((decide (0≤(min2 b.First b.Then)))&&(decide ((max2 b.First b.Then)<(a.length:Int))))then
 (idx a b.First).bind fun c=>
 (idx a b.Then).bind fun d=>
 some (w64 (c*d))
 else
 Qb6
 else
 Qb6
theorem QqX (f e){r}(h:QiU f e=some r):Qc prog 226 [.agg (Qx f),.sl 1 (e.map Qb)] [] (Qh (.I r) []):=by
 refine Qc.walk 51 func226 rfl rfl rfl fun C hC=>?_
 refine tg_ hC [.n 6] rfl ?_
 refine AK.meet (fun σ=>σ=⟨[],[]⟩∧Qb6=some r) ?_ ?_
 ·refine tg_ hC [.n 13] rfl ?_
  rcases Qt h with⟨k,h⟩|⟨k,h⟩
  ·obtain⟨w,s,h⟩:=Qd h
   refine Qa hC [.T,.n 6,.o (.c false [.d,.d] (.I w)),.n 6] rfl ⟨⟨tt_,k⟩,(QqW _ _ s)⟩ ?_
   cases h
   exact d1_ rfl rfl tt_
  refine Qa hC [.F,.n 6] rfl ⟨tt_,k⟩ ?_
  rcases Qt h with⟨l,h⟩|⟨l,h⟩
  ·obtain⟨x,t,h⟩:=Qd h
   refine Qa hC [.T,.n 4,.o (.c false [.d] (.b x)),.n 2] rfl ⟨⟨tt_,l⟩,(Qp7 _ t)⟩ ?_
   refine bg_ h (fun m h=>Qa hC [.T,.n 4,.o (.ln f.Names.length),.n 6,.K [4] []] rfl ⟨⟨tt_,m⟩,Qj⟩ ?_) fun m h=>Qa hC [.F,.n 2,.K [] []] rfl ⟨tt_,m⟩ ?_
   ·cases h
    exact d1_ rfl rfl tt_
   exact AK.met (an_ rfl h)
  refine Qa hC [.F,.n 6] rfl ⟨tt_,l⟩ ?_
  refine bg_ h (fun i h=>Qa hC [.T,.n 1] rfl ⟨tt_,i⟩ ?_) fun i h=>Qa hC [.F,.n 2,.K [] []] rfl ⟨tt_,i⟩ ?_
  ·refine AK.meetX (fun σ=>σ=⟨[(1,.sl 1 (e.map Qb)),(2,.loc 2 0 0),(39,.b ((decide (0≤(min2 f.First f.Then)))&&(decide ((max2 f.First f.Then)<(e.length:Int)))))],[(2,.var (Qx f))]⟩) ?_ ?_
   ·refine tg_ hC [.n 8] rfl ?_
    rcases QS (decide (0≤(min2 f.First f.Then)))with g | g
    ·refine Qa hC [.S 30 (.b true),.n 6,.o (.ln e.length),.n 3,.S 39 (.b ((decide (0≤(min2 f.First f.Then)))&&(decide ((max2 f.First f.Then)<(e.length:Int))))),.K [1,2,39] [2]] rfl ⟨⟨(tc_ g),Qj⟩,(congrArg V.b (QbB g rfl))⟩ ?_
     exact AK.met rfl
    refine Qa hC [.S 30 (.b false),.n 10,.S 39 (.b ((decide (0≤(min2 f.First f.Then)))&&(decide ((max2 f.First f.Then)<(e.length:Int))))),.K [1,2,39] [2]] rfl ⟨(tc_ g),(congrArg V.b (Qdq g rfl))⟩ ?_
    exact AK.met rfl
   rintro σ rfl
   refine tg_ hC [.n 1] rfl ?_
   rcases Qt h with⟨j,h⟩|⟨j,h⟩
   ·obtain⟨u,p,h⟩:=Qd h
    obtain⟨v,q,h⟩:=Qd h
    refine Qa hC [.T,.n 1,.K [1,2] [2]] rfl ⟨tt_,j⟩ ?_
    refine AK.draw2 Qo hC mixed [.N,.N,.N,.a (.row (Qb u)) none false,.N,.N,.N,.N,.a (.row (Qb v)) none false,.N,.N,.N] [] [] [4] [] rfl rfl rfl ⟨⟨tt_,(QF p)⟩,(QF q)⟩ rfl (by kernel_rfl) rfl rfl rfl ?_
    refine tg_ hC [.n 4] rfl ?_
    cases h
    exact d1_ rfl rfl tt_
   refine Qa hC [.F,.n 2,.K [] []] rfl ⟨tt_,j⟩ ?_
   exact AK.met (an_ rfl h)
  exact AK.met (an_ rfl h)
 rintro σ ⟨rfl,h⟩
 refine tg_ hC [.n 6] rfl ?_
 cases h
 exact d1_ rfl rfl tt_
def QkS (a:QI)(d:QSB)(b:Int):Option Bool:=
 (QeD a.Name).bind fun c=>
 bif (!c)then
 some true
 else
 bif ((Qb1 d a.Name).getD false)then
 some true
 else
 bif (decide (b<1))then
 some true
 else
 some (decide (1024<b))
def Qfh (a:(List Int))(b:Int)(e:Int)(f:QSB)(c:QI)(d:Bool):Option ((Int×QSB×(List Int))⊕(Unit⊕(List Int))):=
 bif d then
 some (.inr (.inl ()))
 else
 (chk (decide (a.length+([b]:List Int).length≤4294967296))).bind fun _=>
 some (.inl ((w64 (e+1)),(QbR ltS f c.Name true),(a++([b]:List Int))))
def Qfi (f:(List QI))(d:Int)(g:QSB)(a:(List Int)):Option ((Int×QSB×(List Int))⊕(Unit⊕(List Int))):=
 bif (decide (d<(f.length:Int)))then
 (idx f d).bind fun b=>
 (QiU b a).bind fun c=>
 (QkS b g c).bind (fun e=>Qfh a c d g b e)
 else
 some (.inr (.inr a))
def QkT : Option ((List Int)×Bool):=
 some (([]:List Int),false)
def QkU (a:(List Int)):Option ((List Int)×Bool):=
 some (a,true)
def Qfw (a:(List QI)):Option ((List Int)×Bool):=
 bif (decide (32<(a.length:Int)))then
 some (([]:List Int),false)
 else
 (Qy (fun st=>Qfi a st.1 st.2.1 st.2.2) (0,([]:QSB),([]:List Int))).bind (Sum.elim (fun q=>QkT) (fun q=>QkU q))
theorem QkV (w){r}(h:Qfw w=some r):Qc prog 180 [.sl 7 (w.map Qx)] [] (Qh (.tup [.sl 1 (r.1.map Qb),.b r.2]) []):=by
 refine Qc.walk 49 func180 rfl rfl rfl fun C hC=>?_
 refine Qa hC [.n 10,.o (.ln w.length),.n 3] rfl ⟨tt_,Qj⟩ ?_
 refine bg_ h (fun y h=>Qa hC [.T,.n 8,.denil 2 [some 1],.K [2,3] []] rfl ⟨tt_,y⟩ ?_) fun y h=>Qa hC [.F,.n 5,.O 12 (.map (QK V.s V.b ([]:QSB))),.n 12,.o (.ln w.length),.n 4,.adopt 5 43 1,.O 43 (.arr 1 (([]:List Int).map Qb)),.S 5 (.own 43 ([]:List Int).length),.K [4,5,13,14,15] [12,43]] rfl ⟨⟨⟨⟨⟨tt_,y⟩,rfl⟩,Qj⟩,rfl⟩,(congrArg (fun n=>V.own 43 n) (by simp))⟩ ?_
 ·cases h
  exact d2_ rfl rfl rfl tt_
 obtain⟨N,D,h⟩:=Qd h
 refine AK.loop (body:=(fun st=>Qfi w st.1 st.2.1 st.2.2)) (fun st σ=>σ=⟨[(4,.map 12),(5,.own 43 st.2.2.length),(13,.sl 7 (w.map Qx)),(14,.I (w.length:Int)),(15,.I st.1)],[(12,.map (QK V.s V.b st.2.1)),(43,.arr 1 (st.2.2.map Qb))]⟩) (Sum.elim (fun q e σ=>e=.ret∧σ=⟨[(2,.lit (.slice none 0 0)),(3,.b false)],[]⟩) (fun q e σ=>e=.exit 0∧σ=⟨[(5,.own 43 q.length)],[(43,.arr 1 (q.map Qb))]⟩)) D rfl ?_ ?_
 ·rintro ⟨P,A,g⟩ o σ rfl h
  refine tg_ hC [.n 6] rfl ?_
  rcases Qt h with⟨j,h⟩|⟨j,h⟩
  ·obtain⟨a,E,h⟩:=Qd h
   obtain⟨i,G,h⟩:=Qd h
   refine Qa hC [.T,.n 6,.o (.row (Qx a)),.v .no [] (.agg (Qx a)),.n 2,.O 7 (.var (Qx a)),.n 4,.v .no [] (.agg (Qx a)),.n 1,.o (.c true [.d,.o (g.map Qb)] (.I i)),.n 5] rfl ⟨⟨⟨⟨⟨⟨tt_,j⟩,(QF E)⟩,rfl⟩,rfl⟩,rfl⟩,⟨(QjT rfl),(QqX _ _ G)⟩⟩ ?_
   obtain⟨B,H,h⟩:=Qd h
   replace h:Qfh g i P A a B=some o:=h
   refine AK.meetX (fun σ=>σ=⟨[(4,.map 12),(5,.own 43 g.length),(7,.loc 7 0 0),(8,.I i),(13,.sl 7 (w.map Qx)),(14,.I (w.length:Int)),(15,.I P),(39,.b B)],[(7,.var (Qx a)),(12,.map (QK V.s V.b A)),(43,.arr 1 (g.map Qb))]⟩) ?_ ?_
   ·replace h:=H
    obtain⟨U,J,h⟩:=Qd h
    refine Qa hC [.n 3,.o (.c false [.d] (.b U)),.n 2] rfl ⟨tt_,(Qjb _ J)⟩ ?_
    refine bg_ h (fun m h=>Qa hC [.S 26 (.b true),.n 14,.K [4,5,7,8,13,14,15,39] [7,12,43]] rfl (tc_ m) ?_) fun m h=>Qa hC [.S 26 (.b false),.n 3,.o (.any (.b ((Qb1 A a.Name).getD false)) none),.n 2] rfl ⟨(tc_ m),(fun σ W X _=>Stp.lookup (e:=V.s) (f:=V.b) (l:=A) (k:=a.Name) (z:=false) rfl rfl (QC hC.n rfl) (W _ _ rfl) (X _ _ rfl) (W _ _ rfl) QrH QuY QwY rfl)⟩ ?_
    ·cases h
     exact AK.met rfl
    refine bg_ h (fun p h=>Qa hC [.S 32 (.b true),.n 8,.K [4,5,7,8,13,14,15,39] [7,12,43]] rfl (tc_ p) ?_) fun p h=>Qa hC [.S 32 (.b false),.n 4] rfl (tc_ p) ?_
    ·cases h
     exact AK.met rfl
    refine bg_ h (fun t h=>Qa hC [.S 36 (.b true),.n 4,.K [4,5,7,8,13,14,15,39] [7,12,43]] rfl (tc_ t) ?_) fun t h=>Qa hC [.S 36 (.b false),.n 4,.K [4,5,7,8,13,14,15,39] [7,12,43]] rfl (tc_ t) ?_
    ·cases h
     exact AK.met rfl
    cases h
    exact AK.met rfl
   rintro σ rfl
   replace h:Qfh g i P A a B=some o:=h
   refine tg_ hC [.n 1] rfl ?_
   rcases Qt h with⟨u,h⟩|⟨u,h⟩
   ·refine Qa hC [.T,.n 10,.K [2,3] []] rfl ⟨tt_,u⟩ ?_
    cases h
    exact QaY rfl (an_ rfl rfl)
   obtain⟨L,h⟩:=Qbs h
   refine Qa hC [.F,.n 7,.x (fun σ=>σ.set 12 (.map (QK V.s V.b (QbR ltS A a.Name true)))),.n 5,.v (.bd []) [] (.sl 1 (([i]:List Int).map Qb)),.app ((g++([i]:List Int)).map Qb) (g++([i]:List Int)).length,.n 8,.K [4,5,13,14,15] [12,43]] rfl ⟨⟨⟨⟨tt_,u⟩,(Stp.mapUpdate (e:=V.s) (f:=V.b) (l:=A) (k:=a.Name) (v:=true) ltS rfl rfl rfl rfl rfl rfl QrH QuY rfl)⟩,rfl⟩,⟨Qj,Qjv L Qj,Qgz,Qkh Qj⟩⟩ ?_
   cases h
   exact QV rfl rfl
  refine Qa hC [.F,.n 2,.K [5] [43]] rfl ⟨tt_,j⟩ ?_
  cases h
  exact QW rfl (an_ rfl rfl)
 rcases N with(_ | M)
 ·replace h:QkT=some r:=h
  rintro e σ ⟨rfl,rfl⟩
  refine tg_ hC [.n 2,.denil 2 [some 1]] rfl ?_
  cases h
  exact d2_ rfl rfl rfl tt_
 replace h:QkU M=some r:=h
 rintro e σ ⟨rfl,rfl⟩
 refine Qa hC [.n 10,.frz 43 (M.map Qb) [2] []] rfl ⟨tt_,⟨tt_,(Qfp Qj)⟩⟩ ?_
 cases h
 exact d2_ rfl rfl rfl tt_
def Qh1 (a:(List QI)):Option Bool:=
 (Qfw a).bind fun b=>
 some b.2
theorem Qp8 (e){r}(h:Qh1 e=some r):Qc prog 110 [.sl 7 (e.map Qx)] [] (Qh (.b r) []):=by
 refine Qc.walk 11 func110 rfl rfl rfl fun C hC=>?_
 obtain⟨f,a,h⟩:=Qd h
 refine Qa hC [.n 8,.o (.c false [.d] (.tup [.sl 1 (f.1.map Qb),.b f.2])),.n 14] rfl ⟨tt_,(QkV _ a)⟩ ?_
 cases h
 exact d1_ rfl rfl tt_
def Qel (b:Qm)(a:Int):Option Bool:=
 (chk (decide (0≤(w64 (a+1)))&&decide (0≤(w64 (a+1)).toNat)&&decide ((w64 (a+1)).toNat≤b.Colours.length))).bind fun _=>
 (Qh1 ((b.Colours.drop 0).take ((w64 (a+1)).toNat-0))).bind fun c=>
 some c
theorem Qm2 (e f){r}(h:Qel e f=some r):Qc prog 109 [.loc 609 0 0,.loc 610 0 0] [(609,.var (Qe e)),(610,.var (Qb f))] (Qh (.b r) [(609,.var (Qe e)),(610,.var (Qb f))]):=by
 refine Qc.walk 9 func109 rfl rfl rfl fun C hC=>?_
 obtain⟨a,h⟩:=Qbs h
 obtain⟨j,g,h⟩:=Qd h
 refine Qa hC [.n 11,.o (.any (.sl 7 (((e.Colours.drop 0).take ((w64 (f+1)).toNat-0)).map Qx)) none),.o (.c false [.d] (.b j)),.n 4] rfl ⟨⟨tt_,(fun σ i k _=>Stp.sliceD rfl rfl (QC hC.n rfl) (i _ _ rfl) (Qo.es rfl) Bnd.no (Bnd.val (i _ _ rfl) (QX (Qpa a)) rfl) (QX (Qpb a)) (Qas (QX (Qpc a)) (Nat.le_of_eq Qj.symm)) QrE)⟩,(Qp8 _ g)⟩ ?_
 cases h
 exact d1_ rfl rfl ⟨rfl,rfl,tt_⟩
def QlP (x:ByteArray):Option (List ByteArray):=(chk (QtI x)).bind fun _=>some (QeC x)
theorem QoE (x){r}(h:QlP x=some r):Qc prog 242 [.s x] [] (Qh (.own 600 r.length) [(600,.arr 1 (r.map QcB))]):=by
 obtain⟨_,a,h⟩:=Qd h
 cases h
 exact QsY Qvu (by kernel_rfl) (by kernel_rfl) x (Quz a)
def Qgr  : Option (List ByteArray):=
 (QlP (⟨#[99,111,108,111,117,114,32,112,108,97,99,101,32,116,97,115,107,32,118,97,114,32,119,104,101,110,32,106,111,105,110,32,115,112,108,105,116,32,105,110,32,111,117,116,32,99,97,110,99,101,108,32,97,102,116,101,114,32,109,97,110,121,32,102,114,111,109,32,116,111,32,105,110,116,32,101,110,117,109,32,112,97,105,114,32,97,110,100,32,120,111,114,32,111,114,32,105,102]⟩:ByteArray)).bind fun a=>
 some a
theorem QqY  {r:(List ByteArray)}(h:Qgr  = some r):Qc prog 225 [] [] (Qh (.own 600 r.length) [(600,.arr 1 (r.map QcB))]):=by
 refine Qc.walk 2 func225 rfl rfl rfl fun C hC=>?_
 obtain⟨b,a,h⟩:=Qd h
 refine Qa hC [.n 7,.o (.co false [.d] 1 (b.map QcB) b.length),.n 4,.K [0] [1],.ren 1 600] rfl ⟨tt_,⟨(QoE _ a),Qj,.inl rfl⟩⟩ ?_
 cases h
 exact d1_ rfl rfl ⟨rfl,tt_⟩
def Qbl (b:(List ByteArray))(c:ByteArray)(a:Int):Option (Int⊕(Int⊕Unit)):=
 bif (decide (a<(b.length:Int)))then
 (idx b a).bind fun d=>
 bif (QfP c d)then
 some (.inr (.inl a))
 else
 some (.inl (w64 (a+1)))
 else
 some (.inr (.inr ()))
def Qbm (a:Int):Option Int:=
 some a
def Qbn : Option Int:=
 some (-1)
def QbN (a:(List ByteArray))(b:ByteArray):Option Int:=
 (Qy (fun st=>Qbl a b st) 0).bind (Sum.elim (fun q=>Qbm q) (fun q=>Qbn))
theorem Qjl (c f){r}(h:QbN c f=some r):Qc prog 241 [.sl 1 (c.map QcB),.s f] [] (Qh (.I r) []):=by
 refine Qc.walk 19 func241 rfl rfl rfl fun C hC=>?_
 refine Qa hC [.n 9,.o (.ln c.length),.n 4,.K [0,1,7,8] []] rfl ⟨tt_,Qj⟩ ?_
 obtain⟨g,d,h⟩:=Qd h
 refine AK.loop (body:=(fun st=>Qbl c f st)) (fun st σ=>σ=⟨[(0,.sl 1 (c.map QcB)),(1,.s f),(7,.I (c.length:Int)),(8,.I st)],[]⟩) (Sum.elim (fun q e σ=>e=.ret∧σ=⟨[(4,.I q)],[]⟩) (fun q e σ=>e=.exit 0∧σ=⟨[],[]⟩)) d rfl ?_ ?_
 ·rintro l o σ rfl h
  refine tg_ hC [.n 6] rfl ?_
  rcases Qt h with⟨b,h⟩|⟨b,h⟩
  ·obtain⟨j,i,h⟩:=Qd h
   refine Qa hC [.T,.n 15,.o (.row (QcB j)),.n 4] rfl ⟨⟨tt_,b⟩,(QF i)⟩ ?_
   refine bg_ h (fun a h=>Qa hC [.T,.n 9,.K [4] []] rfl ⟨tt_,a⟩ ?_) fun a h=>Qa hC [.F,.n 7,.K [0,1,7,8] []] rfl ⟨tt_,a⟩ ?_
   ·cases h
    exact QaY rfl (an_ rfl rfl)
   cases h
   exact QV rfl rfl
  refine Qa hC [.F,.n 2,.K [] []] rfl ⟨tt_,b⟩ ?_
  cases h
  exact QW rfl (an_ rfl rfl)
 rcases g with(k | _)
 ·replace h:Qbm k=some r:=h
  rintro e σ ⟨rfl,rfl⟩
  refine tg_ hC [.n 2] rfl ?_
  cases h
  exact d1_ rfl rfl tt_
 replace h:Qbn=some r:=h
 rintro e σ ⟨rfl,rfl⟩
 refine tg_ hC [.n 8] rfl ?_
 cases h
 exact d1_ rfl rfl tt_
def Qbo (a:(List ByteArray))(b:ByteArray):Option Bool:=
 (QbN a b).bind fun c=>
 some (decide (0≤c))
theorem Qis (e f){r}(h:Qbo e f=some r):Qc prog 224 [.sl 1 (e.map QcB),.s f] [] (Qh (.b r) []):=by
 refine Qc.walk 9 func224 rfl rfl rfl fun C hC=>?_
 obtain⟨g,a,h⟩:=Qd h
 refine Qa hC [.n 9,.o (.c false [.d,.d] (.I g)),.n 5] rfl ⟨tt_,(Qjl _ _ a)⟩ ?_
 cases h
 exact d1_ rfl rfl tt_
def QjG (a:ByteArray):Option Bool:=
 (Qgr).bind fun b=>
 (Qbo b a).bind fun c=>
 some c
theorem QrJ (g){r}(h:QjG g=some r):Qc prog 178 [.s g] [] (Qh (.b r) []):=by
 refine Qc.walk 6 func178 rfl rfl rfl fun C hC=>?_
 obtain⟨a,e,h⟩:=Qd h
 obtain⟨i,f,h⟩:=Qd h
 refine Qa hC [.n 7,.o (.co false [] 1 (a.map QcB) a.length),.n 1,.o (.c true [.o (a.map QcB),.d] (.b i)),.n 4] rfl ⟨⟨tt_,⟨(QqY  e),Qj,.inl rfl⟩⟩,⟨(QjT rfl),(Qis _ _ f)⟩⟩ ?_
 cases h
 exact d1_ rfl rfl tt_
def QmJ (a:ByteArray):Option Bool:=
 (QeD a).bind fun b=>
 bif b then
 (QjG a).bind fun c=>
 some (!c)
 else
 some false
def Qg2 (a:Bool):Option Bool:=
 some a
def Qc8 (a:ByteArray):Option Bool:=
 (QmJ a).bind (fun b=>Qg2 b)
theorem QeP (j){r}(h:Qc8 j=some r):Qc prog 106 [.s j] [] (Qh (.b r) []):=by
 refine Qc.walk 10 func106 rfl rfl rfl fun C hC=>?_
 refine tg_ hC [.n 6] rfl ?_
 obtain⟨e,f,h⟩:=Qd h
 replace h:Qg2 e=some r:=h
 refine AK.meetX (fun σ=>σ=⟨[(2,.b e)],[]⟩) ?_ ?_
 ·replace h:=f
  obtain⟨k,g,h⟩:=Qd h
  refine Qa hC [.n 2,.o (.c false [.d] (.b k)),.n 1] rfl ⟨tt_,(Qjb _ g)⟩ ?_
  rcases Qt h with⟨a,h⟩|⟨a,h⟩
  ·obtain⟨l,i,h⟩:=Qd h
   refine Qa hC [.S 5 (.b true),.n 1,.o (.c false [.d] (.b l)),.n 4,.K [2] []] rfl ⟨(tc_ a),(QrJ _ i)⟩ ?_
   cases h
   exact AK.met rfl
  refine Qa hC [.S 5 (.b false),.n 6,.K [2] []] rfl (tc_ a) ?_
  cases h
  exact AK.met rfl
 rintro σ rfl
 replace h:Qg2 e=some r:=h
 refine tg_ hC [.n 2] rfl ?_
 cases h
 exact d1_ rfl rfl tt_
def Qdh (a:ByteArray):Option Bool:=
 (Qc8 a).bind fun b=>
 some (!b)
theorem QlQ (e){r}(h:Qdh e=some r):Qc prog 108 [.s e] [] (Qh (.b r) []):=by
 refine Qc.walk 6 func108 rfl rfl rfl fun C hC=>?_
 obtain⟨f,a,h⟩:=Qd h
 refine Qa hC [.n 8,.o (.c false [.d] (.b f)),.n 5] rfl ⟨tt_,(QeP _ a)⟩ ?_
 cases h
 exact d1_ rfl rfl tt_
def QaP (b:(List ByteArray))(a:Int):Option (Int⊕(Int⊕Unit)):=
 bif (decide (a<(b.length:Int)))then
 (idx b a).bind fun c=>
 (Qdh c).bind fun d=>
 bif d then
 some (.inr (.inl a))
 else
 some (.inl (w64 (a+1)))
 else
 some (.inr (.inr ()))
def QaQ (a:Int):Option Int:=
 some a
def QaR : Option Int:=
 some (-1)
def Qbd (a:(List ByteArray)):Option Int:=
 (Qy (fun st=>QaP a st) 0).bind (Sum.elim (fun q=>QaQ q) (fun q=>QaR))
theorem Qh2 (g){r}(h:Qbd g=some r):Qc prog 179 [.sl 1 (g.map QcB),.clo (.func 108) [] []] [] (Qh (.I r) []):=by
 refine Qc.walk 19 func179 rfl rfl rfl fun C hC=>?_
 refine Qa hC [.n 9,.o (.ln g.length),.n 4,.K [0,1,7,8] []] rfl ⟨tt_,Qj⟩ ?_
 obtain⟨j,i,h⟩:=Qd h
 refine AK.loop (body:=(fun st=>QaP g st)) (fun st σ=>σ=⟨[(0,.sl 1 (g.map QcB)),(1,.clo (.func 108) [] []),(7,.I (g.length:Int)),(8,.I st)],[]⟩) (Sum.elim (fun q e σ=>e=.ret∧σ=⟨[(4,.I q)],[]⟩) (fun q e σ=>e=.exit 0∧σ=⟨[],[]⟩)) i rfl ?_ ?_
 ·rintro t o σ rfl h
  refine tg_ hC [.n 6] rfl ?_
  rcases Qt h with⟨f,h⟩|⟨f,h⟩
  ·obtain⟨m,k,h⟩:=Qd h
   obtain⟨p,l,h⟩:=Qd h
   refine Qa hC [.T,.n 15,.o (.row (QcB m)),.n 1,.o (.c false [.d] (.b p)),.n 2] rfl ⟨⟨⟨tt_,f⟩,(QF k)⟩,(QlQ _ l)⟩ ?_
   refine bg_ h (fun a h=>Qa hC [.T,.n 9,.K [4] []] rfl ⟨tt_,a⟩ ?_) fun a h=>Qa hC [.F,.n 7,.K [0,1,7,8] []] rfl ⟨tt_,a⟩ ?_
   ·cases h
    exact QaY rfl (an_ rfl rfl)
   cases h
   exact QV rfl rfl
  refine Qa hC [.F,.n 2,.K [] []] rfl ⟨tt_,f⟩ ?_
  cases h
  exact QW rfl (an_ rfl rfl)
 rcases j with(s | _)
 ·replace h:QaQ s=some r:=h
  rintro e σ ⟨rfl,rfl⟩
  refine tg_ hC [.n 2] rfl ?_
  cases h
  exact d1_ rfl rfl tt_
 replace h:QaR=some r:=h
 rintro e σ ⟨rfl,rfl⟩
 refine tg_ hC [.n 8] rfl ?_
 cases h
 exact d1_ rfl rfl tt_
def QaS (a:(List ByteArray)):Option Bool:=
 (Qbd a).bind fun b=>
 some (decide (0≤b))
theorem QgH (c){r}(h:QaS c=some r):Qc prog 107 [.sl 1 (c.map QcB),.clo (.func 108) [] []] [] (Qh (.b r) []):=by
 refine Qc.walk 9 func107 rfl rfl rfl fun C hC=>?_
 obtain⟨e,a,h⟩:=Qd h
 refine Qa hC [.n 9,.cm (.fn) [] [] [] [.d,.d] [] (.I e),.n 5] rfl ⟨tt_,(Qh2 _ a)⟩ ?_
 cases h
 exact d1_ rfl rfl tt_
def QiF (a:QI):Option Bool:=
 (Qc8 a.Name).bind fun b=>
 bif b then
 bif (a.Kind != 2)then
 some true
 else
 (QaS a.Names).bind fun c=>
 some (!c)
 else
 some false
def QcV (a:Bool):Option Bool:=
 some a
def Qem (a:QI):Option Bool:=
 (QiF a).bind (fun b=>QcV b)
theorem Qm3 (f){r}(h:Qem f=some r):Qc prog 105 [.loc 609 0 0] [(609,.var (Qx f))] (Qh (.b r) [(609,.var (Qx f))]):=by
 refine Qc.walk 16 func105 rfl rfl rfl fun C hC=>?_
 refine tg_ hC [.n 6] rfl ?_
 obtain⟨g,i,h⟩:=Qd h
 replace h:QcV g=some r:=h
 refine AK.meetX (fun σ=>σ=⟨[(1,.b g)],[(609,.var (Qx f))]⟩) ?_ ?_
 ·replace h:=i
  obtain⟨l,j,h⟩:=Qd h
  refine Qa hC [.n 3,.o (.c false [.d] (.b l)),.n 1] rfl ⟨tt_,(QeP _ j)⟩ ?_
  refine bg_ h (fun a h=>Qa hC [.S 5 (.b true),.n 4] rfl (tc_ a) ?_) fun a h=>Qa hC [.S 5 (.b false),.n 12,.K [1] [609]] rfl (tc_ a) ?_
  ·rcases Qt h with⟨e,h⟩|⟨e,h⟩
   ·refine Qa hC [.S 9 (.b true),.n 8,.K [1] [609]] rfl (tc_ e) ?_
    cases h
    exact AK.met rfl
   obtain⟨m,k,h⟩:=Qd h
   refine Qa hC [.S 9 (.b false),.n 2,.cm (.fn) [] [] [] [.d,.d] [] (.b m),.n 5,.K [1] [609]] rfl ⟨(tc_ e),(QgH _ k)⟩ ?_
   cases h
   exact AK.met rfl
  cases h
  exact AK.met rfl
 rintro σ rfl
 replace h:QcV g=some r:=h
 refine tg_ hC [.n 2] rfl ?_
 cases h
 exact d1_ rfl rfl ⟨rfl,tt_⟩
def Qf2 (b:Qm)(c:Int)(d:Int)(e:QI)(f:Int):Option Int:=
 (Qel b c).bind fun g=>
 bif (!g)then
 some d
 else
 (Qem e).bind fun a=>
 bif (!a)then
 some f
 else
 some 0
theorem QoF (g i j k l){r}(h:Qf2 g i j k l=some r):Qc prog 64 [.own 609 2] [(609,.var [.clo (.func 109) [] [.loc 610 0 0,.loc 611 0 0],.I j,.clo (.func 105) [] [.loc 612 0 0],.I l]),(610,.var (Qe g)),(611,.var (Qb i)),(612,.var (Qx k))] (Qh (.I r) [(609,.var [.clo (.func 109) [] [.loc 610 0 0,.loc 611 0 0],.I j,.clo (.func 105) [] [.loc 612 0 0],.I l]),(610,.var (Qe g)),(611,.var (Qb i)),(612,.var (Qx k))]):=by
 refine Qc.walk 18 func64 rfl rfl rfl fun C hC=>?_
 refine tg_ hC [.n 14] rfl ?_
 refine AK.loopN 3 (AK.rnd ?_)
 obtain⟨s,m,h⟩:=Qd h
 refine Qa hC [.n 2,.v .no [] (.b true),.n 10,.o (.any (.loc 609 0 0) none),.n 3,.O 4 (.var [.clo (.func 109) [] [.loc 610 0 0,.loc 611 0 0],.I j]),.n 6,.cm (.clo) [(609,610),(610,611)] [(610,609),(611,610)] [] [.d,.d] [(609,.var (Qe g)),(610,.var (Qb i))] (.b s),.n 3] rfl ⟨⟨⟨⟨tt_,rfl⟩,(fun σ e p _=>Stp.idxV rfl rfl (QC hC.n rfl) (e _ _ rfl) (e _ _ rfl) (Qo.es rfl) (p _ _ rfl) (by decide))⟩,rfl⟩,(Qm2 _ _ m)⟩ ?_
 refine bg_ h (fun c h=>Qa hC [.T,.n 13,.K [2] [609,610,611,612]] rfl ⟨tt_,c⟩ ?_) fun c h=>Qa hC [.F,.n 4,.v .no [] (.I 1),.n 2] rfl ⟨⟨tt_,c⟩,rfl⟩ ?_
 ·cases h
  exact d1_ rfl rfl ⟨rfl,rfl,rfl,rfl,tt_⟩
 refine AK.met (AK.rnd ?_)
 obtain⟨q,f,h⟩:=Qd h
 refine Qa hC [.n 2,.v .no [] (.b true),.n 10,.o (.any (.loc 609 0 2) none),.n 1,.kill 4,.n 2,.O 4 (.var [.clo (.func 105) [] [.loc 612 0 0],.I l]),.n 6,.cm (.clo) [(609,612)] [(612,609)] [] [.d] [(609,.var (Qx k))] (.b q),.n 3] rfl ⟨⟨⟨⟨tt_,rfl⟩,(fun σ e p _=>Stp.idxV rfl rfl (QC hC.n rfl) (e _ _ rfl) (e _ _ rfl) (Qo.es rfl) (p _ _ rfl) (by decide))⟩,rfl⟩,(Qm3 _ f)⟩ ?_
 refine bg_ h (fun a h=>Qa hC [.T,.n 13,.K [2] [609,610,611,612]] rfl ⟨tt_,a⟩ ?_) fun a h=>Qa hC [.F,.n 4,.v .no [] (.I 2),.n 2] rfl ⟨⟨tt_,a⟩,rfl⟩ ?_
 ·cases h
  exact d1_ rfl rfl ⟨rfl,rfl,rfl,rfl,tt_⟩
 refine AK.met (AK.rnd ?_)
 refine Qa hC [.n 2,.v .no [] (.b false),.n 15] rfl ⟨tt_,rfl⟩ ?_
 cases h
 exact d1_ rfl rfl ⟨rfl,rfl,rfl,rfl,tt_⟩
def Qfj (a:Int)(b:QI)(c:Qm):Option Int:=
 (Qf2 c a 8 b 8).bind fun d=>
 some d
theorem Qoi (b c a){r}(h:Qfj b c a=some r):Qc prog 104 [.I b,.agg (Qx c),.loc 609 0 0] [(609,.var (Qe a))] (Qh (.I r) [(609,.var (Qe a))]):=by
 refine Qc.walk 16 func104 rfl rfl rfl fun C hC=>?_
 obtain⟨f,e,h⟩:=Qd h
 refine Qa hC [.n 22,.v .no [] (.agg [.clo (.func 109) [] [.loc 609 0 0,.loc 3 0 0],.I 8]),.n 1,.v .no [] (.agg [.clo (.func 105) [] [.loc 4 0 0],.I 8]),.o (.any (.own 14 2) (some (.var [.clo (.func 109) [] [.loc 609 0 0,.loc 3 0 0],.I 8,.clo (.func 105) [] [.loc 4 0 0],.I 8]))),.cm (.fn) [(609,14),(610,609),(611,3),(612,4)] [(14,609),(609,610),(3,611),(4,612)] [] [.d] [(609,.var [.clo (.func 109) [] [.loc 610 0 0,.loc 611 0 0],.I 8,.clo (.func 105) [] [.loc 612 0 0],.I 8]),(610,.var (Qe a)),(611,.var (Qb b)),(612,.var (Qx c))] (.I f),.n 4] rfl ⟨⟨⟨⟨tt_,rfl⟩,rfl⟩,(fun σ g i hf=>Stp.buildAny rfl rfl (QC hC.n rfl) (Qo.es rfl) Qkp rfl (by decide) (by decide) (QdO g rfl) rfl rfl (hf rfl))⟩,(QoF _ _ _ _ _ e)⟩ ?_
 cases h
 exact d1_ rfl rfl ⟨rfl,tt_⟩
def QbY (d:(List QI))(e:Qm)(a:Int):Option (Int⊕((Int×Int)⊕Unit)):=
 bif (decide (a<(d.length:Int)))then
 (idx d a).bind fun c=>
 (Qfj a c e).bind fun b=>
 bif (b != 0)then
 some (.inr (.inl (a,b)))
 else
 some (.inl (w64 (a+1)))
 else
 some (.inr (.inr ()))
def QbZ (b:Int)(a:Int):Option (Int×Int):=
 some (b,a)
def Qb0 : Option (Int×Int):=
 some (0,0)
def QcD (a:(List QI))(b:Qm):Option (Int×Int):=
 (Qy (fun st=>QbY a b st) 0).bind (Sum.elim (fun q=>QbZ q.1 q.2) (fun q=>Qb0))
theorem QkC (g f){r}(h:QcD g f=some r):Qc prog 103 [.sl 7 (g.map Qx),.clo (.func 104) [] [.loc 609 0 0]] [(609,.var (Qe f))] (Qh (.tup [.I r.1,.I r.2]) [(609,.var (Qe f))]):=by
 refine Qc.walk 25 func103 rfl rfl rfl fun C hC=>?_
 refine Qa hC [.n 10,.o (.ln g.length),.n 4,.K [1,9,10,11] [609]] rfl ⟨tt_,Qj⟩ ?_
 obtain⟨l,i,h⟩:=Qd h
 refine AK.loop (body:=(fun st=>QbY g f st)) (fun st σ=>σ=⟨[(1,.clo (.func 104) [] [.loc 609 0 0]),(9,.sl 7 (g.map Qx)),(10,.I (g.length:Int)),(11,.I st)],[(609,.var (Qe f))]⟩) (Sum.elim (fun q e σ=>e=.ret∧σ=⟨[(4,.I q.1),(5,.I q.2)],[(609,.var (Qe f))]⟩) (fun q e σ=>e=.exit 0∧σ=⟨[],[(609,.var (Qe f))]⟩)) i rfl ?_ ?_
 ·rintro t o σ rfl h
  refine tg_ hC [.n 6] rfl ?_
  rcases Qt h with⟨a,h⟩|⟨a,h⟩
  ·obtain⟨c,j,h⟩:=Qd h
   obtain⟨m,k,h⟩:=Qd h
   refine Qa hC [.T,.n 7,.o (.row (Qx c)),.v .no [] (.agg (Qx c)),.n 3,.O 7 (.var (Qx c)),.n 6,.v .no [] (.agg (Qx c)),.cm (.clo) [(609,609)] [(609,609)] [] [.d,.d,.d] [(609,.var (Qe f))] (.I m),.n 9] rfl ⟨⟨⟨⟨⟨⟨tt_,a⟩,(QF j)⟩,rfl⟩,rfl⟩,rfl⟩,(Qoi _ _ _ k)⟩ ?_
   refine bg_ h (fun b h=>Qa hC [.T,.n 11,.K [4,5] [609]] rfl ⟨tt_,b⟩ ?_) fun b h=>Qa hC [.F,.n 7,.K [1,9,10,11] [609]] rfl ⟨tt_,b⟩ ?_
   ·cases h
    exact QaY rfl (an_ rfl rfl)
   cases h
   exact QV rfl rfl
  refine Qa hC [.F,.n 2,.K [] [609]] rfl ⟨tt_,a⟩ ?_
  cases h
  exact QW rfl (an_ rfl rfl)
 rcases l with(⟨s,p⟩|_)
 ·replace h:QbZ s p=some r:=h
  rintro e σ ⟨rfl,rfl⟩
  refine tg_ hC [.n 2] rfl ?_
  cases h
  exact d2_ rfl rfl rfl ⟨rfl,tt_⟩
 replace h:Qb0=some r:=h
 rintro e σ ⟨rfl,rfl⟩
 refine tg_ hC [.n 9] rfl ?_
 cases h
 exact d2_ rfl rfl rfl ⟨rfl,tt_⟩
def QeQ (a:Qm):Option (Int×Int):=
 (QcD a.Colours a).bind fun b=>
 some (b.1,b.2)
theorem Qkv (a){r}(h:QeQ a=some r):Qc prog 69 [.agg (Qe a)] [] (Qh (.tup [.I r.1,.I r.2]) []):=by
 refine Qc.walk 10 func69 rfl rfl rfl fun C hC=>?_
 obtain⟨c,b,h⟩:=Qd h
 refine Qa hC [.n 12,.cm (.fn) [(609,1)] [(1,609)] [] [.d,.d] [(609,.var (Qe a))] (.tup [.I c.1,.I c.2]),.n 7] rfl ⟨tt_,(QkC _ _ b)⟩ ?_
 cases h
 exact d2_ rfl rfl rfl tt_
def Qg3 (a:QG):Option Bool:=
 (Qc8 a.Name).bind fun b=>
 some b
theorem Qpm (a){r}(h:Qg3 a=some r):Qc prog 112 [.loc 609 0 0] [(609,.var (Qq a))] (Qh (.b r) [(609,.var (Qq a))]):=by
 refine Qc.walk 5 func112 rfl rfl rfl fun C hC=>?_
 obtain⟨f,e,h⟩:=Qd h
 refine Qa hC [.n 9,.o (.c false [.d] (.b f)),.n 4] rfl ⟨tt_,(QeP _ e)⟩ ?_
 cases h
 exact d1_ rfl rfl ⟨rfl,tt_⟩
def Qg4 (a:QG)(b:QG):Option Bool:=
 some (QfP a.Name b.Name)
theorem Qpn (c a){r}(h:Qg4 c a=some r):Qc prog 111 [.agg (Qq c),.loc 609 0 0] [(609,.var (Qq a))] (Qh (.b r) [(609,.var (Qq a))]):=by
 refine Qc.walk 9 func111 rfl rfl rfl fun C hC=>?_
 refine tg_ hC [.n 17] rfl ?_
 cases h
 exact d1_ rfl rfl ⟨rfl,tt_⟩
def Qam (c:(List QG))(d:QG)(a:Int):Option (Int⊕(Int⊕Unit)):=
 bif (decide (a<(c.length:Int)))then
 (idx c a).bind fun e=>
 (Qg4 e d).bind fun b=>
 bif b then
 some (.inr (.inl a))
 else
 some (.inl (w64 (a+1)))
 else
 some (.inr (.inr ()))
def Qan (a:Int):Option Int:=
 some a
def Qao : Option Int:=
 some (-1)
def QaE (a:(List QG))(b:QG):Option Int:=
 (Qy (fun st=>Qam a b st) 0).bind (Sum.elim (fun q=>Qan q) (fun q=>Qao))
theorem QfD (g c){r}(h:QaE g c=some r):Qc prog 181 [.sl 3 (g.map Qq),.clo (.func 111) [] [.loc 609 0 0]] [(609,.var (Qq c))] (Qh (.I r) [(609,.var (Qq c))]):=by
 refine Qc.walk 19 func181 rfl rfl rfl fun C hC=>?_
 refine Qa hC [.n 9,.o (.ln g.length),.n 4,.K [0,1,7,8] [609]] rfl ⟨tt_,Qj⟩ ?_
 obtain⟨k,i,h⟩:=Qd h
 refine AK.loop (body:=(fun st=>Qam g c st)) (fun st σ=>σ=⟨[(0,.sl 3 (g.map Qq)),(1,.clo (.func 111) [] [.loc 609 0 0]),(7,.I (g.length:Int)),(8,.I st)],[(609,.var (Qq c))]⟩) (Sum.elim (fun q e σ=>e=.ret∧σ=⟨[(4,.I q)],[(609,.var (Qq c))]⟩) (fun q e σ=>e=.exit 0∧σ=⟨[],[(609,.var (Qq c))]⟩)) i rfl ?_ ?_
 ·rintro t o σ rfl h
  refine tg_ hC [.n 6] rfl ?_
  rcases Qt h with⟨f,h⟩|⟨f,h⟩
  ·obtain⟨p,l,h⟩:=Qd h
   obtain⟨m,j,h⟩:=Qd h
   refine Qa hC [.T,.n 15,.o (.row (Qq p)),.v .no [] (.agg (Qq p)),.cm (.clo) [(609,609)] [(609,609)] [] [.d,.d] [(609,.var (Qq c))] (.b m),.n 2] rfl ⟨⟨⟨⟨tt_,f⟩,(QF l)⟩,rfl⟩,(Qpn _ _ j)⟩ ?_
   refine bg_ h (fun a h=>Qa hC [.T,.n 9,.K [4] [609]] rfl ⟨tt_,a⟩ ?_) fun a h=>Qa hC [.F,.n 7,.K [0,1,7,8] [609]] rfl ⟨tt_,a⟩ ?_
   ·cases h
    exact QaY rfl (an_ rfl rfl)
   cases h
   exact QV rfl rfl
  refine Qa hC [.F,.n 2,.K [] [609]] rfl ⟨tt_,f⟩ ?_
  cases h
  exact QW rfl (an_ rfl rfl)
 rcases k with(s | _)
 ·replace h:Qan s=some r:=h
  rintro e σ ⟨rfl,rfl⟩
  refine tg_ hC [.n 2] rfl ?_
  cases h
  exact d1_ rfl rfl ⟨rfl,tt_⟩
 replace h:Qao=some r:=h
 rintro e σ ⟨rfl,rfl⟩
 refine tg_ hC [.n 8] rfl ?_
 cases h
 exact d1_ rfl rfl ⟨rfl,tt_⟩
def Qap (a:(List QG))(b:QG):Option Bool:=
 (QaE a b).bind fun c=>
 some (decide (0≤c))
theorem QeY (e a){r}(h:Qap e a=some r):Qc prog 114 [.sl 3 (e.map Qq),.clo (.func 111) [] [.loc 609 0 0]] [(609,.var (Qq a))] (Qh (.b r) [(609,.var (Qq a))]):=by
 refine Qc.walk 9 func114 rfl rfl rfl fun C hC=>?_
 obtain⟨f,c,h⟩:=Qd h
 refine Qa hC [.n 9,.cm (.fn) [(609,609)] [(609,609)] [] [.d,.d] [(609,.var (Qq a))] (.I f),.n 5] rfl ⟨tt_,(QfD _ _ c)⟩ ?_
 cases h
 exact d1_ rfl rfl ⟨rfl,tt_⟩
def Qg5 (b:Qm)(a:Int)(c:QG):Option Bool:=
 (chk (decide (0≤a)&&decide (0≤a.toNat)&&decide (a.toNat≤b.Places.length))).bind fun _=>
 (Qap ((b.Places.drop 0).take (a.toNat-0)) c).bind fun d=>
 some (!d)
theorem Qpo (e f g){r}(h:Qg5 e f g=some r):Qc prog 113 [.loc 609 0 0,.loc 610 0 0,.loc 611 0 0] [(609,.var (Qe e)),(610,.var (Qb f)),(611,.var [.clo (.func 111) [] [.loc 612 0 0]]),(612,.var (Qq g))] (Qh (.b r) [(609,.var (Qe e)),(610,.var (Qb f)),(611,.var [.clo (.func 111) [] [.loc 612 0 0]]),(612,.var (Qq g))]):=by
 refine Qc.walk 11 func113 rfl rfl rfl fun C hC=>?_
 obtain⟨c,h⟩:=Qbs h
 obtain⟨k,j,h⟩:=Qd h
 refine tg_ hC [.n 6,.K [0,1,2,3] [609,610,611,612]] rfl ?_
 refine AK.draw2 Qo hC mixed [.N,.N,.N,.a (.any (.sl 3 (((e.Places.drop 0).take (f.toNat-0)).map Qq)) none) none false,.N,.a (.any (.b k) none) none false,.N,.m .s] [] [] [3] [609,610,611,612] rfl rfl rfl ⟨⟨tt_,(fun σ i l _=>Stp.sliceD rfl rfl (QC hC.n rfl) (i _ _ rfl) (Qo.es rfl) Bnd.no (Bnd.val (i _ _ rfl) (QX (Qpa c)) rfl) (QX (Qpb c)) (Qas (QX (Qpc c)) (Nat.le_of_eq Qj.symm)) QrE)⟩,(fun σ i l _=>Stp.callSame (md:=.cm (.fn) [(609,612)] [(612,609)] [] [.d,.d] [(609,.var (Qq g))] (.b k) [612]) Qo hC i l rfl ⟨⟨tt_,(QeY _ _ j)⟩,⟨rfl,tt_⟩⟩)⟩ rfl (by kernel_rfl) rfl rfl rfl ?_
 refine tg_ hC [.n 2] rfl ?_
 cases h
 exact d1_ rfl rfl ⟨rfl,rfl,rfl,rfl,tt_⟩
def QbE (b:(List QI))(a:Int):Option Bool:=
 some ((decide (0≤a))&&(decide (a<(b.length:Int))))
theorem QfH (d c){r}(h:QbE d c=some r):Qc prog 116 [.sl 7 (d.map Qx),.I c] [] (Qh (.b r) []):=by
 refine Qc.walk 13 func116 rfl rfl rfl fun C hC=>?_
 refine tg_ hC [.n 6] rfl ?_
 refine AK.meetX (fun σ=>σ=⟨[(4,.b ((decide (0≤c))&&(decide (c<(d.length:Int)))))],[]⟩) ?_ ?_
 ·refine tg_ hC [.n 4] rfl ?_
  rcases QS (decide (0≤c))with a | a
  ·refine Qa hC [.S 7 (.b true),.n 2,.o (.ln d.length),.n 4,.S 4 (.b ((decide (0≤c))&&(decide (c<(d.length:Int))))),.K [4] []] rfl ⟨⟨(tc_ a),Qj⟩,(congrArg V.b (QbB a rfl))⟩ ?_
   exact AK.met rfl
  refine Qa hC [.S 7 (.b false),.n 7,.S 4 (.b ((decide (0≤c))&&(decide (c<(d.length:Int))))),.K [4] []] rfl ⟨(tc_ a),(congrArg V.b (Qdq a rfl))⟩ ?_
  exact AK.met rfl
 rintro σ rfl
 refine tg_ hC [.n 2] rfl ?_
 cases h
 exact d1_ rfl rfl tt_
def Qg6 (a:Qm)(b:QG):Option Bool:=
 (QbE a.Colours b.Colour).bind fun c=>
 some c
theorem Qpp (a e){r}(h:Qg6 a e=some r):Qc prog 115 [.loc 609 0 0,.loc 610 0 0] [(609,.var (Qe a)),(610,.var (Qq e))] (Qh (.b r) [(609,.var (Qe a)),(610,.var (Qq e))]):=by
 refine Qc.walk 8 func115 rfl rfl rfl fun C hC=>?_
 obtain⟨g,f,h⟩:=Qd h
 refine Qa hC [.n 11,.o (.c false [.d,.d] (.b g)),.n 4] rfl ⟨tt_,(QfH _ _ f)⟩ ?_
 cases h
 exact d1_ rfl rfl ⟨rfl,rfl,tt_⟩
def Qg7 (a:QG):Option Bool:=
 (QiD a.First).bind fun b=>
 some b
theorem Qpq (a){r}(h:Qg7 a=some r):Qc prog 117 [.loc 609 0 0] [(609,.var (Qq a))] (Qh (.b r) [(609,.var (Qq a))]):=by
 refine Qc.walk 5 func117 rfl rfl rfl fun C hC=>?_
 obtain⟨f,e,h⟩:=Qd h
 refine Qa hC [.n 9,.o (.c false [.d] (.b f)),.n 4] rfl ⟨tt_,(Qnj _ e)⟩ ?_
 cases h
 exact d1_ rfl rfl ⟨rfl,tt_⟩
def Qkk (a:(List QI))(b:Int):Option (Bool×QcU):=
 (Qfw a).bind fun c=>
 bif ((!c.2)||((decide (b<0))||(decide ((a.length:Int)≤b))))then
 some (false,(QcU.mk ([]:(List QI)) ([]:(List Int)) 0))
 else
 some (true,(QcU.mk a c.1 b))
theorem Qss (i e){r}(h:Qkk i e=some r):Qc prog 162 [.sl 7 (i.map Qx),.I e] [] (Qh (.tup [.agg (Qcp r.2),.b r.1]) []):=by
 refine Qc.walk 30 func162 rfl rfl rfl fun C hC=>?_
 obtain⟨j,k,h⟩:=Qd h
 refine Qa hC [.n 9,.o (.c false [.d] (.tup [.sl 1 (j.1.map Qb),.b j.2])),.n 9] rfl ⟨tt_,(QkV _ k)⟩ ?_
 refine AK.meetX (fun σ=>σ=⟨[(0,.sl 7 (i.map Qx)),(1,.I e),(4,.loc 4 0 0),(6,.sl 1 (j.1.map Qb)),(24,.b ((!j.2)||((decide (e<0))||(decide ((i.length:Int)≤e)))))],[(4,.var [.lit (.slice none 0 0),.lit (.slice none 0 0),.I 0])]⟩) ?_ ?_
 ·refine tg_ hC [.n 4] rfl ?_
  rcases QS (!j.2)with f | f
  ·refine Qa hC [.S 15 (.b true),.n 10,.S 24 (.b ((!j.2)||((decide (e<0))||(decide ((i.length:Int)≤e))))),.K [0,1,4,6,24] [4]] rfl ⟨(tc_ f),(congrArg V.b (orT f rfl))⟩ ?_
   exact AK.met rfl
  refine Qa hC [.S 15 (.b false),.n 4] rfl (tc_ f) ?_
  rcases QS (decide (e<0))with a | a
  ·refine Qa hC [.S 19 (.b true),.n 6,.S 24 (.b ((!j.2)||((decide (e<0))||(decide ((i.length:Int)≤e))))),.K [0,1,4,6,24] [4]] rfl ⟨(tc_ a),(congrArg V.b (orF f (orT a rfl)))⟩ ?_
   exact AK.met rfl
  refine Qa hC [.S 19 (.b false),.n 2,.o (.ln i.length),.n 3,.S 24 (.b ((!j.2)||((decide (e<0))||(decide ((i.length:Int)≤e))))),.K [0,1,4,6,24] [4]] rfl ⟨⟨(tc_ a),Qj⟩,(congrArg V.b (orF f (orF a rfl)))⟩ ?_
  exact AK.met rfl
 rintro σ rfl
 refine tg_ hC [.n 1] rfl ?_
 refine bg_ h (fun g h=>Qa hC [.T,.n 2,.v .no [some 7,some 1,none] (.agg (Qcp (QcU.mk ([]:(List QI)) ([]:(List Int)) 0))),.n 1,.O 4 (.var (Qcp (QcU.mk ([]:(List QI)) ([]:(List Int)) 0))),.n 5,.K [4,5] [4]] rfl ⟨⟨⟨tt_,g⟩,rfl⟩,rfl⟩ ?_) fun g h=>Qa hC [.F,.n 7,.v .no [] (.agg (Qcp (QcU.mk i j.1 e))),.n 1,.O 4 (.var (Qcp (QcU.mk i j.1 e))),.n 4,.K [4,5] [4]] rfl ⟨⟨⟨tt_,g⟩,rfl⟩,rfl⟩ ?_
 ·cases h
  exact AK.done (ex_ [_,_] (an_ (an_ (ex_ _ (ex_ _ (an_ rfl (an_ rfl (Or.inl (an_ (Qo.ag rfl) (an_ (Qo.sz rfl) rfl))))))) (an_ rfl tt_)) (QbM tt_)))
 cases h
 exact AK.done (ex_ [_,_] (an_ (an_ (ex_ _ (ex_ _ (an_ rfl (an_ rfl (Or.inl (an_ (Qo.ag rfl) (an_ (Qo.sz rfl) rfl))))))) (an_ rfl tt_)) (QbM tt_)))
def Qgs (c:(List QI))(a:Int):Option Int:=
 (Qkk c a).bind fun b=>
 bif (!b.1)then
 some 0
 else
 (idx b.2.sizes a).bind fun d=>
 some d
theorem QlR (i j){r}(h:Qgs i j=some r):Qc prog 90 [.sl 7 (i.map Qx),.I j] [] (Qh (.I r) []):=by
 refine Qc.walk 20 func90 rfl rfl rfl fun C hC=>?_
 obtain⟨e,f,h⟩:=Qd h
 refine Qa hC [.n 9,.o (.c false [.d,.d] (.tup [.agg (Qcp e.2),.b e.1])),.n 5,.O 5 (.var (Qcp e.2)),.n 10] rfl ⟨⟨tt_,(Qss _ _ f)⟩,rfl⟩ ?_
 rcases Qt h with⟨a,h⟩|⟨a,h⟩
 ·refine Qa hC [.T,.n 7] rfl ⟨tt_,a⟩ ?_
  cases h
  exact d1_ rfl rfl tt_
 obtain⟨k,g,h⟩:=Qd h
 refine Qa hC [.F,.n 7,.o (.row (Qb k)),.n 5] rfl ⟨⟨tt_,a⟩,(QF g)⟩ ?_
 cases h
 exact d1_ rfl rfl tt_
def Qfk (a:(Int×Int))(b:Int):Option Bool:=
 some (decide (b≤a.1))
theorem Qoj (a c){r}(h:Qfk a c=some r):Qc prog 120 [.agg (QaF a),.loc 609 0 0] [(609,.var (Qb c))] (Qh (.b r) [(609,.var (Qb c))]):=by
 refine Qc.walk 8 func120 rfl rfl rfl fun C hC=>?_
 refine tg_ hC [.n 16] rfl ?_
 cases h
 exact d1_ rfl rfl ⟨rfl,tt_⟩
def QaT (c:QBg)(d:Int)(a:Int):Option (Int⊕(Int⊕Unit)):=
 bif (decide (a<(c.length:Int)))then
 (idx c a).bind fun e=>
 (Qfk e d).bind fun b=>
 bif b then
 some (.inr (.inl a))
 else
 some (.inl (w64 (a+1)))
 else
 some (.inr (.inr ()))
def QaU (a:Int):Option Int:=
 some a
def QaV : Option Int:=
 some (-1)
def Qbe (a:QBg)(b:Int):Option Int:=
 (Qy (fun st=>QaT a b st) 0).bind (Sum.elim (fun q=>QaU q) (fun q=>QaV))
theorem Qh3 (g c){r}(h:Qbe g c=some r):Qc prog 182 [.sl 2 (g.map QaF),.clo (.func 120) [] [.loc 609 0 0]] [(609,.var (Qb c))] (Qh (.I r) [(609,.var (Qb c))]):=by
 refine Qc.walk 19 func182 rfl rfl rfl fun C hC=>?_
 refine Qa hC [.n 9,.o (.ln g.length),.n 4,.K [0,1,7,8] [609]] rfl ⟨tt_,Qj⟩ ?_
 obtain⟨k,i,h⟩:=Qd h
 refine AK.loop (body:=(fun st=>QaT g c st)) (fun st σ=>σ=⟨[(0,.sl 2 (g.map QaF)),(1,.clo (.func 120) [] [.loc 609 0 0]),(7,.I (g.length:Int)),(8,.I st)],[(609,.var (Qb c))]⟩) (Sum.elim (fun q e σ=>e=.ret∧σ=⟨[(4,.I q)],[(609,.var (Qb c))]⟩) (fun q e σ=>e=.exit 0∧σ=⟨[],[(609,.var (Qb c))]⟩)) i rfl ?_ ?_
 ·rintro t o σ rfl h
  refine tg_ hC [.n 6] rfl ?_
  rcases Qt h with⟨f,h⟩|⟨f,h⟩
  ·obtain⟨p,l,h⟩:=Qd h
   obtain⟨m,j,h⟩:=Qd h
   refine Qa hC [.T,.n 15,.o (.row (QaF p)),.v .no [] (.agg (QaF p)),.cm (.clo) [(609,609)] [(609,609)] [] [.d,.d] [(609,.var (Qb c))] (.b m),.n 2] rfl ⟨⟨⟨⟨tt_,f⟩,(QF l)⟩,rfl⟩,(Qoj _ _ j)⟩ ?_
   refine bg_ h (fun a h=>Qa hC [.T,.n 9,.K [4] [609]] rfl ⟨tt_,a⟩ ?_) fun a h=>Qa hC [.F,.n 7,.K [0,1,7,8] [609]] rfl ⟨tt_,a⟩ ?_
   ·cases h
    exact QaY rfl (an_ rfl rfl)
   cases h
   exact QV rfl rfl
  refine Qa hC [.F,.n 2,.K [] [609]] rfl ⟨tt_,f⟩ ?_
  cases h
  exact QW rfl (an_ rfl rfl)
 rcases k with(s | _)
 ·replace h:QaU s=some r:=h
  rintro e σ ⟨rfl,rfl⟩
  refine tg_ hC [.n 2] rfl ?_
  cases h
  exact d1_ rfl rfl ⟨rfl,tt_⟩
 replace h:QaV=some r:=h
 rintro e σ ⟨rfl,rfl⟩
 refine tg_ hC [.n 8] rfl ?_
 cases h
 exact d1_ rfl rfl ⟨rfl,tt_⟩
def QaW (a:QBg)(b:Int):Option Bool:=
 (Qbe a b).bind fun c=>
 some (decide (0≤c))
theorem QgI (e a){r}(h:QaW e a=some r):Qc prog 119 [.sl 2 (e.map QaF),.clo (.func 120) [] [.loc 609 0 0]] [(609,.var (Qb a))] (Qh (.b r) [(609,.var (Qb a))]):=by
 refine Qc.walk 9 func119 rfl rfl rfl fun C hC=>?_
 obtain⟨f,c,h⟩:=Qd h
 refine Qa hC [.n 9,.cm (.fn) [(609,609)] [(609,609)] [] [.d,.d] [(609,.var (Qb a))] (.I f),.n 5] rfl ⟨tt_,(Qh3 _ _ c)⟩ ?_
 cases h
 exact d1_ rfl rfl ⟨rfl,tt_⟩
def Qg8 (b:Qm)(a:QG):Option Bool:=
 (Qgs b.Colours a.Colour).bind fun c=>
 (QaW a.First c).bind fun d=>
 some (!d)
theorem Qpr (a e){r}(h:Qg8 a e=some r):Qc prog 118 [.loc 609 0 0,.loc 610 0 0] [(609,.var (Qe a)),(610,.var (Qq e))] (Qh (.b r) [(609,.var (Qe a)),(610,.var (Qq e))]):=by
 refine Qc.walk 14 func118 rfl rfl rfl fun C hC=>?_
 obtain⟨f,g,h⟩:=Qd h
 obtain⟨j,i,h⟩:=Qd h
 refine Qa hC [.n 11,.o (.c false [.d,.d] (.I f)),.n 2,.O 3 (.var (Qb f)),.n 7,.cm (.fn) [(609,3)] [(3,609)] [] [.d,.d] [(609,.var (Qb f))] (.b j),.n 5] rfl ⟨⟨⟨tt_,(QlR _ _ g)⟩,rfl⟩,(QgI _ _ i)⟩ ?_
 cases h
 exact d1_ rfl rfl ⟨rfl,rfl,tt_⟩

end Go.Proofs
