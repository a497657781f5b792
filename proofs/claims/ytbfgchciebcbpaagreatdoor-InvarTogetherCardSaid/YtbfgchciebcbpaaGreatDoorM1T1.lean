/- What functions of the program do, as functions over plain data, and the walks that show it: printed by a program. -/
import Derived.Test.YtbfgchciebcbpaaGreatDoorM1V3
import Derived.Test.YtbfgchciebcbpaaGreatDoorProg
set_option linter.unusedVariables false
set_option linter.unusedSimpArgs false
set_option linter.unusedSectionVars false
set_option linter.deprecated false
set_option maxRecDepth 100000
set_option maxHeartbeats 4000000
noncomputable section
namespace Go.Proofs
open Go Go.RowKit Go.Vm Go.Proofs.Tryz
structure QD where
 Name:ByteArray
 Kind:Int
 Lo:Int
 Hi:Int
 Names:(List ByteArray)
 First:Int
 Then:Int
structure QB where
 Name:ByteArray
 Colour:Int
 First:(List (Int×Int))
structure Q6 where
 Name:ByteArray
 Colour:Int
structure Qj where
 Kind:Int
 Num:Int
 Kids:(List Qj)
structure QM where
 Place:Int
 Expr:Qj
structure Qu where
 Name:ByteArray
 Vars:(List Q6)
 Guard:Qj
 Join:Int
 Split:Int
 Ins:(List QM)
 Outs:(List QM)
 Cancel:(List Int)
 After:Int
 Many:(Int×Int×Int)
structure Qm where
 Colours:(List QD)
 Places:(List QB)
 Tasks:(List Qu)
 From:Int
 To:Int
structure Qen where
 a:Int
 b:Int
structure QdI where
 Kind:Int
 At:Int
structure Qcu where
 all:(List QD)
 sizes:(List Int)
 k:Int
def Qb7 (x:ByteArray):List V:=[.s x]
def Qb (x:Int):List V:=[.i .i64 x]
theorem Que (l:List Int):∀r∈l.map Qb,∀v∈r,v.sca=true:=Qvm (fun _=>rfl) l
def QvH (x:(List ByteArray)):List V:=[.sl 1 (x.map Qb7)]
def Qv (x:QD):List V:=[.s x.Name,.i .i64 x.Kind,.i .i64 x.Lo,.i .i64 x.Hi,.sl 1 (x.Names.map Qb7),.i .i64 x.First,.i .i64 x.Then]
def QsE (x:(List QD)):List V:=[.sl 7 (x.map Qv)]
def Qaq (x:(Int×Int)):List V:=[.i .i64 x.1,.i .i64 x.2]
def Qjn (x:(List (Int×Int))):List V:=[.sl 2 (x.map Qaq)]
def Qq (x:QB):List V:=[.s x.Name,.i .i64 x.Colour,.sl 2 (x.First.map Qaq)]
def Qs6 (x:(List QB)):List V:=[.sl 3 (x.map Qq)]
def Qx (x:Q6):List V:=[.s x.Name,.i .i64 x.Colour]
def Qa4 (x:(List Q6)):List V:=[.sl 2 (x.map Qx)]
mutual
def Qnp : Qj→List V
 | ⟨x0,x1,x2⟩=>[.i .i64 x0,.i .i64 x1,.sl 3 (QaG x2)]
def QaG : List Qj→List (List V)
 | []=>[]
 | e::es=>Qnp e::QaG es
end
def Qo (x:Qj):List V:=[.i .i64 x.Kind,.i .i64 x.Num,.sl 3 (QaG x.Kids)]
theorem QrS : ∀x:Qj,Qnp x=Qo x
 | ⟨x0,x1,x2⟩=>by rw [Qnp];rfl
theorem Qg9 : ∀l:List Qj,QaG l=l.map Qo
 | []=>by rw [QaG];rfl
 | e::es=>by rw [QaG,Qg9 es,QrS];rfl
theorem Qha (l:List Qj):(QaG l).length=l.length:=by rw [Qg9,Qjy]
theorem QkC {l:List Qj}{j:Int}{x:Qj}(h:idx l j=some x):0≤j∧(QaG l)[j.toNat]? = some (Qo x):=by rw [Qg9];exact QC h
def QP (x:QM):List V:=[.i .i64 x.Place,.i .i64 x.Expr.Kind,.i .i64 x.Expr.Num,.sl 3 (QaG x.Expr.Kids)]
def Quf (x:(List QM)):List V:=[.sl 4 (x.map QP)]
def Qk (x:(List Int)):List V:=[.sl 1 (x.map Qb)]
def Qrk (x:(Int×Int×Int)):List V:=[.i .i64 x.1,.i .i64 x.2.1,.i .i64 x.2.2]
def Qf (x:Qu):List V:=[.s x.Name,.sl 2 (x.Vars.map Qx),.i .i64 x.Guard.Kind,.i .i64 x.Guard.Num,.sl 3 (QaG x.Guard.Kids),.i .i64 x.Join,.i .i64 x.Split,.sl 4 (x.Ins.map QP),.sl 4 (x.Outs.map QP),.sl 1 (x.Cancel.map Qb),.i .i64 x.After,.i .i64 x.Many.1,.i .i64 x.Many.2.1,.i .i64 x.Many.2.2]
def QtH (x:(List Qu)):List V:=[.sl 14 (x.map Qf)]
def Qe (x:Qm):List V:=[.sl 7 (x.Colours.map Qv),.sl 3 (x.Places.map Qq),.sl 14 (x.Tasks.map Qf),.i .i64 x.From,.i .i64 x.To]
def Qf7 (x:Qen):List V:=[.i .i64 x.a,.i .i64 x.b]
def Qbv (x:QdI):List V:=[.i .i64 x.Kind,.i .i64 x.At]
def QbM (x:Qcu):List V:=[.sl 7 (x.all.map Qv),.sl 1 (x.sizes.map Qb),.i .i64 x.k]
def Qa3 (fn:Nat):Qg5:=QwC Tryz.f34 0 fn
def QuW : Go.Shelf.Ren:=⟨fun | 20=>44 | n=>n,fun | 0=>0 | 3=>3 | 4=>4 | 22=>27 | n=>n,fun n=>n⟩
theorem Qug : Lays2.n20 Tryz.prog QuW where
 mixed:=by kernel_rfl
 f20:=Tryz.func44.trans (congrArg some (by kernel_rfl))
 t0:=Tryz.underlying0
 a0:=Tryz.isAgg0
 z0:=Tryz.sizeOf0
 v0:=Tryz.zeroValue0
 t3:=Tryz.underlying3
 a3:=Tryz.isAgg3
 z3:=Tryz.sizeOf3
 v3:=Tryz.zeroValue3
 t4:=Tryz.underlying4
 a4:=Tryz.isAgg4
 z4:=Tryz.sizeOf4
 v4:=Tryz.zeroValue4
 t22:=Tryz.underlying27
 a22:=Tryz.isAgg27
 z22:=Tryz.sizeOf27
 v22:=Tryz.zeroValue27
 i3:=by kernel_rfl
theorem Qv7 (a0 a1 a2 b0 b1 b2:Int):EqT Tryz.prog 73 [.int .i64 a0,.int .i64 a1,.int .i64 a2] [.int .i64 b0,.int .i64 b1,.int .i64 b2] ((a0==b0)&&((a1==b1)&&(a2==b2))):=by
 refine⟨by kernel_rfl,fun w=>?_⟩
 have u3:=Tryz.underlying3
 have g3:=Tryz.isAgg3
 have z3:=Tryz.sizeOf3
 show(Op.equalIn (9999+1) 73 (.agg #[.int .i64 a0,.int .i64 a1,.int .i64 a2]) (.agg #[.int .i64 b0,.int .i64 b1,.int .i64 b2])).run Tryz.prog w=_
 rw [Op.equalIn]
 simp only [Sem.run_bind,run_underlying Tryz.underlying73,Result.andThen_ok]
 simp only [Std.Legacy.Range.forIn_eq_forIn_range',Std.Legacy.Range.size,Nat.sub_zero,Nat.add_sub_cancel,Nat.div_one,List.range'_succ,List.range'_zero,List.forIn_cons,List.forIn_nil]
 go_simp
 by_cases h0:a0=b0<;>by_cases h1:a1=b1<;>by_cases h2:a2=b2<;>simp [h0,h1,h2]
def QuX : Go.Shelf.Ren:=⟨fun | 157=>242 | 199=>249 | 229=>248 | 261=>255 | 311=>257 | 312=>258 | n=>n,fun | 0=>0 | 3=>3 | 4=>4 | 5=>5 | 9=>9 | 21=>21 | 31=>100 | 40=>263 | 46=>128 | 49=>274 | 51=>176 | 119=>261 | 141=>268 | 152=>264 | 154=>266 | 193=>270 | 194=>271 | 196=>273 | 198=>276 | 201=>279 | 226=>281 | 227=>282 | n=>n,fun | 0=>0 | 6=>1 | n=>n⟩
theorem Quh : Lays.n157 Tryz.prog QuX where
 mixed:=by kernel_rfl
 f157:=Tryz.func242.trans (congrArg some (by kernel_rfl))
 f199:=Tryz.func249.trans (congrArg some (by kernel_rfl))
 f229:=Tryz.func248.trans (congrArg some (by kernel_rfl))
 f261:=Tryz.func255.trans (congrArg some (by kernel_rfl))
 f311:=Tryz.func257.trans (congrArg some (by kernel_rfl))
 f312:=Tryz.func258.trans (congrArg some (by kernel_rfl))
 t0:=Tryz.underlying0
 a0:=Tryz.isAgg0
 z0:=Tryz.sizeOf0
 v0:=Tryz.zeroValue0
 t3:=Tryz.underlying3
 a3:=Tryz.isAgg3
 z3:=Tryz.sizeOf3
 v3:=Tryz.zeroValue3
 t4:=Tryz.underlying4
 a4:=Tryz.isAgg4
 z4:=Tryz.sizeOf4
 v4:=Tryz.zeroValue4
 t5:=Tryz.underlying5
 a5:=Tryz.isAgg5
 z5:=Tryz.sizeOf5
 v5:=Tryz.zeroValue5
 t9:=Tryz.underlying9
 a9:=Tryz.isAgg9
 z9:=Tryz.sizeOf9
 v9:=Tryz.zeroValue9
 t21:=Tryz.underlying21
 a21:=Tryz.isAgg21
 z21:=Tryz.sizeOf21
 v21:=Tryz.zeroValue21
 t31:=Tryz.underlying100
 a31:=Tryz.isAgg100
 z31:=Tryz.sizeOf100
 v31:=Tryz.zeroValue100
 t40:=Tryz.underlying263
 a40:=Tryz.isAgg263
 z40:=Tryz.sizeOf263
 v40:=Tryz.zeroValue263
 t46:=Tryz.underlying128
 a46:=Tryz.isAgg128
 z46:=Tryz.sizeOf128
 v46:=Tryz.zeroValue128
 t49:=Tryz.underlying274
 a49:=Tryz.isAgg274
 z49:=Tryz.sizeOf274
 v49:=Tryz.zeroValue274
 t51:=Tryz.underlying176
 a51:=Tryz.isAgg176
 z51:=Tryz.sizeOf176
 v51:=Tryz.zeroValue176
 t119:=Tryz.underlying261
 a119:=Tryz.isAgg261
 z119:=Tryz.sizeOf261
 t141:=Tryz.underlying268
 a141:=Tryz.isAgg268
 z141:=Tryz.sizeOf268
 v141:=Tryz.zeroValue268
 t152:=Tryz.underlying264
 a152:=Tryz.isAgg264
 z152:=Tryz.sizeOf264
 v152:=Tryz.zeroValue264
 t154:=Tryz.underlying266
 a154:=Tryz.isAgg266
 z154:=Tryz.sizeOf266
 v154:=Tryz.zeroValue266
 t193:=Tryz.underlying270
 a193:=Tryz.isAgg270
 z193:=Tryz.sizeOf270
 v193:=Tryz.zeroValue270
 t194:=Tryz.underlying271
 a194:=Tryz.isAgg271
 z194:=Tryz.sizeOf271
 v194:=Tryz.zeroValue271
 t196:=Tryz.underlying273
 a196:=Tryz.isAgg273
 z196:=Tryz.sizeOf273
 v196:=Tryz.zeroValue273
 t198:=Tryz.underlying276
 a198:=Tryz.isAgg276
 z198:=Tryz.sizeOf276
 v198:=Tryz.zeroValue276
 t201:=Tryz.underlying279
 a201:=Tryz.isAgg279
 z201:=Tryz.sizeOf279
 v201:=Tryz.zeroValue279
 t226:=Tryz.underlying281
 a226:=Tryz.isAgg281
 z226:=Tryz.sizeOf281
 v226:=Tryz.zeroValue281
 t227:=Tryz.underlying282
 a227:=Tryz.isAgg282
 z227:=Tryz.sizeOf282
 v227:=Tryz.zeroValue282
 g0:=by kernel_rfl
 g6:=by kernel_rfl
theorem Qoj : Qri Tryz.prog 178 .u64=true:=by kernel_rfl
theorem QsF : Qri Tryz.prog 3 .i64=true:=by kernel_rfl
theorem Qi0 : Qc4 Tryz.prog 3 (V.i .i64) (Value.int .i64):=Qc4.int (by kernel_rfl)
theorem QtI : Qc4 Tryz.prog 9 V.s Value.string:=Qc4.str (by kernel_rfl)
theorem mixed : Tryz.prog.follows .mixedOrders=true:=by kernel_rfl
theorem QqD : Qjk Tryz.prog 241=some (9,4):=by kernel_rfl
theorem Qie : Qjk Tryz.prog 88=some (3,27):=by kernel_rfl
theorem QtJ : Qjk Tryz.prog 97=some (3,3):=by kernel_rfl
def QuY : Go.Shelf.Ren:=⟨fun | 125=>82 | 128=>158 | 129=>159 | 189=>43 | 215=>212 | 216=>155 | 257=>81 | 294=>149 | 295=>150 | 296=>151 | 297=>152 | 298=>153 | 299=>154 | 300=>156 | 301=>157 | 328=>207 | 329=>208 | 330=>209 | 331=>210 | 332=>211 | 343=>233 | n=>n,fun | 0=>0 | 3=>3 | 4=>4 | 5=>5 | 9=>9 | 28=>27 | 46=>128 | 51=>176 | 53=>178 | 131=>165 | 182=>168 | 183=>169 | 218=>224 | 222=>228 | 228=>246 | 229=>247 | n=>n,fun n=>n⟩
theorem Qui : Lays.n189 Tryz.prog QuY where
 mixed:=by kernel_rfl
 f125:=Tryz.func82.trans (congrArg some (by kernel_rfl))
 f128:=Tryz.func158.trans (congrArg some (by kernel_rfl))
 f129:=Tryz.func159.trans (congrArg some (by kernel_rfl))
 f189:=Tryz.func43.trans (congrArg some (by kernel_rfl))
 f215:=Tryz.func212.trans (congrArg some (by kernel_rfl))
 f216:=Tryz.func155.trans (congrArg some (by kernel_rfl))
 f257:=Tryz.func81.trans (congrArg some (by kernel_rfl))
 f294:=Tryz.func149.trans (congrArg some (by kernel_rfl))
 f295:=Tryz.func150.trans (congrArg some (by kernel_rfl))
 f296:=Tryz.func151.trans (congrArg some (by kernel_rfl))
 f297:=Tryz.func152.trans (congrArg some (by kernel_rfl))
 f298:=Tryz.func153.trans (congrArg some (by kernel_rfl))
 f299:=Tryz.func154.trans (congrArg some (by kernel_rfl))
 f300:=Tryz.func156.trans (congrArg some (by kernel_rfl))
 f301:=Tryz.func157.trans (congrArg some (by kernel_rfl))
 f328:=Tryz.func207.trans (congrArg some (by kernel_rfl))
 f329:=Tryz.func208.trans (congrArg some (by kernel_rfl))
 f330:=Tryz.func209.trans (congrArg some (by kernel_rfl))
 f331:=Tryz.func210.trans (congrArg some (by kernel_rfl))
 f332:=Tryz.func211.trans (congrArg some (by kernel_rfl))
 f343:=Tryz.func233.trans (congrArg some (by kernel_rfl))
 t0:=Tryz.underlying0
 a0:=Tryz.isAgg0
 z0:=Tryz.sizeOf0
 v0:=Tryz.zeroValue0
 t3:=Tryz.underlying3
 a3:=Tryz.isAgg3
 z3:=Tryz.sizeOf3
 v3:=Tryz.zeroValue3
 t4:=Tryz.underlying4
 a4:=Tryz.isAgg4
 z4:=Tryz.sizeOf4
 v4:=Tryz.zeroValue4
 t5:=Tryz.underlying5
 a5:=Tryz.isAgg5
 z5:=Tryz.sizeOf5
 v5:=Tryz.zeroValue5
 t9:=Tryz.underlying9
 a9:=Tryz.isAgg9
 z9:=Tryz.sizeOf9
 v9:=Tryz.zeroValue9
 t28:=Tryz.underlying27
 a28:=Tryz.isAgg27
 z28:=Tryz.sizeOf27
 v28:=Tryz.zeroValue27
 t46:=Tryz.underlying128
 a46:=Tryz.isAgg128
 z46:=Tryz.sizeOf128
 v46:=Tryz.zeroValue128
 t51:=Tryz.underlying176
 a51:=Tryz.isAgg176
 z51:=Tryz.sizeOf176
 v51:=Tryz.zeroValue176
 t53:=Tryz.underlying178
 a53:=Tryz.isAgg178
 z53:=Tryz.sizeOf178
 v53:=Tryz.zeroValue178
 t131:=Tryz.underlying165
 a131:=Tryz.isAgg165
 z131:=Tryz.sizeOf165
 v131:=Tryz.zeroValue165
 t182:=Tryz.underlying168
 a182:=Tryz.isAgg168
 z182:=Tryz.sizeOf168
 v182:=Tryz.zeroValue168
 t183:=Tryz.underlying169
 a183:=Tryz.isAgg169
 z183:=Tryz.sizeOf169
 v183:=Tryz.zeroValue169
 t218:=Tryz.underlying224
 a218:=Tryz.isAgg224
 z218:=Tryz.sizeOf224
 v218:=Tryz.zeroValue224
 t222:=Tryz.underlying228
 a222:=Tryz.isAgg228
 z222:=Tryz.sizeOf228
 v222:=Tryz.zeroValue228
 t228:=Tryz.underlying246
 a228:=Tryz.isAgg246
 z228:=Tryz.sizeOf246
 v228:=Tryz.zeroValue246
 t229:=Tryz.underlying247
 a229:=Tryz.isAgg247
 z229:=Tryz.sizeOf247
 v229:=Tryz.zeroValue247
theorem QtK : Tryz.prog.underlying 27=some (.slice 3):=by kernel_rfl
theorem Qv8 : QiW Tryz.prog 27 ((fun x=>V.sl 1 (x.map Qb)) ([]:(List Int))):=QiW.sl (by kernel_rfl)
theorem QvI : QiW Tryz.prog 4 (V.b false):=QiW.one (v:=.bool false) (by kernel_rfl)
theorem QvJ : Q7 Tryz.prog 3=some [.i .i64 0]:=by kernel_rfl
theorem QwD : Q7 Tryz.prog 9=some [.s (⟨#[]⟩:ByteArray)]:=by kernel_rfl
theorem Qv9 : Q7 Tryz.prog 26=some [.lit (.slice none 0 0),.lit (.slice none 0 0),.lit (.slice none 0 0),.i .i64 0,.i .i64 0]:=by kernel_rfl
theorem Qwa : Q7 Tryz.prog 27=some [.lit (.slice none 0 0)]:=by kernel_rfl
theorem Qwb : Q7 Tryz.prog 33=some [.i .i64 0]:=by kernel_rfl
theorem Qwc : Q7 Tryz.prog 59=some [.lit (.slice none 0 0)]:=by kernel_rfl
theorem Qwd : Q7 Tryz.prog 61=some [.i .i64 0,.i .i64 0]:=by kernel_rfl
theorem Qwe : Q7 Tryz.prog 63=some [.i .i64 0,.i .i64 0]:=by kernel_rfl
theorem Qwf : Q7 Tryz.prog 71=some [.i .i64 0,.i .i64 0,.lit (.slice none 0 0)]:=by kernel_rfl
theorem Qwg : Q7 Tryz.prog 73=some [.i .i64 0,.i .i64 0,.i .i64 0]:=by kernel_rfl
theorem Qwh : Q7 Tryz.prog 75=some [.s (⟨#[]⟩:ByteArray),.lit (.slice none 0 0),.i .i64 0,.i .i64 0,.lit (.slice none 0 0),.i .i64 0,.i .i64 0,.lit (.slice none 0 0),.lit (.slice none 0 0),.lit (.slice none 0 0),.i .i64 0,.i .i64 0,.i .i64 0,.i .i64 0]:=by kernel_rfl
theorem Qwi : Q7 Tryz.prog 79=some [.i .i64 0,.i .i64 0,.i .i64 0,.lit (.slice none 0 0)]:=by kernel_rfl
theorem Qwj : Q7 Tryz.prog 90=some [.i .i64 0,.lit (.map none)]:=by kernel_rfl
theorem QvK : Q7 Tryz.prog 102=some [.s (⟨#[]⟩:ByteArray),.i .i64 0,.i .i64 0,.i .i64 0,.lit (.slice none 0 0),.i .i64 0,.i .i64 0]:=by kernel_rfl
theorem QvL : Q7 Tryz.prog 104=some [.s (⟨#[]⟩:ByteArray),.i .i64 0,.lit (.slice none 0 0)]:=by kernel_rfl
theorem QvM : Q7 Tryz.prog 106=some [.s (⟨#[]⟩:ByteArray),.i .i64 0]:=by kernel_rfl
theorem QjN : Q7 Tryz.prog 110=some [.lit (.nilFunc),.i .i64 0]:=by kernel_rfl
theorem QvN : Q7 Tryz.prog 122=some [.i .i64 0,.i .i64 0]:=by kernel_rfl
theorem QvO : Q7 Tryz.prog 146=some [.lit (.nilFunc)]:=by kernel_rfl
theorem QvP : Q7 Tryz.prog 151=some [.lit (.nilFunc)]:=by kernel_rfl
theorem QvQ : Q7 Tryz.prog 182=some [.lit (.slice none 0 0),.lit (.slice none 0 0),.i .i64 0]:=by kernel_rfl
theorem QvR : Q7 Tryz.prog 211=some [.lit (.nilFunc)]:=by kernel_rfl
def tab : Tab:={ ag:=[(3,false),(9,false),(22,false),(23,false),(24,false),(26,true),(27,false),(30,false),(33,false),(59,false),(61,true),(63,true),(68,false),(69,false),(71,true),(72,false),(73,true),(75,true),(79,true),(88,false),(90,true),(100,false),(102,true),(104,true),(106,true),(110,true),(146,false),(151,false),(154,false),(156,false),(182,true),(211,false)],sz:=[(3,1),(26,5),(33,1),(61,2),(63,2),(71,3),(73,3),(75,14),(79,4),(90,2),(102,7),(104,3),(106,2),(110,2),(122,2),(146,1),(151,1),(182,3),(211,1)],fo:=[(26,[0,1,2,3,4]),(71,[0,1,2]),(75,[0,1,2,5,6,7,8,9,10,11]),(79,[0,1]),(90,[0,1]),(102,[0,1,2,3,4,5,6]),(104,[0,1,2]),(106,[0,1]),(110,[0,1]),(122,[0,1]),(182,[0,1,2])],sp:=[(26,[(0,1),(1,1),(2,1),(3,1),(4,1)]),(63,[(0,1),(1,1)]),(71,[(0,1),(1,1),(2,1)]),(75,[(0,1),(1,1),(2,3),(5,1),(6,1),(7,1),(8,1),(9,1),(10,1),(11,3)]),(79,[(0,1),(1,3)]),(90,[(0,1),(1,1)]),(102,[(0,1),(1,1),(2,1),(3,1),(4,1),(5,1),(6,1)]),(104,[(0,1),(1,1),(2,1)]),(110,[(0,1),(1,1)]),(122,[(0,1),(1,1)]),(182,[(0,1),(1,1),(2,1)])],es:=[(22,(102,7,80)),(23,(104,3,48)),(24,(75,14,200)),(27,(3,1,8)),(28,(59,1,24)),(29,(59,1,24)),(36,(27,1,24)),(59,(61,2,16)),(68,(106,2,24)),(69,(71,3,40)),(72,(79,4,48)),(100,(9,1,16)),(140,(110,2,16))],ar:=[(61,(2,1)),(73,(3,1))],zv:=[(3,[.i .i64 0]),(9,[.s (⟨#[]⟩:ByteArray)]),(26,[.lit (.slice none 0 0),.lit (.slice none 0 0),.lit (.slice none 0 0),.i .i64 0,.i .i64 0]),(27,[.lit (.slice none 0 0)]),(33,[.i .i64 0]),(59,[.lit (.slice none 0 0)]),(61,[.i .i64 0,.i .i64 0]),(63,[.i .i64 0,.i .i64 0]),(71,[.i .i64 0,.i .i64 0,.lit (.slice none 0 0)]),(73,[.i .i64 0,.i .i64 0,.i .i64 0]),(75,[.s (⟨#[]⟩:ByteArray),.lit (.slice none 0 0),.i .i64 0,.i .i64 0,.lit (.slice none 0 0),.i .i64 0,.i .i64 0,.lit (.slice none 0 0),.lit (.slice none 0 0),.lit (.slice none 0 0),.i .i64 0,.i .i64 0,.i .i64 0,.i .i64 0]),(79,[.i .i64 0,.i .i64 0,.i .i64 0,.lit (.slice none 0 0)]),(90,[.i .i64 0,.lit (.map none)]),(102,[.s (⟨#[]⟩:ByteArray),.i .i64 0,.i .i64 0,.i .i64 0,.lit (.slice none 0 0),.i .i64 0,.i .i64 0]),(104,[.s (⟨#[]⟩:ByteArray),.i .i64 0,.lit (.slice none 0 0)]),(106,[.s (⟨#[]⟩:ByteArray),.i .i64 0]),(110,[.lit (.nilFunc),.i .i64 0]),(122,[.i .i64 0,.i .i64 0]),(146,[.lit (.nilFunc)]),(151,[.lit (.nilFunc)]),(182,[.lit (.slice none 0 0),.lit (.slice none 0 0),.i .i64 0]),(211,[.lit (.nilFunc)])],sb:=[9],bo:=[4],cc:=[9],en:=[9,10,11,12,13,14,15,16,17,18,19,20,21,22,23,24,30,31,32,33,34,35,36,37,38,39,40,41,42,43,44,45,46,47,48,49,50,51,52,53,57,62,63,64,65,66,67,68,69,70,71,72,73,74,75,76,77,78,79,80,83,84,85,86,87,88,89,90,91,92,102,103,104,105,106,107,108,109,110,111,112,113,114,115,116,117,118,119,120,121,122,123,124,125,126,127,128,129,130,131,132,133,134,135,136,137,138,139,140,141,142,143,144,145,146,147,148,160,161,162,177,178,179,180,181,182,183,184,185,186,187,188,189,190,191,192,193,194,195,196,197,198,199,200,201,202,203,204,205,206,223,224,225,226,227,228,229,230,231,232,241,242,243,244,245] }
theorem Qp : QbA Tryz.prog tab:=Tab.ok (by kernel_rfl) (Qb4.2 ⟨QvJ,Qb4.2 ⟨QwD,Qb4.2 ⟨Qv9,Qb4.2 ⟨Qwa,Qb4.2 ⟨Qwb,Qb4.2 ⟨Qwc,Qb4.2 ⟨Qwd,Qb4.2 ⟨Qwe,Qb4.2 ⟨Qwf,Qb4.2 ⟨Qwg,Qb4.2 ⟨Qwh,Qb4.2 ⟨Qwi,Qb4.2 ⟨Qwj,Qb4.2 ⟨QvK,Qb4.2 ⟨QvL,Qb4.2 ⟨QvM,Qb4.2 ⟨QjN,Qb4.2 ⟨QvN,Qb4.2 ⟨QvO,Qb4.2 ⟨QvP,Qb4.2 ⟨QvQ,Qb4.2 ⟨QvR,fun _ h=>(by cases h)⟩⟩⟩⟩⟩⟩⟩⟩⟩⟩⟩⟩⟩⟩⟩⟩⟩⟩⟩⟩⟩⟩)
theorem Qa {C:Ctx}{Q:Exit→St→Prop}{n:Nat}{pt pt1:Pt}{ks ks1:List Fr}{σ σ1:St}{φ:Prop}(hC:Qc2 Tryz.prog C n)(ds:List Dir)(e:Vm.go Tryz.prog C tab n ds pt ks σ True=some ⟨pt1,ks1,σ1,φ⟩)(hφ:φ)(h:AK Tryz.prog C Q pt1 ks1 σ1):AK Tryz.prog C Q pt ks σ:=AK.go Qp hC ds e hφ h
abbrev QBg := List (Int×Int)
abbrev QMk := List QBg
abbrev QLL := List (List Int)
abbrev QSB := List (ByteArray×Bool)
theorem tt_ : True:=trivial
theorem an_ {a b:Prop}(x:a)(y:b):a∧b:=⟨x,y⟩
theorem ex_ {α:Sort _}{p:α→Prop}(w:α)(h:p w):∃x,p x:=⟨w,h⟩
end Go.Proofs
namespace Go.Vm
open Go Go.RowKit
noncomputable abbrev Dir.K (a b:List Nat):Dir:=.keep a b
noncomputable abbrev Dir.S (a:Nat)(b:V):Dir:=.say a b
noncomputable abbrev Dir.O (a:Nat)(b:Ob):Dir:=.sayO a b
noncomputable abbrev Dir.T:Dir:=.br true
noncomputable abbrev Dir.F:Dir:=.br false
noncomputable abbrev Dw.N:Dw:=.a .no none false
noncomputable abbrev V.I (n:Int):V:=.i .i64 n
end Go.Vm
namespace Go.Proofs
open Go Go.RowKit Go.Vm Go.Proofs.Tryz
theorem bg_ {α:Type}{c:Bool}{x y:Option α}{r:α}{G:Prop}(h:(bif c then x else y)=some r)(f:c=true→x=some r→G)(g:c=false→y=some r→G):G:=by
 cases c
 ·exact g rfl h
 exact f rfl h
theorem cb_ {a b:Bool}(h:a=b):V.b a=V.b b:=congrArg V.b h
theorem tc_ {a b:Bool}(h:a=b):True∧V.b a=V.b b:=⟨trivial,congrArg V.b h⟩
def QvS : Exit→Bool
 | .normal=>true
 | .ret=>true
 | _=>false
theorem d1_ {C:Ctx}{t:Nat}{r:V}{outs:List (Nat×Ob)}{σ:St}{e:Exit}(he:QvS e=true)(h:Go.Vm.look σ.fr t=some r)(hs:QeB σ.hp outs):AK Tryz.prog C (Qsd Tryz.prog [.tmp t] (Qh r outs)) (.x e) [] σ:=by
 cases e<;>first | exact AK.done ⟨[r],⟨h,trivial⟩,Qbf hs⟩|cases he
theorem d2_ {C:Ctx}{t u:Nat}{r s:V}{outs:List (Nat×Ob)}{σ:St}{e:Exit}(he:QvS e=true)(h:Go.Vm.look σ.fr t=some r)(k:Go.Vm.look σ.fr u=some s)(hs:QeB σ.hp outs):AK Tryz.prog C (Qsd Tryz.prog [.tmp t,.tmp u] (Qh (.tup [r,s]) outs)) (.x e) [] σ:=by
 cases e<;>first | exact AK.done ⟨[r,s],⟨h,k,trivial⟩,Qbf hs⟩|cases he
theorem tg_ {C:Ctx}{Q:Exit→St→Prop}{n:Nat}{pt pt1:Pt}{ks ks1:List Fr}{σ σ1:St}(hC:Qc2 Tryz.prog C n)(ds:List Dir)(e:Vm.go Tryz.prog C tab n ds pt ks σ True=some ⟨pt1,ks1,σ1,True⟩)(h:AK Tryz.prog C Q pt1 ks1 σ1):AK Tryz.prog C Q pt ks σ:=AK.go Qp hC ds e trivial h
theorem QaO {c:Bool}{β:Type}{f:Unit→Option β}{r:β}(h:(chk c).bind f=some r):c=true∧f ()=some r:=by
 obtain⟨_,k,h⟩:=Qd h
 exact⟨Qtj k,h⟩
abbrev QwE (a0 a1 a2 a3:V):List V:=[.J,.J,.J,.J,a0,a1,a2,.J,.J,.J,.J,.J,.J,a3,.J,.J,.J,.J,.J,.J,.J,.J,.J,.J,.J,.J,.J,.J,.J,.J,.J,.J,.J,.J,.J]
abbrev QeS (a0 a1 a2:V):List V:=[.J,.J,.J,.J,a0,a1,a2,.J,.J,.J,.J,.J,.J,.J,.J,.J,.J,.J,.J,.J,.J,.J,.J,.J,.J,.J,.J,.J,.J,.J,.J,.J,.J,.J,.J]
def QjG  : Option Qm:=
 some (Qm.mk ([(QD.mk (⟨#[110]⟩:ByteArray) 2 0 0 ([(⟨#[107]⟩:ByteArray)]:List ByteArray) 0 0)]:List QD) ([(QB.mk (⟨#[97]⟩:ByteArray) 0 ([]:QBg)),(QB.mk (⟨#[98]⟩:ByteArray) 0 ([]:QBg)),(QB.mk (⟨#[99]⟩:ByteArray) 0 ([]:QBg))]:List QB) ([(Qu.mk (⟨#[116]⟩:ByteArray) ([]:(List Q6)) (Qj.mk 1 1 ([]:(List Qj))) 1 1 ([(QM.mk 0 (Qj.mk 1 0 ([]:(List Qj))))]:List QM) ([(QM.mk 1 (Qj.mk 1 0 ([]:(List Qj))))]:List QM) ([]:(List Int)) 0 (0,0,0)),(Qu.mk (⟨#[117]⟩:ByteArray) ([]:(List Q6)) (Qj.mk 1 1 ([]:(List Qj))) 1 1 ([(QM.mk 1 (Qj.mk 1 0 ([]:(List Qj))))]:List QM) ([(QM.mk 0 (Qj.mk 1 0 ([]:(List Qj))))]:List QM) ([2]:List Int) 0 (0,0,0))]:List Qu) 0 1)
theorem Qrl  {r:Qm}(h:QjG  = some r):Qc prog 31 [] [] (Qh (.agg (Qe r)) []):=by
 refine Qc.walk 31 func31 rfl rfl rfl fun C hC=>?_
 refine Qa hC [.n 7,.v .no [none,none,some 3] (.agg (Qo (Qj.mk 1 0 ([]:(List Qj))))),.n 2,.O 1 (.var (Qo (Qj.mk 1 0 ([]:(List Qj))))),.n 4,.v .no [none,none,some 3] (.agg (Qo (Qj.mk 1 1 ([]:(List Qj))))),.n 2,.O 2 (.var (Qo (Qj.mk 1 1 ([]:(List Qj))))),.n 4,.v (.bd []) [] (.sl 1 (([(⟨#[107]⟩:ByteArray)]:List ByteArray).map Qb7)),.v .no [] (.agg (Qv (QD.mk (⟨#[110]⟩:ByteArray) 2 0 0 ([(⟨#[107]⟩:ByteArray)]:List ByteArray) 0 0))),.v (.bd []) [] (.sl 7 (([(QD.mk (⟨#[110]⟩:ByteArray) 2 0 0 ([(⟨#[107]⟩:ByteArray)]:List ByteArray) 0 0)]:List QD).map Qv)),.v .no [none,none,some 2] (.agg (Qq (QB.mk (⟨#[97]⟩:ByteArray) 0 ([]:QBg)))),.v .no [none,none,some 2] (.agg (Qq (QB.mk (⟨#[98]⟩:ByteArray) 0 ([]:QBg)))),.v .no [none,none,some 2] (.agg (Qq (QB.mk (⟨#[99]⟩:ByteArray) 0 ([]:QBg)))),.v (.bd []) [] (.sl 3 (([(QB.mk (⟨#[97]⟩:ByteArray) 0 ([]:QBg)),(QB.mk (⟨#[98]⟩:ByteArray) 0 ([]:QBg)),(QB.mk (⟨#[99]⟩:ByteArray) 0 ([]:QBg))]:List QB).map Qq)),.v .no [] (.agg (Qo (Qj.mk 1 1 ([]:(List Qj))))),.v .no [] (.agg (Qo (Qj.mk 1 0 ([]:(List Qj))))),.v .no [] (.agg (QP (QM.mk 0 (Qj.mk 1 0 ([]:(List Qj)))))),.v (.bd []) [] (.sl 4 (([(QM.mk 0 (Qj.mk 1 0 ([]:(List Qj))))]:List QM).map QP)),.v .no [] (.agg (Qo (Qj.mk 1 0 ([]:(List Qj))))),.v .no [] (.agg (QP (QM.mk 1 (Qj.mk 1 0 ([]:(List Qj)))))),.v (.bd []) [] (.sl 4 (([(QM.mk 1 (Qj.mk 1 0 ([]:(List Qj))))]:List QM).map QP)),.v .no [none,some 2,none,none,none,none,none,none,none,some 1,none,none,none,none] (.agg (Qf (Qu.mk (⟨#[116]⟩:ByteArray) ([]:(List Q6)) (Qj.mk 1 1 ([]:(List Qj))) 1 1 ([(QM.mk 0 (Qj.mk 1 0 ([]:(List Qj))))]:List QM) ([(QM.mk 1 (Qj.mk 1 0 ([]:(List Qj))))]:List QM) ([]:(List Int)) 0 (0,0,0)))),.v .no [] (.agg (Qo (Qj.mk 1 1 ([]:(List Qj))))),.v .no [] (.agg (Qo (Qj.mk 1 0 ([]:(List Qj))))),.v .no [] (.agg (QP (QM.mk 1 (Qj.mk 1 0 ([]:(List Qj)))))),.v (.bd []) [] (.sl 4 (([(QM.mk 1 (Qj.mk 1 0 ([]:(List Qj))))]:List QM).map QP)),.v .no [] (.agg (Qo (Qj.mk 1 0 ([]:(List Qj))))),.v .no [] (.agg (QP (QM.mk 0 (Qj.mk 1 0 ([]:(List Qj)))))),.v (.bd []) [] (.sl 4 (([(QM.mk 0 (Qj.mk 1 0 ([]:(List Qj))))]:List QM).map QP)),.v (.bd []) [] (.sl 1 (([2]:List Int).map Qb)),.v .no [none,some 2,none,none,none,none,none,none,none,none,none,none,none,none] (.agg (Qf (Qu.mk (⟨#[117]⟩:ByteArray) ([]:(List Q6)) (Qj.mk 1 1 ([]:(List Qj))) 1 1 ([(QM.mk 1 (Qj.mk 1 0 ([]:(List Qj))))]:List QM) ([(QM.mk 0 (Qj.mk 1 0 ([]:(List Qj))))]:List QM) ([2]:List Int) 0 (0,0,0)))),.v (.bd []) [] (.sl 14 (([(Qu.mk (⟨#[116]⟩:ByteArray) ([]:(List Q6)) (Qj.mk 1 1 ([]:(List Qj))) 1 1 ([(QM.mk 0 (Qj.mk 1 0 ([]:(List Qj))))]:List QM) ([(QM.mk 1 (Qj.mk 1 0 ([]:(List Qj))))]:List QM) ([]:(List Int)) 0 (0,0,0)),(Qu.mk (⟨#[117]⟩:ByteArray) ([]:(List Q6)) (Qj.mk 1 1 ([]:(List Qj))) 1 1 ([(QM.mk 1 (Qj.mk 1 0 ([]:(List Qj))))]:List QM) ([(QM.mk 0 (Qj.mk 1 0 ([]:(List Qj))))]:List QM) ([2]:List Int) 0 (0,0,0))]:List Qu).map Qf)),.v .no [] (.agg (Qe (Qm.mk ([(QD.mk (⟨#[110]⟩:ByteArray) 2 0 0 ([(⟨#[107]⟩:ByteArray)]:List ByteArray) 0 0)]:List QD) ([(QB.mk (⟨#[97]⟩:ByteArray) 0 ([]:QBg)),(QB.mk (⟨#[98]⟩:ByteArray) 0 ([]:QBg)),(QB.mk (⟨#[99]⟩:ByteArray) 0 ([]:QBg))]:List QB) ([(Qu.mk (⟨#[116]⟩:ByteArray) ([]:(List Q6)) (Qj.mk 1 1 ([]:(List Qj))) 1 1 ([(QM.mk 0 (Qj.mk 1 0 ([]:(List Qj))))]:List QM) ([(QM.mk 1 (Qj.mk 1 0 ([]:(List Qj))))]:List QM) ([]:(List Int)) 0 (0,0,0)),(Qu.mk (⟨#[117]⟩:ByteArray) ([]:(List Q6)) (Qj.mk 1 1 ([]:(List Qj))) 1 1 ([(QM.mk 1 (Qj.mk 1 0 ([]:(List Qj))))]:List QM) ([(QM.mk 0 (Qj.mk 1 0 ([]:(List Qj))))]:List QM) ([2]:List Int) 0 (0,0,0))]:List Qu) 0 1))),.n 1,.O 0 (.var (Qe (Qm.mk ([(QD.mk (⟨#[110]⟩:ByteArray) 2 0 0 ([(⟨#[107]⟩:ByteArray)]:List ByteArray) 0 0)]:List QD) ([(QB.mk (⟨#[97]⟩:ByteArray) 0 ([]:QBg)),(QB.mk (⟨#[98]⟩:ByteArray) 0 ([]:QBg)),(QB.mk (⟨#[99]⟩:ByteArray) 0 ([]:QBg))]:List QB) ([(Qu.mk (⟨#[116]⟩:ByteArray) ([]:(List Q6)) (Qj.mk 1 1 ([]:(List Qj))) 1 1 ([(QM.mk 0 (Qj.mk 1 0 ([]:(List Qj))))]:List QM) ([(QM.mk 1 (Qj.mk 1 0 ([]:(List Qj))))]:List QM) ([]:(List Int)) 0 (0,0,0)),(Qu.mk (⟨#[117]⟩:ByteArray) ([]:(List Q6)) (Qj.mk 1 1 ([]:(List Qj))) 1 1 ([(QM.mk 1 (Qj.mk 1 0 ([]:(List Qj))))]:List QM) ([(QM.mk 0 (Qj.mk 1 0 ([]:(List Qj))))]:List QM) ([2]:List Int) 0 (0,0,0))]:List Qu) 0 1))),.n 3,.K [0] [0]] rfl ⟨⟨⟨⟨⟨⟨⟨⟨⟨⟨⟨⟨⟨⟨⟨⟨⟨⟨⟨⟨⟨⟨⟨⟨⟨⟨⟨⟨⟨⟨⟨tt_,rfl⟩,rfl⟩,rfl⟩,rfl⟩,rfl⟩,rfl⟩,rfl⟩,rfl⟩,rfl⟩,rfl⟩,rfl⟩,rfl⟩,rfl⟩,rfl⟩,rfl⟩,rfl⟩,rfl⟩,rfl⟩,rfl⟩,rfl⟩,rfl⟩,rfl⟩,rfl⟩,rfl⟩,rfl⟩,rfl⟩,rfl⟩,rfl⟩,rfl⟩,rfl⟩,rfl⟩ ?_
 cases h
 exact AK.done (ex_ [_] (an_ (an_ (ex_ _ (ex_ _ (an_ rfl (an_ rfl (Or.inl (an_ (Qp.ag rfl) (an_ (Qp.sz rfl) rfl))))))) tt_) (Qbf tt_)))
def QcY (a:QLL):Option QLL:=
 some a
def Qj5 (b:Int)(a:Int)(c:(List Int)):Option ((Int×(List Int))⊕(List Int)):=
 bif (decide (a<b))then
 (chk (decide (c.length+([a]:List Int).length≤4294967296))).bind fun _=>
 some (.inl ((w64 (a+1)),(c++([a]:List Int))))
 else
 some (.inr c)
def Qj6 (a:(List Int)):Option QLL:=
 some ([a]:List (List Int))
def Qj7 (b:Int)(a:Int)(c:QLL):Option ((Int×QLL)⊕QLL):=
 bif (decide (a<b))then
 (chk (decide (c.length+([([a]:List Int)]:List (List Int)).length≤4294967296))).bind fun _=>
 some (.inl ((w64 (a+1)),(c++([([a]:List Int)]:List (List Int)))))
 else
 some (.inr c)
def QhN (a:QLL):Option QLL:=
 QcY a
def QhO (a:Int)(b:(List Int)):Option ((Int×(List Int))⊕(List Int)):=
 some (.inl ((w64 (a+1)),b))
def Qj8 (c:Int)(set_33:Int)(a:Int)(b:(List Int)):Option ((Int×(List Int))⊕(List Int)):=
 bif (decide (a<c))then
 (chk (decide (0≤a))).bind fun _=>
 bif ((QbI .i64 (Qb0 .i64 set_33 a) 1)==1)then
 (chk (decide (b.length+([a]:List Int).length≤4294967296))).bind fun _=>
 QhO a (b++([a]:List Int))
 else
 QhO a b
 else
 some (.inr b)
def Qj9 (a:QLL)(set_33:Int)(b:(List Int)):Option ((Int×QLL)⊕QLL):=
 (chk (decide (a.length+([b]:List (List Int)).length≤4294967296))).bind fun _=>
 some (.inl ((w64 (set_33+1)),(a++([b]:List (List Int)))))
def Qka (a:Int)(set_33:Int)(b:QLL):Option ((Int×QLL)⊕QLL):=
 (chk (decide (0≤a))).bind fun _=>
 bif (decide (set_33<(QtF .i64 1 a)))then
 (Qw (fun st=>Qj8 a set_33 st.1 st.2) (0,([]:List Int))).bind (fun q=>Qj9 b set_33 q)
 else
 some (.inr b)
def QgO (a:QLL):Option QLL:=
 QcY a
def Qcn (b:Int)(a:Int):Option QLL:=
 bif ((decide (a<0))||((decide (16<a))||((b==3)&&(decide (4<a)))))then
 some ([]:List (List Int))
 else
 bif (b==1)then
 (Qw (fun st=>Qj5 a st.1 st.2) (0,([]:List Int))).bind (fun q=>Qj6 q)
 else
 bif (b==2)then
 (Qw (fun st=>Qj7 a st.1 st.2) (0,([]:List (List Int)))).bind (fun q=>QhN q)
 else
 bif (b==3)then
 (Qw (fun st=>Qka a st.1 st.2) (1,([]:List (List Int)))).bind (fun q=>QgO q)
 else
 QcY ([]:List (List Int))
theorem Qkb (c a){r}(h:Qcn c a=some r):Qc prog 38 [.I c,.I a] [] (Qh (.own 600 r.length) [(600,.arr 1 (r.map Qk))]):=by
 refine Qc.walk 79 func38 rfl rfl rfl fun C hC=>?_
 unfold Qcn at h
 refine tg_ hC [.n 7] rfl ?_
 refine AK.meetX (fun σ=>σ=⟨[(0,.I c),(1,.I a),(25,.b ((decide (a<0))||((decide (16<a))||((c==3)&&(decide (4<a))))))],[]⟩) ?_ ?_
 ·refine tg_ hC [.n 4] rfl ?_
  rcases QQ (decide (a<0))with f | f
  ·refine Qa hC [.S 14 (.b true),.n 12,.S 25 (.b ((decide (a<0))||((decide (16<a))||((c==3)&&(decide (4<a)))))),.K [0,1,25] []] rfl ⟨(tc_ f),(congrArg V.b (orT f rfl))⟩ ?_
   exact AK.met rfl
  refine Qa hC [.S 14 (.b false),.n 4] rfl (tc_ f) ?_
  rcases QQ (decide (16<a))with i | i
  ·refine Qa hC [.S 18 (.b true),.n 8,.S 25 (.b ((decide (a<0))||((decide (16<a))||((c==3)&&(decide (4<a)))))),.K [0,1,25] []] rfl ⟨(tc_ i),(congrArg V.b (orF f (orT i rfl)))⟩ ?_
   exact AK.met rfl
  refine Qa hC [.S 18 (.b false),.n 3] rfl (tc_ i) ?_
  rcases QQ (c==3)with j | j
  ·refine Qa hC [.S 21 (.b true),.n 5,.S 25 (.b ((decide (a<0))||((decide (16<a))||((c==3)&&(decide (4<a)))))),.K [0,1,25] []] rfl ⟨(tc_ j),(congrArg V.b (orF f (orF i (Qbh j rfl))))⟩ ?_
   exact AK.met rfl
  refine Qa hC [.S 21 (.b false),.n 5,.S 25 (.b ((decide (a<0))||((decide (16<a))||((c==3)&&(decide (4<a)))))),.K [0,1,25] []] rfl ⟨(tc_ j),(congrArg V.b (orF f (orF i (Qdf j rfl))))⟩ ?_
  exact AK.met rfl
 rintro σ rfl
 refine tg_ hC [.n 1] rfl ?_
 refine bg_ h (fun E h=>Qa hC [.T,.n 7,.adopt 4 600 1,.O 600 (.arr 1 (([]:List (List Int)).map Qk)),.S 4 (.own 600 ([]:List (List Int)).length),.K [4] [600]] rfl ⟨⟨⟨tt_,E⟩,rfl⟩,rfl⟩ ?_) fun E h=>Qa hC [.F,.n 7] rfl ⟨tt_,E⟩ ?_
 ·cases h
  exact d1_ rfl rfl ⟨rfl,tt_⟩
 refine AK.meet (fun σ=>∃y:QLL,σ=⟨[(5,.own 602 y.length)],[(602,.arr 1 (y.map Qk))]⟩∧QcY y=some r) ?_ ?_
 ·refine tg_ hC [.n 12] rfl ?_
  refine bg_ h (fun k h=>Qa hC [.T,.n 13,.adopt 6 33 1,.O 33 (.arr 1 (([]:List Int).map Qb)),.S 6 (.own 33 ([]:List Int).length),.K [6,29,30] [33]] rfl ⟨⟨⟨tt_,k⟩,rfl⟩,(congrArg (fun n=>V.own 33 n) (by simp))⟩ ?_) fun k h=>Qa hC [.F,.n 6] rfl ⟨tt_,k⟩ ?_
  ·obtain⟨z,H,h⟩:=Qd h
   refine AK.loop (body:=(fun st=>Qj5 a st.1 st.2)) (fun st σ=>σ=⟨[(6,.own 33 st.2.length),(29,.I a),(30,.I st.1)],[(33,.arr 1 (st.2.map Qb))]⟩) (fun q e σ=>e=.exit 1∧σ=⟨[(6,.own 33 q.length)],[(33,.arr 1 (q.map Qb))]⟩) H rfl ?_ ?_
   ·rintro ⟨G,J⟩ o σ rfl h
    refine tg_ hC [.n 6] rfl ?_
    rcases Qs h with⟨l,h⟩|⟨l,h⟩
    ·obtain⟨L,h⟩:=QaO h
     refine Qa hC [.T,.n 13,.v (.bd []) [] (.sl 1 (([G]:List Int).map Qb)),.app ((J++([G]:List Int)).map Qb) (J++([G]:List Int)).length,.n 8,.K [6,29,30] [33]] rfl ⟨⟨⟨tt_,l⟩,rfl⟩,⟨Qi,QhW L Qi,QfU,QjE Qi⟩⟩ ?_
     cases h
     exact QU rfl rfl
    refine Qa hC [.F,.n 2,.K [6] [33]] rfl ⟨tt_,l⟩ ?_
    cases h
    exact QV rfl (an_ rfl rfl)
   replace h:Qj6 z=some r:=h
   rintro e σ ⟨rfl,rfl⟩
   refine Qa hC [.n 5,.frz 33 (z.map Qb) [6,38] [],.n 1,.O 39 (.arr 1 (([z]:List (List Int)).map Qk)),.S 39 (.own 39 ([z]:List (List Int)).length),.n 6,.K [4] [39],.ren 39 600] rfl ⟨⟨⟨tt_,⟨⟨tt_,(QeQ Qi)⟩,(QeQ Qi)⟩⟩,rfl⟩,rfl⟩ ?_
   cases h
   exact d1_ rfl rfl ⟨rfl,tt_⟩
  refine bg_ h (fun m h=>Qa hC [.T,.n 7,.adopt 5 46 1,.O 46 (.arr 1 (([]:List (List Int)).map Qk)),.S 5 (.own 46 ([]:List (List Int)).length),.K [5,42,43] [46]] rfl ⟨⟨⟨tt_,m⟩,rfl⟩,(congrArg (fun n=>V.own 46 n) (by simp))⟩ ?_) fun m h=>Qa hC [.F,.n 6] rfl ⟨tt_,m⟩ ?_
  ·obtain⟨a2,M,h⟩:=Qd h
   refine AK.loop (body:=(fun st=>Qj7 a st.1 st.2)) (fun st σ=>σ=⟨[(5,.own 46 st.2.length),(42,.I a),(43,.I st.1)],[(46,.arr 1 (st.2.map Qk))]⟩) (fun q e σ=>e=.exit 3∧σ=⟨[(5,.own 46 q.length)],[(46,.arr 1 (q.map Qk))]⟩) M rfl ?_ ?_
   ·rintro ⟨A,N⟩ o σ rfl h
    refine tg_ hC [.n 6] rfl ?_
    rcases Qs h with⟨p,h⟩|⟨p,h⟩
    ·obtain⟨P,h⟩:=QaO h
     refine Qa hC [.T,.n 13,.v (.bd []) [] (.sl 1 (([A]:List Int).map Qb)),.v (.bd []) [] (.sl 1 (([([A]:List Int)]:List (List Int)).map Qk)),.app ((N++([([A]:List Int)]:List (List Int))).map Qk) (N++([([A]:List Int)]:List (List Int))).length,.n 8,.K [5,42,43] [46]] rfl ⟨⟨⟨⟨tt_,p⟩,rfl⟩,rfl⟩,⟨Qi,QhW P Qi,QfU,QjE Qi⟩⟩ ?_
     cases h
     exact QU rfl rfl
    refine Qa hC [.F,.n 2,.K [5] [46]] rfl ⟨tt_,p⟩ ?_
    cases h
    exact QV rfl (an_ rfl rfl)
   replace h:QhN a2=some r:=h
   unfold QhN at h
   rintro e σ ⟨rfl,rfl⟩
   refine tg_ hC [.n 2,.ren 46 602,.K [5] [602]] rfl ?_
   exact AK.met (ex_ _ (an_ rfl h))
  refine bg_ h (fun s h=>Qa hC [.T,.n 6,.adopt 5 74 1,.O 74 (.arr 1 (([]:List (List Int)).map Qk)),.S 5 (.own 74 ([]:List (List Int)).length),.K [1,5,9] [74]] rfl ⟨⟨⟨tt_,s⟩,rfl⟩,(congrArg (fun n=>V.own 74 n) (by simp))⟩ ?_) fun s h=>Qa hC [.F,.n 2,.adopt 5 602 1,.O 602 (.arr 1 (([]:List (List Int)).map Qk)),.S 5 (.own 602 ([]:List (List Int)).length),.K [5] [602]] rfl ⟨⟨⟨tt_,s⟩,rfl⟩,(congrArg (fun n=>V.own 602 n) (by simp))⟩ ?_
  ·obtain⟨a3,U,h⟩:=Qd h
   refine AK.loop (body:=(fun st=>Qka a st.1 st.2)) (fun st σ=>σ=⟨[(1,.I a),(5,.own 74 st.2.length),(9,.I st.1)],[(74,.arr 1 (st.2.map Qk))]⟩) (fun q e σ=>e=.exit 5∧σ=⟨[(5,.own 74 q.length)],[(74,.arr 1 (q.map Qk))]⟩) U rfl ?_ ?_
   ·rintro ⟨set_33,d⟩ o σ rfl h
    obtain⟨W,h⟩:=QaO h
    refine Qa hC [.n 5,.o (.any (.I (QtF .i64 1 a)) none),.n 3] rfl ⟨tt_,(fun σ D h2 _=>Stp.shl rfl rfl (Qz hC.n rfl) (D _ _ rfl) (D _ _ rfl) (Qab W))⟩ ?_
    refine bg_ h (fun t h=>Qa hC [.T,.n 17,.adopt 10 69 1,.O 69 (.arr 1 (([]:List Int).map Qb)),.S 10 (.own 69 ([]:List Int).length),.K [1,5,9,10,60,61] [69,74]] rfl ⟨⟨⟨tt_,t⟩,rfl⟩,(congrArg (fun n=>V.own 69 n) (by simp))⟩ ?_) fun t h=>Qa hC [.F,.n 2,.K [5] [74]] rfl ⟨tt_,t⟩ ?_
    ·obtain⟨u,X,h⟩:=Qd h
     refine AK.loop (body:=(fun st=>Qj8 a set_33 st.1 st.2)) (fun st σ=>σ=⟨[(1,.I a),(5,.own 74 d.length),(9,.I set_33),(10,.own 69 st.2.length),(60,.I a),(61,.I st.1)],[(69,.arr 1 (st.2.map Qb)),(74,.arr 1 (d.map Qk))]⟩) (fun q e σ=>e=.exit 7∧σ=⟨[(1,.I a),(5,.own 74 d.length),(9,.I set_33),(10,.own 69 q.length)],[(69,.arr 1 (q.map Qb)),(74,.arr 1 (d.map Qk))]⟩) X rfl ?_ ?_
     ·rintro ⟨g,Y⟩ o σ rfl h
      refine tg_ hC [.n 6] rfl ?_
      refine bg_ h (fun w h=>Qa hC [.T,.n 2] rfl ⟨tt_,w⟩ ?_) fun w h=>Qa hC [.F,.n 2,.K [1,5,9,10] [69,74]] rfl ⟨tt_,w⟩ ?_
      ·refine AK.meet (fun σ=>∃B:(List Int),σ=⟨[(1,.I a),(5,.own 74 d.length),(9,.I set_33),(10,.own 69 B.length),(60,.I a),(61,.I g)],[(69,.arr 1 (B.map Qb)),(74,.arr 1 (d.map Qk))]⟩∧QhO g B=some o) ?_ ?_
       ·obtain⟨Z,h⟩:=QaO h
        refine Qa hC [.n 11,.o (.any (.I (Qb0 .i64 set_33 g)) none),.o (.any (.I (QbI .i64 (Qb0 .i64 set_33 g) 1)) none),.n 3] rfl ⟨⟨tt_,(fun σ D h2 _=>Stp.shr rfl rfl (Qz hC.n rfl) (D _ _ rfl) (D _ _ rfl) (Qab Z))⟩,(fun σ D h2 _=>Stp.andB rfl rfl (Qz hC.n rfl) (D _ _ rfl) (D _ _ rfl))⟩ ?_
        rcases Qs h with⟨x,h⟩|⟨x,h⟩
        ·obtain⟨a0,h⟩:=QaO h
         refine Qa hC [.T,.n 3,.v (.bd []) [] (.sl 1 (([g]:List Int).map Qb)),.app ((Y++([g]:List Int)).map Qb) (Y++([g]:List Int)).length,.n 3,.K [1,5,9,10,60,61] [69,74]] rfl ⟨⟨⟨tt_,x⟩,rfl⟩,⟨Qi,QhW a0 Qi,QfU,QjE Qi⟩⟩ ?_
         exact AK.met (ex_ _ (an_ rfl h))
        refine Qa hC [.F,.n 2,.K [1,5,9,10,60,61] [69,74]] rfl ⟨tt_,x⟩ ?_
        exact AK.met (ex_ _ (an_ rfl h))
       rintro σ ⟨B,rfl,h⟩
       refine tg_ hC [.n 4,.K [1,5,9,10,60,61] [69,74]] rfl ?_
       cases h
       exact QU rfl rfl
      cases h
      exact QV rfl (an_ rfl rfl)
     replace h:Qj9 d set_33 u=some o:=h
     rintro e σ ⟨rfl,rfl⟩
     obtain⟨a1,h⟩:=QaO h
     refine Qa hC [.n 5,.frz 69 (u.map Qb) [10,75] [],.v (.bd []) [] (.sl 1 (([u]:List (List Int)).map Qk)),.app ((d++([u]:List (List Int))).map Qk) (d++([u]:List (List Int))).length,.n 9,.K [1,5,9] [74]] rfl ⟨⟨⟨tt_,⟨⟨tt_,(QeQ Qi)⟩,(QeQ Qi)⟩⟩,rfl⟩,⟨Qi,QhW a1 Qi,QfU,QjE Qi⟩⟩ ?_
     cases h
     exact QU rfl rfl
    cases h
    exact QV rfl (an_ rfl rfl)
   replace h:QgO a3=some r:=h
   unfold QgO at h
   rintro e σ ⟨rfl,rfl⟩
   refine tg_ hC [.n 2,.ren 74 602,.K [5] [602]] rfl ?_
   exact AK.met (ex_ _ (an_ rfl h))
  exact AK.met (ex_ _ (an_ rfl h))
 rintro σ ⟨y,rfl,h⟩
 refine tg_ hC [.n 7,.K [4] [602],.ren 602 600] rfl ?_
 cases h
 exact d1_ rfl rfl ⟨rfl,tt_⟩
def QeT (b:(List Int))(a:Int)(c:Int):Option (List Int):=
 bif ((decide (0≤a))&&(decide (a<(b.length:Int))))then
 (idx b a).bind fun d=>
 (idx b a).bind fun e=>
 some (b.set a.toNat (w64 (d+c)))
 else
 some b
theorem Qkc (d a i){r}(h:QeT d a i=some r):Qc prog 39 [.own 609 d.length,.I a,.I i] [(609,.arr 1 (d.map Qb))] (Qh (.tup []) [(609,.arr 1 (r.map Qb))]):=by
 refine Qc.walk 21 func39 rfl rfl rfl fun C hC=>?_
 refine tg_ hC [.n 1] rfl ?_
 refine AK.meetX (fun σ=>σ=⟨[(0,.own 609 d.length),(1,.I a),(2,.I i),(13,.b ((decide (0≤a))&&(decide (a<(d.length:Int)))))],[(609,.arr 1 (d.map Qb))]⟩) ?_ ?_
 ·refine tg_ hC [.n 4] rfl ?_
  rcases QQ (decide (0≤a))with c | c
  ·refine Qa hC [.S 8 (.b true),.n 6,.S 13 (.b ((decide (0≤a))&&(decide (a<(d.length:Int))))),.K [0,1,2,13] [609]] rfl ⟨(tc_ c),(congrArg V.b (Qbh c rfl))⟩ ?_
   exact AK.met rfl
  refine Qa hC [.S 8 (.b false),.n 6,.S 13 (.b ((decide (0≤a))&&(decide (a<(d.length:Int))))),.K [0,1,2,13] [609]] rfl ⟨(tc_ c),(congrArg V.b (Qdf c rfl))⟩ ?_
  exact AK.met rfl
 rintro σ rfl
 refine tg_ hC [.n 1] rfl ?_
 rcases Qs h with⟨f,h⟩|⟨f,h⟩
 ·obtain⟨k,g,h⟩:=Qd h
  obtain⟨j,e,h⟩:=Qd h
  refine Qa hC [.T,.n 4,.o (.row (Qb k)),.n 3,.st (Qb j) ((d.set a.toNat (w64 (k+i))).map Qb),.n 1,.K [] [609]] rfl ⟨⟨⟨⟨⟨tt_,f⟩,(Qd5 g rfl)⟩,(Qcg (Qek g).2)⟩,(Qd5 e rfl)⟩,⟨(Qcg (Qek e).2),QgF rfl⟩⟩ ?_
  cases h
  refine AK.done ?_
  exact ex_ [] (an_ tt_ (Qbf ⟨rfl,tt_⟩))
 refine Qa hC [.F,.n 1,.K [] [609]] rfl ⟨tt_,f⟩ ?_
 cases h
 refine AK.done ?_
 exact ex_ [] (an_ tt_ (Qbf ⟨rfl,tt_⟩))
def QcF (c:(List Int))(e:Qu)(a:Int)(b:(List Int)):Option ((Int×(List Int))⊕(List Int)):=
 bif (decide (a<(c.length:Int)))then
 (idx c a).bind fun f=>
 (idx e.Ins f).bind fun g=>
 (QeT b g.Place (-1)).bind fun d=>
 (chk (decide (d.length=b.length))).bind fun _=>
 some (.inl ((w64 (a+1)),d))
 else
 some (.inr b)
def QcG (c:(List Int))(e:Qu)(a:Int)(b:(List Int)):Option ((Int×(List Int))⊕(List Int)):=
 bif (decide (a<(c.length:Int)))then
 (idx c a).bind fun f=>
 (idx e.Outs f).bind fun g=>
 (QeT b g.Place 1).bind fun d=>
 (chk (decide (d.length=b.length))).bind fun _=>
 some (.inl ((w64 (a+1)),d))
 else
 some (.inr b)
def Qd6 (a:QLL)(c:Int)(b:(List Int)):Option ((Int×QLL)⊕QLL):=
 (chk (decide (a.length+([b]:List (List Int)).length≤4294967296))).bind fun _=>
 some (.inl ((w64 (c+1)),(a++([b]:List (List Int)))))
def Qd7 (a:(List Int))(b:Qu)(c:QLL)(d:Int)(e:(List Int)):Option ((Int×QLL)⊕QLL):=
 (Qw (fun st=>QcG a b st.1 st.2) (0,e)).bind (fun q=>Qd6 c d q)
def QcH (b:QLL)(c:Qm)(f:(List Int))(d:Qu)(a:Int)(e:QLL):Option ((Int×QLL)⊕QLL):=
 bif (decide (a<(b.length:Int)))then
 (idx b a).bind fun g=>
 (chk (decide (0≤(c.Places.length:Int))&&decide ((c.Places.length:Int)≤(c.Places.length:Int))&&decide ((c.Places.length:Int)≤4294967296))).bind fun _=>
 (Qw (fun st=>QcF f d st.1 st.2) (0,(List.replicate (c.Places.length:Int).toNat (0:Int)))).bind (fun q=>Qd7 g d e a q)
 else
 some (.inr e)
def Qd8 (a:Int)(b:QLL):Option ((Int×QLL)⊕QLL):=
 some (.inl ((w64 (a+1)),b))
def QcI (c:QLL)(a:Qu)(g:Qm)(b:Int)(d:QLL):Option ((Int×QLL)⊕QLL):=
 bif (decide (b<(c.length:Int)))then
 (idx c b).bind fun e=>
 (Qcn a.Split (a.Outs.length:Int)).bind fun f=>
 (Qw (fun st=>QcH f g e a st.1 st.2) (0,d)).bind (fun q=>Qd8 b q)
 else
 some (.inr d)
def Qd9 (b:Int)(a:QLL):Option ((Int×QLL)⊕QLL):=
 some (.inl ((w64 (b+1)),a))
def Qea (b:Qm)(c:Int)(e:QLL):Option ((Int×QLL)⊕QLL):=
 bif (decide (c<(b.Tasks.length:Int)))then
 (idx b.Tasks c).bind fun a=>
 (Qcn a.Join (a.Ins.length:Int)).bind fun d=>
 (Qw (fun st=>QcI d a b st.1 st.2) (0,e)).bind (fun q=>Qd9 c q)
 else
 some (.inr e)
def Qji (a:QLL):Option QLL:=
 some a
def QbN (a:Qm):Option QLL:=
 (Qw (fun st=>Qea a st.1 st.2) (0,([]:List (List Int)))).bind (fun q=>Qji q)
theorem QgP (c){r}(h:QbN c=some r):Qc prog 15 [.agg (Qe c)] [] (Qh (.own 600 r.length) [(600,.arr 1 (r.map Qk))]):=by
 refine Qc.walk 86 func15 rfl rfl rfl fun C hC=>?_
 refine Qa hC [.n 16,.o (.ln c.Tasks.length),.n 4,.adopt 3 78 1,.O 78 (.arr 1 (([]:List (List Int)).map Qk)),.S 3 (.own 78 ([]:List (List Int)).length),.K [1,3,16,17,18] [1,78]] rfl ⟨⟨⟨tt_,Qi⟩,rfl⟩,(congrArg (fun n=>V.own 78 n) (by simp))⟩ ?_
 obtain⟨l8,G,h⟩:=Qd h
 refine AK.loop (body:=(fun st=>Qea c st.1 st.2)) (fun st σ=>σ=⟨[(1,.loc 1 0 0),(3,.own 78 st.2.length),(16,.sl 14 (c.Tasks.map Qf)),(17,.I (c.Tasks.length:Int)),(18,.I st.1)],[(1,.var (Qe c)),(78,.arr 1 (st.2.map Qk))]⟩) (fun q e σ=>e=.exit 0∧σ=⟨[(3,.own 78 q.length)],[(78,.arr 1 (q.map Qk))]⟩) G rfl ?_ ?_
 ·rintro ⟨w,l5⟩ o σ rfl h
  refine tg_ hC [.n 6] rfl ?_
  rcases Qs h with⟨B,h⟩|⟨B,h⟩
  ·obtain⟨f,H,h⟩:=Qd h
   obtain⟨a,J,h⟩:=Qd h
   refine Qa hC [.T,.n 6,.o (.row (Qf f)),.v .no [] (.agg (Qf f)),.n 2,.O 5 (.var (Qf f)),.n 8,.o (.ln f.Ins.length),.o (.co false [.d,.d] 1 (a.map Qk) a.length),.n 5,.K [1,3,5,16,17,18,27,28,29] [1,5,27,78]] rfl ⟨⟨⟨⟨⟨⟨tt_,B⟩,(QC H)⟩,rfl⟩,rfl⟩,Qi⟩,⟨(Qkb _ _ J),Qi,.inl rfl⟩⟩ ?_
   obtain⟨a4,L,h⟩:=Qd h
   refine AK.loop (body:=(fun st=>QcI a f c st.1 st.2)) (fun st σ=>σ=⟨[(1,.loc 1 0 0),(3,.own 78 st.2.length),(5,.loc 5 0 0),(16,.sl 14 (c.Tasks.map Qf)),(17,.I (c.Tasks.length:Int)),(18,.I w),(27,.own 27 a.length),(28,.I (a.length:Int)),(29,.I st.1)],[(1,.var (Qe c)),(5,.var (Qf f)),(27,.arr 1 (a.map Qk)),(78,.arr 1 (st.2.map Qk))]⟩) (fun q e σ=>e=.exit 2∧σ=⟨[(1,.loc 1 0 0),(3,.own 78 q.length),(16,.sl 14 (c.Tasks.map Qf)),(17,.I (c.Tasks.length:Int)),(18,.I w)],[(1,.var (Qe c)),(78,.arr 1 (q.map Qk))]⟩) L rfl ?_ ?_
   ·rintro ⟨k,b1⟩ o σ rfl h
    refine tg_ hC [.n 6] rfl ?_
    rcases Qs h with⟨m,h⟩|⟨m,h⟩
    ·obtain⟨i,x,h⟩:=Qd h
     obtain⟨b,M,h⟩:=Qd h
     refine Qa hC [.T,.n 7,.o (.row (Qk i)),.n 9,.o (.ln f.Outs.length),.o (.co false [.d,.d] 1 (b.map Qk) b.length),.n 5,.K [1,3,5,7,16,17,18,27,28,29,38,39,40] [1,5,27,38,78]] rfl ⟨⟨⟨⟨⟨tt_,m⟩,(Qd5 x rfl)⟩,(Qcg (Qek x).2)⟩,Qi⟩,⟨(Qkb _ _ M),Qi,.inl rfl⟩⟩ ?_
     obtain⟨a5,N,h⟩:=Qd h
     refine AK.loop (body:=(fun st=>QcH b c i f st.1 st.2)) (fun st σ=>σ=⟨[(1,.loc 1 0 0),(3,.own 78 st.2.length),(5,.loc 5 0 0),(7,.sl 1 (i.map Qb)),(16,.sl 14 (c.Tasks.map Qf)),(17,.I (c.Tasks.length:Int)),(18,.I w),(27,.own 27 a.length),(28,.I (a.length:Int)),(29,.I k),(38,.own 38 b.length),(39,.I (b.length:Int)),(40,.I st.1)],[(1,.var (Qe c)),(5,.var (Qf f)),(27,.arr 1 (a.map Qk)),(38,.arr 1 (b.map Qk)),(78,.arr 1 (st.2.map Qk))]⟩) (fun q e σ=>e=.exit 4∧σ=⟨[(1,.loc 1 0 0),(3,.own 78 q.length),(5,.loc 5 0 0),(16,.sl 14 (c.Tasks.map Qf)),(17,.I (c.Tasks.length:Int)),(18,.I w),(27,.own 27 a.length),(28,.I (a.length:Int)),(29,.I k)],[(1,.var (Qe c)),(5,.var (Qf f)),(27,.arr 1 (a.map Qk)),(78,.arr 1 (q.map Qk))]⟩) N rfl ?_ ?_
     ·rintro ⟨l,g⟩ o σ rfl h
      refine tg_ hC [.n 6] rfl ?_
      rcases Qs h with⟨p,h⟩|⟨p,h⟩
      ·obtain⟨j,y,h⟩:=Qd h
       obtain⟨P,h⟩:=QaO h
       refine Qa hC [.T,.n 7,.o (.row (Qk j)),.n 7,.o (.ln c.Places.length),.o (.rows ((List.replicate (c.Places.length:Int).toNat (0:Int)).map Qb)),.S 47 (.own 47 (List.replicate (c.Places.length:Int).toNat (0:Int)).length),.n 7,.o (.ln i.length),.n 4,.K [1,3,5,7,9,10,16,17,18,27,28,29,38,39,40,48,49,50] [1,5,27,38,47,78]] rfl ⟨⟨⟨⟨⟨⟨⟨tt_,p⟩,(Qd5 y rfl)⟩,(Qcg (Qek y).2)⟩,Qi⟩,⟨P,QhU rfl⟩⟩,(by simp)⟩,Qi⟩ ?_
       obtain⟨a6,U,h⟩:=Qd h
       refine AK.loop (body:=(fun st=>QcF i f st.1 st.2)) (fun st σ=>σ=⟨[(1,.loc 1 0 0),(3,.own 78 g.length),(5,.loc 5 0 0),(7,.sl 1 (i.map Qb)),(9,.sl 1 (j.map Qb)),(10,.own 47 st.2.length),(16,.sl 14 (c.Tasks.map Qf)),(17,.I (c.Tasks.length:Int)),(18,.I w),(27,.own 27 a.length),(28,.I (a.length:Int)),(29,.I k),(38,.own 38 b.length),(39,.I (b.length:Int)),(40,.I l),(48,.sl 1 (i.map Qb)),(49,.I (i.length:Int)),(50,.I st.1)],[(1,.var (Qe c)),(5,.var (Qf f)),(27,.arr 1 (a.map Qk)),(38,.arr 1 (b.map Qk)),(47,.arr 1 (st.2.map Qb)),(78,.arr 1 (g.map Qk))]⟩) (fun q e σ=>e=.exit 6∧σ=⟨[(1,.loc 1 0 0),(3,.own 78 g.length),(5,.loc 5 0 0),(7,.sl 1 (i.map Qb)),(9,.sl 1 (j.map Qb)),(10,.own 47 q.length),(16,.sl 14 (c.Tasks.map Qf)),(17,.I (c.Tasks.length:Int)),(18,.I w),(27,.own 27 a.length),(28,.I (a.length:Int)),(29,.I k),(38,.own 38 b.length),(39,.I (b.length:Int)),(40,.I l)],[(1,.var (Qe c)),(5,.var (Qf f)),(27,.arr 1 (a.map Qk)),(38,.arr 1 (b.map Qk)),(47,.arr 1 (q.map Qb)),(78,.arr 1 (g.map Qk))]⟩) U rfl ?_ ?_
       ·rintro ⟨b2,b3⟩ o σ rfl h
        refine tg_ hC [.n 6] rfl ?_
        rcases Qs h with⟨s,h⟩|⟨s,h⟩
        ·obtain⟨a7,W,h⟩:=Qd h
         obtain⟨a8,X,h⟩:=Qd h
         obtain⟨D,Y,h⟩:=Qd h
         obtain⟨z,h⟩:=QaO h
         refine Qa hC [.T,.n 6,.o (.row (Qb a7)),.n 9,.o (.row (QP a8)),.n 2,.cm (.fn) [(609,47)] [(47,609)] [] [.d,.d,.d] [(609,.arr 1 (D.map Qb))] (.tup []),.S 10 (.own 47 D.length),.S 54 (.own 47 D.length),.n 7,.K [1,3,5,7,9,10,16,17,18,27,28,29,38,39,40,48,49,50] [1,5,27,38,47,78]] rfl ⟨⟨⟨⟨⟨⟨tt_,s⟩,(QC W)⟩,(QC X)⟩,(Qkc _ _ _ Y)⟩,(by simp [Qab z])⟩,(by simp [Qab z])⟩ ?_
         cases h
         exact QU rfl rfl
        refine Qa hC [.F,.n 2,.K [1,3,5,7,9,10,16,17,18,27,28,29,38,39,40] [1,5,27,38,47,78]] rfl ⟨tt_,s⟩ ?_
        cases h
        exact QV rfl (an_ rfl rfl)
       replace h:Qd7 j f g l a6=some o:=h
       rintro e σ ⟨rfl,rfl⟩
       refine Qa hC [.n 6,.o (.ln j.length),.n 4,.K [1,3,5,7,10,16,17,18,27,28,29,38,39,40,63,64,65] [1,5,27,38,47,78]] rfl ⟨tt_,Qi⟩ ?_
       obtain⟨t,Z,h⟩:=Qd h
       refine AK.loop (body:=(fun st=>QcG j f st.1 st.2)) (fun st σ=>σ=⟨[(1,.loc 1 0 0),(3,.own 78 g.length),(5,.loc 5 0 0),(7,.sl 1 (i.map Qb)),(10,.own 47 st.2.length),(16,.sl 14 (c.Tasks.map Qf)),(17,.I (c.Tasks.length:Int)),(18,.I w),(27,.own 27 a.length),(28,.I (a.length:Int)),(29,.I k),(38,.own 38 b.length),(39,.I (b.length:Int)),(40,.I l),(63,.sl 1 (j.map Qb)),(64,.I (j.length:Int)),(65,.I st.1)],[(1,.var (Qe c)),(5,.var (Qf f)),(27,.arr 1 (a.map Qk)),(38,.arr 1 (b.map Qk)),(47,.arr 1 (st.2.map Qb)),(78,.arr 1 (g.map Qk))]⟩) (fun q e σ=>e=.exit 8∧σ=⟨[(1,.loc 1 0 0),(3,.own 78 g.length),(5,.loc 5 0 0),(7,.sl 1 (i.map Qb)),(10,.own 47 q.length),(16,.sl 14 (c.Tasks.map Qf)),(17,.I (c.Tasks.length:Int)),(18,.I w),(27,.own 27 a.length),(28,.I (a.length:Int)),(29,.I k),(38,.own 38 b.length),(39,.I (b.length:Int)),(40,.I l)],[(1,.var (Qe c)),(5,.var (Qf f)),(27,.arr 1 (a.map Qk)),(38,.arr 1 (b.map Qk)),(47,.arr 1 (q.map Qb)),(78,.arr 1 (g.map Qk))]⟩) Z rfl ?_ ?_
       ·rintro ⟨b4,b5⟩ o σ rfl h
        refine tg_ hC [.n 6] rfl ?_
        rcases Qs h with⟨u,h⟩|⟨u,h⟩
        ·obtain⟨a9,a0,h⟩:=Qd h
         obtain⟨b0,a1,h⟩:=Qd h
         obtain⟨E,a2,h⟩:=Qd h
         obtain⟨A,h⟩:=QaO h
         refine Qa hC [.T,.n 6,.o (.row (Qb a9)),.n 9,.o (.row (QP b0)),.n 2,.cm (.fn) [(609,47)] [(47,609)] [] [.d,.d,.d] [(609,.arr 1 (E.map Qb))] (.tup []),.S 10 (.own 47 E.length),.S 69 (.own 47 E.length),.n 7,.K [1,3,5,7,10,16,17,18,27,28,29,38,39,40,63,64,65] [1,5,27,38,47,78]] rfl ⟨⟨⟨⟨⟨⟨tt_,u⟩,(QC a0)⟩,(QC a1)⟩,(Qkc _ _ _ a2)⟩,(by simp [Qab A])⟩,(by simp [Qab A])⟩ ?_
         cases h
         exact QU rfl rfl
        refine Qa hC [.F,.n 2,.K [1,3,5,7,10,16,17,18,27,28,29,38,39,40] [1,5,27,38,47,78]] rfl ⟨tt_,u⟩ ?_
        cases h
        exact QV rfl (an_ rfl rfl)
       replace h:Qd6 g l t=some o:=h
       rintro e σ ⟨rfl,rfl⟩
       obtain⟨a3,h⟩:=QaO h
       refine Qa hC [.n 5,.frz 47 (t.map Qb) [10,79] [],.v (.bd []) [] (.sl 1 (([t]:List (List Int)).map Qk)),.app ((g++([t]:List (List Int))).map Qk) (g++([t]:List (List Int))).length,.n 8,.K [1,3,5,7,16,17,18,27,28,29,38,39,40] [1,5,27,38,78]] rfl ⟨⟨⟨tt_,⟨⟨tt_,(QeQ Qi)⟩,(QeQ Qi)⟩⟩,rfl⟩,⟨Qi,QhW a3 Qi,QfU,QjE Qi⟩⟩ ?_
       cases h
       exact QU rfl rfl
      refine Qa hC [.F,.n 2,.K [1,3,5,16,17,18,27,28,29] [1,5,27,78]] rfl ⟨tt_,p⟩ ?_
      cases h
      exact QV rfl (an_ rfl rfl)
     replace h:Qd8 k a5=some o:=h
     rintro e σ ⟨rfl,rfl⟩
     refine tg_ hC [.n 7,.K [1,3,5,16,17,18,27,28,29] [1,5,27,78]] rfl ?_
     cases h
     exact QU rfl rfl
    refine Qa hC [.F,.n 2,.K [1,3,16,17,18] [1,78]] rfl ⟨tt_,m⟩ ?_
    cases h
    exact QV rfl (an_ rfl rfl)
   replace h:Qd9 w a4=some o:=h
   rintro e σ ⟨rfl,rfl⟩
   refine tg_ hC [.n 7,.K [1,3,16,17,18] [1,78]] rfl ?_
   cases h
   exact QU rfl rfl
  refine Qa hC [.F,.n 2,.K [3] [78]] rfl ⟨tt_,B⟩ ?_
  cases h
  exact QV rfl (an_ rfl rfl)
 replace h:Qji l8=some r:=h
 rintro e σ ⟨rfl,rfl⟩
 refine tg_ hC [.n 9,.K [2] [78],.ren 78 600] rfl ?_
 cases h
 exact d1_ rfl rfl ⟨rfl,tt_⟩
def QjO (a:Int):Option Bool:=
 some (decide (4<(max2 a (w64 (0-a)))))
theorem Qmz (a){r}(h:QjO a=some r):Qc prog 84 [.I a] [] (Qh (.b r) []):=by
 refine Qc.walk 8 func84 rfl rfl rfl fun C hC=>?_
 refine tg_ hC [.n 16] rfl ?_
 cases h
 exact d1_ rfl rfl tt_
def Qdi (b:(List Int))(a:Int):Option (Int⊕(Int⊕Unit)):=
 bif (decide (a<(b.length:Int)))then
 (idx b a).bind fun c=>
 (QjO c).bind fun d=>
 bif d then
 some (.inr (.inl a))
 else
 some (.inl (w64 (a+1)))
 else
 some (.inr (.inr ()))
def Qdj (a:Int):Option Int:=
 some a
def Qdk : Option Int:=
 some (-1)
def Qes (a:(List Int)):Option Int:=
 (Qw (fun st=>Qdi a st) 0).bind (Sum.elim (fun q=>Qdj q) (fun q=>Qdk))
theorem Qit (g){r}(h:Qes g=some r):Qc prog 80 [.sl 1 (g.map Qb),.clo (.func 84) [] []] [] (Qh (.I r) []):=by
 refine Qc.walk 19 func80 rfl rfl rfl fun C hC=>?_
 refine Qa hC [.n 9,.o (.ln g.length),.n 4,.K [0,1,7,8] []] rfl ⟨tt_,Qi⟩ ?_
 obtain⟨j,i,h⟩:=Qd h
 refine AK.loop (body:=(fun st=>Qdi g st)) (fun st σ=>σ=⟨[(0,.sl 1 (g.map Qb)),(1,.clo (.func 84) [] []),(7,.I (g.length:Int)),(8,.I st)],[]⟩) (Sum.elim (fun q e σ=>e=.ret∧σ=⟨[(4,.I q)],[]⟩) (fun q e σ=>e=.exit 0∧σ=⟨[],[]⟩)) i rfl ?_ ?_
 ·rintro t o σ rfl h
  refine tg_ hC [.n 6] rfl ?_
  rcases Qs h with⟨f,h⟩|⟨f,h⟩
  ·obtain⟨m,k,h⟩:=Qd h
   obtain⟨p,l,h⟩:=Qd h
   refine Qa hC [.T,.n 15,.o (.row (Qb m)),.n 1,.o (.c false [.d] (.b p)),.n 2] rfl ⟨⟨⟨tt_,f⟩,(QC k)⟩,(Qmz _ l)⟩ ?_
   refine bg_ h (fun a h=>Qa hC [.T,.n 9,.K [4] []] rfl ⟨tt_,a⟩ ?_) fun a h=>Qa hC [.F,.n 7,.K [0,1,7,8] []] rfl ⟨tt_,a⟩ ?_
   ·cases h
    exact QaN rfl (an_ rfl rfl)
   cases h
   exact QU rfl rfl
  refine Qa hC [.F,.n 2,.K [] []] rfl ⟨tt_,f⟩ ?_
  cases h
  exact QV rfl (an_ rfl rfl)
 rcases j with(s | _)
 ·replace h:Qdj s=some r:=h
  rintro e σ ⟨rfl,rfl⟩
  refine tg_ hC [.n 2] rfl ?_
  cases h
  exact d1_ rfl rfl tt_
 replace h:Qdk=some r:=h
 rintro e σ ⟨rfl,rfl⟩
 refine tg_ hC [.n 8] rfl ?_
 cases h
 exact d1_ rfl rfl tt_
def Qdl (a:(List Int)):Option Bool:=
 (Qes a).bind fun b=>
 some (decide (0≤b))
theorem Qhb (c){r}(h:Qdl c=some r):Qc prog 47 [.sl 1 (c.map Qb),.clo (.func 84) [] []] [] (Qh (.b r) []):=by
 refine Qc.walk 9 func47 rfl rfl rfl fun C hC=>?_
 obtain⟨e,a,h⟩:=Qd h
 refine Qa hC [.n 9,.cm (.fn) [] [] [] [.d,.d] [] (.I e),.n 5] rfl ⟨tt_,(Qit _ a)⟩ ?_
 cases h
 exact d1_ rfl rfl tt_
def QkY (a:(List Int)):Option Bool:=
 (Qdl a).bind fun b=>
 some b
theorem QnH (c){r}(h:QkY c=some r):Qc prog 51 [.sl 1 (c.map Qb)] [] (Qh (.b r) []):=by
 refine Qc.walk 5 func51 rfl rfl rfl fun C hC=>?_
 obtain⟨e,a,h⟩:=Qd h
 refine Qa hC [.n 8,.cm (.fn) [] [] [] [.d,.d] [] (.b e),.n 4] rfl ⟨tt_,(Qhb _ a)⟩ ?_
 cases h
 exact d1_ rfl rfl tt_
def Qet (b:QLL)(a:Int):Option (Int⊕(Int⊕Unit)):=
 bif (decide (a<(b.length:Int)))then
 (idx b a).bind fun c=>
 (QkY c).bind fun d=>
 bif d then
 some (.inr (.inl a))
 else
 some (.inl (w64 (a+1)))
 else
 some (.inr (.inr ()))
def Qeu (a:Int):Option Int:=
 some a
def Qev : Option Int:=
 some (-1)
def QfJ (a:QLL):Option Int:=
 (Qw (fun st=>Qet a st) 0).bind (Sum.elim (fun q=>Qeu q) (fun q=>Qev))
theorem Qjg (g){r}(h:QfJ g=some r):Qc prog 83 [.sl 1 (g.map Qk),.clo (.func 51) [] []] [] (Qh (.I r) []):=by
 refine Qc.walk 19 func83 rfl rfl rfl fun C hC=>?_
 refine Qa hC [.n 9,.o (.ln g.length),.n 4,.K [0,1,7,8] []] rfl ⟨tt_,Qi⟩ ?_
 obtain⟨j,i,h⟩:=Qd h
 refine AK.loop (body:=(fun st=>Qet g st)) (fun st σ=>σ=⟨[(0,.sl 1 (g.map Qk)),(1,.clo (.func 51) [] []),(7,.I (g.length:Int)),(8,.I st)],[]⟩) (Sum.elim (fun q e σ=>e=.ret∧σ=⟨[(4,.I q)],[]⟩) (fun q e σ=>e=.exit 0∧σ=⟨[],[]⟩)) i rfl ?_ ?_
 ·rintro t o σ rfl h
  refine tg_ hC [.n 6] rfl ?_
  rcases Qs h with⟨f,h⟩|⟨f,h⟩
  ·obtain⟨m,k,h⟩:=Qd h
   obtain⟨p,l,h⟩:=Qd h
   refine Qa hC [.T,.n 15,.o (.row (Qk m)),.n 1,.o (.c false [.d] (.b p)),.n 2] rfl ⟨⟨⟨tt_,f⟩,(QC k)⟩,(QnH _ l)⟩ ?_
   refine bg_ h (fun a h=>Qa hC [.T,.n 9,.K [4] []] rfl ⟨tt_,a⟩ ?_) fun a h=>Qa hC [.F,.n 7,.K [0,1,7,8] []] rfl ⟨tt_,a⟩ ?_
   ·cases h
    exact QaN rfl (an_ rfl rfl)
   cases h
   exact QU rfl rfl
  refine Qa hC [.F,.n 2,.K [] []] rfl ⟨tt_,f⟩ ?_
  cases h
  exact QV rfl (an_ rfl rfl)
 rcases j with(s | _)
 ·replace h:Qeu s=some r:=h
  rintro e σ ⟨rfl,rfl⟩
  refine tg_ hC [.n 2] rfl ?_
  cases h
  exact d1_ rfl rfl tt_
 replace h:Qev=some r:=h
 rintro e σ ⟨rfl,rfl⟩
 refine tg_ hC [.n 8] rfl ?_
 cases h
 exact d1_ rfl rfl tt_
def Qew (a:QLL):Option Bool:=
 (QfJ a).bind fun b=>
 some (decide (0≤b))
theorem Qiu (c){r}(h:Qew c=some r):Qc prog 48 [.sl 1 (c.map Qk),.clo (.func 51) [] []] [] (Qh (.b r) []):=by
 refine Qc.walk 9 func48 rfl rfl rfl fun C hC=>?_
 obtain⟨e,a,h⟩:=Qd h
 refine Qa hC [.n 9,.cm (.fn) [] [] [] [.d,.d] [] (.I e),.n 5] rfl ⟨tt_,(Qjg _ a)⟩ ?_
 cases h
 exact d1_ rfl rfl tt_
def Qcv (a:(List Int)):Option (List Int):=
 (chk (decide (([]:List Int).length+a.length≤4294967296))).bind fun _=>
 some (([]:List Int)++a)
theorem Qf8 (a){r}(h:Qcv a=some r):Qc prog 86 [.sl 1 (a.map Qb)] [] (Qh (.own 600 r.length) [(600,.arr 1 (r.map Qb))]):=by
 refine Qc.walk 8 func86 rfl rfl rfl fun C hC=>?_
 unfold Qcv at h
 refine tg_ hC [.n 9] rfl ?_
 refine AK.eqNil rfl rfl rfl (Qz hC.n rfl) rfl rfl QtK ?_ ?_
 ·intro b
  replace h:some ([]:List Int)=some r:=by simpa [chk,List.map_eq_nil_iff.1 b] using h
  refine Qa hC [.n 10,.adopt 2 600 1,.O 600 (.arr 1 (([]:List Int).map Qb)),.S 2 (.own 600 ([]:List Int).length)] rfl ⟨⟨tt_,rfl⟩,rfl⟩ ?_
  cases h
  exact d1_ rfl rfl ⟨rfl,tt_⟩
 obtain⟨c,h⟩:=QaO h
 refine Qa hC [.n 8,.O 5 (.arr 1 (([]:List Int).map Qb)),.S 5 (.own 5 ([]:List Int).length),.n 1,.app ((([]:List Int)++a).map Qb) (([]:List Int)++a).length,.n 4,.K [2] [5],.ren 5 600] rfl ⟨⟨⟨tt_,rfl⟩,rfl⟩,⟨Qi,QhW c Qi,QfU,QjE Qi⟩⟩ ?_
 cases h
 exact d1_ rfl rfl ⟨rfl,tt_⟩
def QmA (b:Int)(a:Int):Option ((Int×Int)⊕Int):=
 bif (a != 0)then
 (chk (a != 0)).bind fun _=>
 some (.inl (a,(Int.tmod b a)))
 else
 some (.inr b)
def QmB (a:Int):Option Int:=
 some (max2 a (w64 (0-a)))
def QjH (a:Int)(b:Int):Option Int:=
 (Qw (fun st=>QmA st.1 st.2) (a,b)).bind (fun q=>QmB q)
theorem Qjo (f g){r}(h:QjH f g=some r):Qc prog 89 [.I f,.I g] [] (Qh (.I r) []):=by
 refine Qc.walk 15 func89 rfl rfl rfl fun C hC=>?_
 refine tg_ hC [.n 7,.K [0,1] []] rfl ?_
 obtain⟨i,c,h⟩:=Qd h
 refine AK.loop (body:=(fun st=>QmA st.1 st.2)) (fun st σ=>σ=⟨[(0,.I st.1),(1,.I st.2)],[]⟩) (fun q e σ=>e=.exit 0∧σ=⟨[(0,.I q)],[]⟩) c rfl ?_ ?_
 ·rintro ⟨j,k⟩ o σ rfl h
  refine tg_ hC [.n 7] rfl ?_
  rcases Qs h with⟨b,h⟩|⟨b,h⟩
  ·obtain⟨d,h⟩:=QaO h
   refine Qa hC [.T,.n 3,.K [0,1] []] rfl ⟨tt_,b⟩ ?_
   refine AK.draw2 Qp hC mixed [.N,.a .no none true true,.a .no none true,.a .no none true,.m .s,.m .s] [1] [] [0,1] [] rfl rfl rfl ⟨tt_,(neZ d)⟩ rfl (by kernel_rfl) rfl rfl rfl ?_
   refine tg_ hC [.n 1,.K [0,1] []] rfl ?_
   cases h
   exact QU rfl rfl
  refine Qa hC [.F,.n 2,.K [0] []] rfl ⟨tt_,b⟩ ?_
  cases h
  exact QV rfl (an_ rfl rfl)
 replace h:QmB i=some r:=h
 rintro e σ ⟨rfl,rfl⟩
 refine tg_ hC [.n 12] rfl ?_
 cases h
 exact d1_ rfl rfl tt_
def Qkd (b:Int)(a:Int):Option Int:=
 (chk (a != 0)).bind fun _=>
 some (w64 (Int.tdiv b a))
theorem Qnq (c a){r}(h:Qkd c a=some r):Qc prog 161 [.I c,.loc 609 0 0] [(609,.var (Qb a))] (Qh (.I r) [(609,.var (Qb a))]):=by
 refine Qc.walk 7 func161 rfl rfl rfl fun C hC=>?_
 obtain⟨b,h⟩:=QaO h
 refine Qa hC [.n 14] rfl ⟨tt_,(neZ b)⟩ ?_
 cases h
 exact d1_ rfl rfl ⟨rfl,tt_⟩
def Qf9 (e:(List Int))(f:Int)(a:Int)(b:(List Int)):Option ((Int×(List Int))⊕(List Int)):=
 bif (decide (a<(e.length:Int)))then
 (idx e a).bind fun c=>
 (Qkd c f).bind fun d=>
 (idx b a).bind fun g=>
 some (.inl ((w64 (a+1)),(b.set a.toNat d)))
 else
 some (.inr b)
def Qga (a:(List Int)):Option (List Int):=
 some a
def QhZ (a:(List Int))(b:Int):Option (List Int):=
 (chk (decide (0≤(a.length:Int))&&decide ((a.length:Int)≤(a.length:Int))&&decide ((a.length:Int)≤4294967296))).bind fun _=>
 (Qw (fun st=>Qf9 a b st.1 st.2) (0,(List.replicate (a.length:Int).toNat (0:Int)))).bind (fun q=>Qga q)
theorem QkD (b f){r}(h:QhZ b f=some r):Qc prog 160 [.sl 1 (b.map Qb),.clo (.func 161) [] [.loc 609 0 0]] [(609,.var (Qb f))] (Qh (.own 600 r.length) [(600,.arr 1 (r.map Qb)),(609,.var (Qb f))]):=by
 refine Qc.walk 26 func160 rfl rfl rfl fun C hC=>?_
 obtain⟨l,h⟩:=QaO h
 refine Qa hC [.n 8,.o (.ln b.length),.o (.rows ((List.replicate (b.length:Int).toNat (0:Int)).map Qb)),.S 10 (.own 10 (List.replicate (b.length:Int).toNat (0:Int)).length),.n 7,.o (.ln b.length),.n 4,.K [1,5,11,12,13] [10,609]] rfl ⟨⟨⟨⟨tt_,Qi⟩,⟨l,QhU rfl⟩⟩,(by simp)⟩,Qi⟩ ?_
 obtain⟨m,i,h⟩:=Qd h
 refine AK.loop (body:=(fun st=>Qf9 b f st.1 st.2)) (fun st σ=>σ=⟨[(1,.clo (.func 161) [] [.loc 609 0 0]),(5,.own 10 st.2.length),(11,.sl 1 (b.map Qb)),(12,.I (b.length:Int)),(13,.I st.1)],[(10,.arr 1 (st.2.map Qb)),(609,.var (Qb f))]⟩) (fun q e σ=>e=.exit 0∧σ=⟨[(5,.own 10 q.length)],[(10,.arr 1 (q.map Qb)),(609,.var (Qb f))]⟩) i rfl ?_ ?_
 ·rintro ⟨t,u⟩ o σ rfl h
  refine tg_ hC [.n 6] rfl ?_
  rcases Qs h with⟨a,h⟩|⟨a,h⟩
  ·obtain⟨p,j,h⟩:=Qd h
   obtain⟨g,k,h⟩:=Qd h
   obtain⟨s,c,h⟩:=Qd h
   refine Qa hC [.T,.n 7,.o (.row (Qb p)),.n 10,.cm (.clo) [(609,609)] [(609,609)] [] [.d,.d] [(609,.var (Qb f))] (.I g),.n 1,.st (Qb s) ((u.set t.toNat g).map Qb),.n 7,.S 5 (.own 10 (u.set t.toNat g).length),.K [1,5,11,12,13] [10,609]] rfl ⟨⟨⟨⟨⟨⟨tt_,a⟩,(QC j)⟩,(Qnq _ _ k)⟩,(Qd5 c rfl)⟩,⟨(Qcg (Qek c).2),QgF rfl⟩⟩,(congrArg (fun n=>V.own 10 n) (by simp))⟩ ?_
   cases h
   exact QU rfl rfl
  refine Qa hC [.F,.n 2,.K [5] [10,609]] rfl ⟨tt_,a⟩ ?_
  cases h
  exact QV rfl (an_ rfl rfl)
 replace h:Qga m=some r:=h
 rintro e σ ⟨rfl,rfl⟩
 refine tg_ hC [.n 9,.K [4] [10,609],.ren 10 600] rfl ?_
 cases h
 exact d1_ rfl rfl ⟨rfl,rfl,tt_⟩
def QjP (a:(List Int))(b:Int)(e:Int):Option ((Int×Int)⊕Int):=
 bif (decide (b<(a.length:Int)))then
 (idx a b).bind fun c=>
 (QjH e c).bind fun d=>
 some (.inl ((w64 (b+1)),d))
 else
 some (.inr e)
def QjQ (a:(List Int))(c:Int):Option (List Int):=
 bif (c==0)then
 some a
 else
 (QhZ a c).bind fun b=>
 some b
def Qgb (a:(List Int)):Option (List Int):=
 (Qw (fun st=>QjP a st.1 st.2) (0,0)).bind (fun q=>QjQ a q)
theorem QgQ (a){r}(h:Qgb a=some r):Qc prog 85 [.sl 1 (a.map Qb)] [] (Qh (.sl 1 (r.map Qb)) []):=by
 refine Qc.walk 22 func85 rfl rfl rfl fun C hC=>?_
 refine Qa hC [.n 9,.O 3 (.var (Qb 0)),.n 6,.o (.ln a.length),.n 4,.K [0,3,6,7,8] [3]] rfl ⟨⟨tt_,rfl⟩,Qi⟩ ?_
 obtain⟨s,i,h⟩:=Qd h
 refine AK.loop (body:=(fun st=>QjP a st.1 st.2)) (fun st σ=>σ=⟨[(0,.sl 1 (a.map Qb)),(3,.loc 3 0 0),(6,.sl 1 (a.map Qb)),(7,.I (a.length:Int)),(8,.I st.1)],[(3,.var (Qb st.2))]⟩) (fun q e σ=>e=.exit 0∧σ=⟨[(0,.sl 1 (a.map Qb)),(3,.loc 3 0 0)],[(3,.var (Qb q))]⟩) i rfl ?_ ?_
 ·rintro ⟨t,u⟩ o σ rfl h
  refine tg_ hC [.n 6] rfl ?_
  rcases Qs h with⟨b,h⟩|⟨b,h⟩
  ·obtain⟨p,j,h⟩:=Qd h
   obtain⟨k,l,h⟩:=Qd h
   refine Qa hC [.T,.n 6,.o (.row (Qb p)),.n 7,.o (.c false [.d,.d] (.I k)),.n 1,.O 3 (.var (Qb k)),.n 7,.K [0,3,6,7,8] [3]] rfl ⟨⟨⟨⟨tt_,b⟩,(QC j)⟩,(Qjo _ _ l)⟩,rfl⟩ ?_
   cases h
   exact QU rfl rfl
  refine Qa hC [.F,.n 2,.K [0,3] [3]] rfl ⟨tt_,b⟩ ?_
  cases h
  exact QV rfl (an_ rfl rfl)
 replace h:QjQ a s=some r:=h
 rintro e σ ⟨rfl,rfl⟩
 refine tg_ hC [.n 9] rfl ?_
 rcases Qs h with⟨f,h⟩|⟨f,h⟩
 ·refine Qa hC [.T,.n 8] rfl ⟨tt_,f⟩ ?_
  cases h
  exact d1_ rfl rfl tt_
 obtain⟨g,m,h⟩:=Qd h
 refine Qa hC [.F,.n 6,.cm (.fn) [(609,3)] [(21,600),(3,609)] [] [.d,.d] [(600,.arr 1 (g.map Qb)),(609,.var (Qb s))] (.own 600 g.length),.n 4,.frz 21 (g.map Qb) [2] []] rfl ⟨⟨⟨tt_,f⟩,(QkD _ _ m)⟩,⟨tt_,(QeQ Qi)⟩⟩ ?_
 cases h
 exact d1_ rfl rfl tt_
def QhF (i:Int)(c:(List Int))(by_3:(List Int))(a:Int)(b:Int)(d:(List Int)):Option ((Int×(List Int))⊕(List Int)):=
 bif (decide (b<((List.replicate i.toNat (0:Int)).length:Int)))then
 (idx c b).bind fun e=>
 (idx by_3 a).bind fun f=>
 (idx by_3 b).bind fun g=>
 (idx c a).bind fun h=>
 (idx d b).bind fun j=>
 some (.inl ((w64 (b+1)),(d.set b.toNat (w64 ((w64 (e*f))-(w64 (g*h)))))))
 else
 some (.inr d)
def QhG (a:(List Int)):Option (List Int):=
 (Qgb a).bind fun b=>
 some b
def QbO (c:Int)(b:(List Int))(by_3:(List Int))(a:Int):Option (List Int):=
 (idx b a).bind fun d=>
 bif (d==0)then
 some b
 else
 (chk (decide (0≤c)&&decide (c≤c)&&decide (c≤4294967296))).bind fun _=>
 (Qw (fun st=>QhF c b by_3 a st.1 st.2) (0,(List.replicate c.toNat (0:Int)))).bind (fun q=>QhG q)
theorem Qb8 (t f by_3 b){r}(h:QbO t f by_3 b=some r):Qc prog 87 [.agg [.I t,.J],.sl 1 (f.map Qb),.sl 1 (by_3.map Qb),.I b] [] (Qh (.sl 1 (r.map Qb)) []):=by
 refine Qc.walk 50 func87 rfl rfl rfl fun C hC=>?_
 obtain⟨L,E,h⟩:=Qd h
 refine Qa hC [.n 11,.o (.row (Qb L)),.n 4] rfl ⟨tt_,(QC E)⟩ ?_
 rcases Qs h with⟨j,h⟩|⟨j,h⟩
 ·refine Qa hC [.T,.n 8] rfl ⟨tt_,j⟩ ?_
  cases h
  exact d1_ rfl rfl tt_
 obtain⟨G,h⟩:=QaO h
 refine Qa hC [.F,.n 6,.o (.rows ((List.replicate t.toNat (0:Int)).map Qb)),.S 19 (.own 19 (List.replicate t.toNat (0:Int)).length),.n 12,.K [1,2,3,9,21,22] [19]] rfl ⟨⟨⟨tt_,j⟩,⟨G,QhU rfl⟩⟩,(by simp)⟩ ?_
 obtain⟨u,v,h⟩:=Qd h
 refine AK.loop (body:=(fun st=>QhF t f by_3 b st.1 st.2)) (fun st σ=>σ=⟨[(1,.sl 1 (f.map Qb)),(2,.sl 1 (by_3.map Qb)),(3,.I b),(9,.own 19 st.2.length),(21,.I ((List.replicate t.toNat (0:Int)).length:Int)),(22,.I st.1)],[(19,.arr 1 (st.2.map Qb))]⟩) (fun q e σ=>e=.exit 0∧σ=⟨[(9,.own 19 q.length)],[(19,.arr 1 (q.map Qb))]⟩) v rfl ?_ ?_
 ·rintro ⟨w,x⟩ o σ rfl h
  refine tg_ hC [.n 6] rfl ?_
  rcases Qs h with⟨g,h⟩|⟨g,h⟩
  ·obtain⟨k,y,h⟩:=Qd h
   obtain⟨l,z,h⟩:=Qd h
   obtain⟨p,A,h⟩:=Qd h
   obtain⟨s,B,h⟩:=Qd h
   obtain⟨H,i,h⟩:=Qd h
   refine Qa hC [.T,.n 10,.K [1,2,3,9,10,21,22] [19]] rfl ⟨tt_,g⟩ ?_
   refine AK.draw2 Qp hC mixed [.N,.N,.N,.N,.a (.row (Qb k)) none false,.N,.N,.N,.a (.row (Qb l)) none false,.N,.N,.N,.N,.a (.row (Qb p)) none false,.N,.N,.N,.a (.row (Qb s)) none false,.N,.N,.N,.N,.m (.st (Qb H) ((x.set w.toNat (w64 ((w64 (k*l))-(w64 (p*s))))).map Qb))] [] [] [1,2,3,9,21,22] [19] rfl rfl rfl ⟨⟨⟨⟨⟨⟨tt_,(QC y)⟩,(QC z)⟩,(QC A)⟩,(QC B)⟩,(Qd5 i rfl)⟩,⟨(Qcg (Qek i).2),QgF rfl⟩⟩ rfl (by kernel_rfl) rfl rfl rfl ?_
   refine Qa hC [.n 6,.S 9 (.own 19 (x.set w.toNat (w64 ((w64 (k*l))-(w64 (p*s))))).length),.K [1,2,3,9,21,22] [19]] rfl ⟨tt_,(congrArg (fun n=>V.own 19 n) (by simp))⟩ ?_
   cases h
   exact QU rfl rfl
  refine Qa hC [.F,.n 2,.K [9] [19]] rfl ⟨tt_,g⟩ ?_
  cases h
  exact QV rfl (an_ rfl rfl)
 replace h:QhG u=some r:=h
 rintro e σ ⟨rfl,rfl⟩
 obtain⟨J,D,h⟩:=Qd h
 refine Qa hC [.n 5,.frz 19 (u.map Qb) [9,48] [],.o (.c false [.d] (.sl 1 (J.map Qb))),.n 4] rfl ⟨⟨tt_,⟨⟨tt_,(QeQ Qi)⟩,(QeQ Qi)⟩⟩,(QgQ _ D)⟩ ?_
 cases h
 exact d1_ rfl rfl tt_
def Qi1 (a:Int):Option Bool:=
 some (a != 0)
theorem Qlx (a){r}(h:Qi1 a=some r):Qc prog 88 [.I a] [] (Qh (.b r) []):=by
 refine Qc.walk 5 func88 rfl rfl rfl fun C hC=>?_
 refine tg_ hC [.n 13] rfl ?_
 cases h
 exact d1_ rfl rfl tt_
def Qdm (b:(List Int))(a:Int):Option (Int⊕(Int⊕Unit)):=
 bif (decide (a<(b.length:Int)))then
 (idx b a).bind fun c=>
 (Qi1 c).bind fun d=>
 bif d then
 some (.inr (.inl a))
 else
 some (.inl (w64 (a+1)))
 else
 some (.inr (.inr ()))
def Qdn (a:Int):Option Int:=
 some a
def Qdo : Option Int:=
 some (-1)
def Qb1 (a:(List Int)):Option Int:=
 (Qw (fun st=>Qdm a st) 0).bind (Sum.elim (fun q=>Qdn q) (fun q=>Qdo))
theorem Qdp (g){r}(h:Qb1 g=some r):Qc prog 80 [.sl 1 (g.map Qb),.clo (.func 88) [] []] [] (Qh (.I r) []):=by
 refine Qc.walk 19 func80 rfl rfl rfl fun C hC=>?_
 refine Qa hC [.n 9,.o (.ln g.length),.n 4,.K [0,1,7,8] []] rfl ⟨tt_,Qi⟩ ?_
 obtain⟨j,i,h⟩:=Qd h
 refine AK.loop (body:=(fun st=>Qdm g st)) (fun st σ=>σ=⟨[(0,.sl 1 (g.map Qb)),(1,.clo (.func 88) [] []),(7,.I (g.length:Int)),(8,.I st)],[]⟩) (Sum.elim (fun q e σ=>e=.ret∧σ=⟨[(4,.I q)],[]⟩) (fun q e σ=>e=.exit 0∧σ=⟨[],[]⟩)) i rfl ?_ ?_
 ·rintro t o σ rfl h
  refine tg_ hC [.n 6] rfl ?_
  rcases Qs h with⟨f,h⟩|⟨f,h⟩
  ·obtain⟨m,k,h⟩:=Qd h
   obtain⟨p,l,h⟩:=Qd h
   refine Qa hC [.T,.n 15,.o (.row (Qb m)),.n 1,.o (.c false [.d] (.b p)),.n 2] rfl ⟨⟨⟨tt_,f⟩,(QC k)⟩,(Qlx _ l)⟩ ?_
   refine bg_ h (fun a h=>Qa hC [.T,.n 9,.K [4] []] rfl ⟨tt_,a⟩ ?_) fun a h=>Qa hC [.F,.n 7,.K [0,1,7,8] []] rfl ⟨tt_,a⟩ ?_
   ·cases h
    exact QaN rfl (an_ rfl rfl)
   cases h
   exact QU rfl rfl
  refine Qa hC [.F,.n 2,.K [] []] rfl ⟨tt_,f⟩ ?_
  cases h
  exact QV rfl (an_ rfl rfl)
 rcases j with(s | _)
 ·replace h:Qdn s=some r:=h
  rintro e σ ⟨rfl,rfl⟩
  refine tg_ hC [.n 2] rfl ?_
  cases h
  exact d1_ rfl rfl tt_
 replace h:Qdo=some r:=h
 rintro e σ ⟨rfl,rfl⟩
 refine tg_ hC [.n 8] rfl ?_
 cases h
 exact d1_ rfl rfl tt_
noncomputable def QeU (s1:Int)(row10:(List Int))(k12:Int)(v13:(List Int)):Option ((List Int)⊕Empty):=
 (QbO s1 row10 v13 k12).bind fun x14=>
 some (.inl x14)
noncomputable def QeV (s1:Int)(row10:(List Int))(x16:Int)(m20:(List (Int×(List Int))))(k22:Int)(v23:(List Int)):Option ((List (Int×(List Int)))⊕Empty):=
 (QbO s1 v23 row10 x16).bind fun x24=>
 some (.inl (QcE ltI m20 k22 x24))
def QiJ (b:Int)(a:(List Int))(c:(List (Int×(List Int)))):Option (List (Int×(List Int))):=
 some (QcE ltI c b a)
noncomputable def QiK (m2:(List (Int×(List Int))))(s1:Int)(row10:(List Int)):Option (List (Int×(List Int))):=
 (Qb1 row10).bind fun x16=>
 bif (decide (x16<0))then
 some m2
 else
 (QgK (fun st p=>QeV s1 row10 x16 st p.1 p.2) m2 m2).bind (Sum.elim (fun q=>QiJ x16 row10 q) (fun q=>Empty.elim q))
noncomputable def QjR (s1:Int)(m2:(List (Int×(List Int))))(row3:(List Int)):Option (List (Int×(List Int))):=
 (Qcv row3).bind fun x6=>
 (Qgb x6).bind fun x7=>
 (QgK (fun st p=>QeU s1 st p.1 p.2) x7 m2).bind (Sum.elim (fun q=>QiK m2 s1 q) (fun q=>Empty.elim q))
theorem QmC (u P E){r}(h:QjR u P E=some r):Qc prog 52 [.agg [.I u,.map 609],.sl 1 (E.map Qb)] [(609,.map (QE V.I (fun x=>V.sl 1 (x.map Qb)) P))] (Qh (.tup []) [(609,.map (QE V.I (fun x=>V.sl 1 (x.map Qb)) r))]):=by
 refine Qc.walk 49 func52 rfl rfl rfl fun C hC=>?_
 obtain⟨x6,a3,h⟩:=Qd h
 obtain⟨x7,a4,h⟩:=Qd h
 refine Qa hC [.n 8,.o (.co false [.d] 1 (x6.map Qb) x6.length),.frz 10 (x6.map Qb) [10] [],.o (.c false [.d] (.sl 1 (x7.map Qb))),.n 8] rfl ⟨⟨⟨tt_,⟨(Qf8 _ a3),Qi,.inl rfl⟩⟩,⟨tt_,(QeQ Qi)⟩⟩,(QgQ _ a4)⟩ ?_
 refine AK.openMapK (b:=609) Qi0 rfl fun B D L8 S a8 U=>?_
 refine Qa hC [.x (fun σ=>(σ.set 14 (.itr B D #[] none)).put 14 (.loc 14 0 0)),.n 3,.K [1,2,14] [2,14,609]] rfl ⟨tt_,(Stp.range (b:=609) rfl rfl (Qz hC.n rfl) rfl rfl Qie rfl)⟩ ?_
 obtain⟨a5,W,h⟩:=Qd h
 refine AK.range (body:=(fun st p=>QeU u st p.1 p.2)) (fun st seen σ=>∃cur:Option Nat,σ=⟨[(1,.sl 1 (st.map Qb)),(2,.loc 2 0 0),(14,.loc 14 0 0)],[(2,.var [.I u,.map 609]),(14,.itr B D seen cur),(609,.mapX B D (QaX V.I (fun x=>V.sl 1 (x.map Qb)) L8) (QE V.I (fun x=>V.sl 1 (x.map Qb)) P))]⟩) (fun (q:Empty) _ _=>False) (fun st e σ=>e=.exit 0∧σ=⟨[(1,.sl 1 (st.map Qb)),(2,.loc 2 0 0)],[(2,.var [.I u,.map 609]),(609,.mapX B D (QaX V.I (fun x=>V.sl 1 (x.map Qb)) L8) (QE V.I (fun x=>V.sl 1 (x.map Qb)) P))]⟩) S U W (ex_ _ rfl) ?_ ?_
 ·rintro g seen σ ⟨cur,rfl⟩ hex
  refine tg_ hC [.n 2] rfl ?_
  refine AK.nextT (b:=14) (m:=609) rfl rfl rfl (Qz hC.n rfl) rfl rfl rfl rfl ?_ ?_
  ·intro hleft
   refine tg_ hC [.n 7,.K [1,2] [2,609]] rfl ?_
   exact AK.done (Or.inl (an_ hleft (an_ (fun h=>(by cases h)) (an_ rfl rfl))))
  intro a9 X Y G
  obtain⟨o,h⟩:=hex _ G
  have ho:=h
  replace h:QeU u g X Y=some o:=h
  obtain⟨a6,Z,h⟩:=Qd h
  refine Qa hC [.n 10,.x (fun σ=>σ.put 17 (.tup [.I X,.sl 1 (Y.map Qb)])),.n 11,.cm (.fn) [] [] [] [.f 1,.d,.d,.d] [] (.sl 1 (a6.map Qb)),.n 3,.K [1,2,14] [2,14,609]] rfl ⟨⟨tt_,(Stp.entryT (b:=14) (m:=609) (e:=V.I) (f:=(fun x=>V.sl 1 (x.map Qb))) rfl rfl (Qz hC.n rfl) rfl G rfl rfl)⟩,(Qb8 _ _ _ _ Z)⟩ ?_
  cases h
  exact AK.done (Or.inr (ex_ _ (an_ G (Or.inl (ex_ _ (an_ ho (an_ rfl (ex_ _ rfl))))))))
 rcases a5 with(g | q)
 ·replace h:QiK P u g=some r:=h
  rintro e σ ⟨rfl,rfl⟩
  obtain⟨i,a0,h⟩:=Qd h
  refine Qa hC [.n 5,.cm (.fn) [] [] [] [.d,.d] [] (.I i),.n 10] rfl ⟨tt_,(Qdp _ a0)⟩ ?_
  refine bg_ h (fun w h=>Qa hC [.T,.n 2] rfl ⟨tt_,w⟩ ?_) fun w h=>Qa hC [.F,.n 7] rfl ⟨tt_,w⟩ ?_
  ·refine AK.closeMap (b:=609) rfl ?_
   refine tg_ hC [.K [] [609]] rfl ?_
   cases h
   refine AK.done ?_
   exact ex_ [] (an_ tt_ (Qbf ⟨rfl,tt_⟩))
  refine AK.closeMap (b:=609) rfl ?_
  refine AK.openMapK (b:=609) Qi0 rfl fun s t L18 H J M=>?_
  refine Qa hC [.x (fun σ=>(σ.set 31 (.itr s t #[] none)).put 31 (.loc 31 0 0)),.n 3,.K [1,2,6,31] [2,31,609]] rfl ⟨tt_,(Stp.range (b:=609) rfl rfl (Qz hC.n rfl) rfl rfl Qie rfl)⟩ ?_
  obtain⟨a7,a1,h⟩:=Qd h
  refine AK.range (body:=(fun st p=>QeV u g i st p.1 p.2)) (fun st seen σ=>∃(cur:Option Nat) (LU19:List (Nat×(Int×(List Int)))),QcM L18 LU19 seen∧σ=⟨[(1,.sl 1 (g.map Qb)),(2,.loc 2 0 0),(6,.I i),(31,.loc 31 0 0)],[(2,.var [.I u,.map 609]),(31,.itr s t seen cur),(609,.mapX s t (QaX V.I (fun x=>V.sl 1 (x.map Qb)) LU19) (QE V.I (fun x=>V.sl 1 (x.map Qb)) st))]⟩) (fun (q:Empty) _ _=>False) (fun st e σ=>e=.exit 2∧σ=⟨[(1,.sl 1 (g.map Qb)),(2,.loc 2 0 0),(6,.I i)],[(2,.var [.I u,.map 609]),(609,.map (QE V.I (fun x=>V.sl 1 (x.map Qb)) st))]⟩) H M a1 (ex_ _ (ex_ _ (an_ QcM.refl rfl))) ?_ ?_
  ·rintro j seen σ ⟨cur,LU19,hU19,rfl⟩ hex
   refine tg_ hC [.n 2] rfl ?_
   refine AK.nextT (b:=31) (m:=609) rfl rfl rfl (Qz hC.n rfl) rfl rfl rfl rfl ?_ ?_
   ·intro hleft
    replace hleft:=hU19.nil hleft
    refine AK.closeMap (b:=609) rfl ?_
    refine tg_ hC [.n 7,.K [1,2,6] [2,609]] rfl ?_
    exact AK.done (Or.inl (an_ hleft (an_ (fun h=>(by cases h)) (an_ rfl rfl))))
   intro b0 y O hq19z
   have z:=hU19.mem2 hq19z
   obtain⟨o,h⟩:=hex _ z
   have ho:=h
   replace h:QeV u g i j y O=some o:=h
   obtain⟨A,a2,h⟩:=Qd h
   refine Qa hC [.n 10,.x (fun σ=>σ.put 34 (.tup [.I y,.sl 1 (O.map Qb)])),.n 6,.K [1,2,6,7,8,31] [2,31,609]] rfl ⟨tt_,(Stp.entryT (b:=31) (m:=609) (e:=V.I) (f:=(fun x=>V.sl 1 (x.map Qb))) rfl rfl (Qz hC.n rfl) rfl hq19z rfl rfl)⟩ ?_
   refine AK.draw2 Qp hC mixed [.N,.N,.N,.N,.N,.N,.N,.a (.any (.sl 1 (A.map Qb)) none) none false,.m (.any ⟨[],[(609,.mapX s t (QaX V.I (fun x=>V.sl 1 (x.map Qb)) (Qjm LU19 y A)) (QE V.I (fun x=>V.sl 1 (x.map Qb)) (QcE ltI j y A)))],none⟩)] [] [] [1,2,6,31] [2,31,609] rfl rfl rfl ⟨⟨tt_,(fun σ h1 h2 _=>Stp.callSame (md:=.cm (.fn) [] [] [] [.f 1,.d,.d,.d] [] (.sl 1 (A.map Qb)) []) Qp hC h1 h2 rfl ⟨tt_,(Qb8 _ _ _ _ a2)⟩)⟩,(fun σ h1 h2=>Stp.mapUpdateX (e:=V.I) (f:=(fun x=>V.sl 1 (x.map Qb))) (L:=LU19) (l:=j) (k:=y) (v:=A) (v0:=O) ltI rfl rfl (h1 _ _ rfl) (h2 _ _ rfl) (h1 _ _ rfl) (h1 _ _ rfl) Qie Qi0 rfl (QlN.1 hq19z).1)⟩ rfl (by kernel_rfl) rfl rfl rfl ?_
   refine tg_ hC [.n 1,.K [1,2,6,31] [2,31,609]] rfl ?_
   cases h
   exact AK.done (Or.inr (ex_ _ (an_ z (Or.inl (ex_ _ (an_ ho (an_ rfl (ex_ _ (ex_ _ (an_ (QcM.upd J hU19 z) rfl))))))))))
  rcases a7 with(j | q)
  ·replace h:QiJ i g j=some r:=h
   rintro e σ ⟨rfl,rfl⟩
   refine Qa hC [.n 7,.x (fun σ=>σ.set 609 (.map (QE V.I (fun x=>V.sl 1 (x.map Qb)) (QcE ltI j i g)))),.n 1,.K [] [609]] rfl ⟨tt_,(Stp.mapUpdate (e:=V.I) (f:=(fun x=>V.sl 1 (x.map Qb))) (l:=j) (k:=i) (v:=g) ltI rfl rfl rfl rfl rfl rfl Qie Qi0 rfl)⟩ ?_
   cases h
   refine AK.done ?_
   exact ex_ [] (an_ tt_ (Qbf ⟨rfl,tt_⟩))
  exact q.elim
 exact q.elim
def QcZ (a:Int)(b:Qm):Option Bool:=
 some ((decide (a<0))||(decide ((b.Places.length:Int)≤a)))
theorem Qi2 (c d){r}(h:QcZ c d=some r):Qc prog 42 [.I c,.loc 609 0 0] [(609,.var (Qe d))] (Qh (.b r) [(609,.var (Qe d))]):=by
 refine Qc.walk 13 func42 rfl rfl rfl fun C hC=>?_
 refine tg_ hC [.n 6] rfl ?_
 refine AK.meetX (fun σ=>σ=⟨[(3,.b ((decide (c<0))||(decide ((d.Places.length:Int)≤c))))],[(609,.var (Qe d))]⟩) ?_ ?_
 ·refine tg_ hC [.n 4] rfl ?_
  rcases QQ (decide (c<0))with a | a
  ·refine Qa hC [.S 6 (.b true),.n 8,.S 3 (.b ((decide (c<0))||(decide ((d.Places.length:Int)≤c)))),.K [3] [609]] rfl ⟨(tc_ a),(congrArg V.b (orT a rfl))⟩ ?_
   exact AK.met rfl
  refine Qa hC [.S 6 (.b false),.n 3,.o (.ln d.Places.length),.n 4,.S 3 (.b ((decide (c<0))||(decide ((d.Places.length:Int)≤c)))),.K [3] [609]] rfl ⟨⟨(tc_ a),Qi⟩,(congrArg V.b (orF a rfl))⟩ ?_
  exact AK.met rfl
 rintro σ rfl
 refine tg_ hC [.n 2] rfl ?_
 cases h
 exact d1_ rfl rfl ⟨rfl,tt_⟩
def QZ (c:(List Int))(d:Qm)(a:Int):Option (Int⊕(Int⊕Unit)):=
 bif (decide (a<(c.length:Int)))then
 (idx c a).bind fun e=>
 (QcZ e d).bind fun b=>
 bif b then
 some (.inr (.inl a))
 else
 some (.inl (w64 (a+1)))
 else
 some (.inr (.inr ()))
def Qdq (a:Int):Option Int:=
 some a
def Qdr : Option Int:=
 some (-1)
def Qa8 (a:(List Int))(b:Qm):Option Int:=
 (Qw (fun st=>QZ a b st) 0).bind (Sum.elim (fun q=>Qdq q) (fun q=>Qdr))
theorem Qiv (c f){r}(h:Qa8 c f=some r):Qc prog 80 [.own 609 c.length,.clo (.func 42) [] [.loc 610 0 0]] [(609,.arr 1 (c.map Qb)),(610,.var (Qe f))] (Qh (.I r) [(609,.arr 1 (c.map Qb)),(610,.var (Qe f))]):=by
 refine Qc.walk 19 func80 rfl rfl rfl fun C hC=>?_
 refine tg_ hC [.n 14,.K [0,1,7,8] [609,610]] rfl ?_
 obtain⟨l,i,h⟩:=Qd h
 refine AK.loop (body:=(fun st=>QZ c f st)) (fun st σ=>σ=⟨[(0,.own 609 c.length),(1,.clo (.func 42) [] [.loc 610 0 0]),(7,.I (c.length:Int)),(8,.I st)],[(609,.arr 1 (c.map Qb)),(610,.var (Qe f))]⟩) (Sum.elim (fun q e σ=>e=.ret∧σ=⟨[(4,.I q)],[(609,.arr 1 (c.map Qb)),(610,.var (Qe f))]⟩) (fun q e σ=>e=.exit 0∧σ=⟨[],[(609,.arr 1 (c.map Qb)),(610,.var (Qe f))]⟩)) i rfl ?_ ?_
 ·rintro t o σ rfl h
  refine tg_ hC [.n 6] rfl ?_
  rcases Qs h with⟨g,h⟩|⟨g,h⟩
  ·obtain⟨p,j,h⟩:=Qd h
   obtain⟨m,k,h⟩:=Qd h
   refine Qa hC [.T,.n 16,.o (.row (Qb p)),.cm (.clo) [(609,610)] [(610,609)] [] [.d,.d] [(609,.var (Qe f))] (.b m),.n 2] rfl ⟨⟨⟨⟨tt_,g⟩,(Qd5 j rfl)⟩,(Qcg (Qek j).2)⟩,(Qi2 _ _ k)⟩ ?_
   refine bg_ h (fun a h=>Qa hC [.T,.n 9,.K [4] [609,610]] rfl ⟨tt_,a⟩ ?_) fun a h=>Qa hC [.F,.n 7,.K [0,1,7,8] [609,610]] rfl ⟨tt_,a⟩ ?_
   ·cases h
    exact QaN rfl (an_ rfl rfl)
   cases h
   exact QU rfl rfl
  refine Qa hC [.F,.n 2,.K [] [609,610]] rfl ⟨tt_,g⟩ ?_
  cases h
  exact QV rfl (an_ rfl rfl)
 rcases l with(s | _)
 ·replace h:Qdq s=some r:=h
  rintro e σ ⟨rfl,rfl⟩
  refine tg_ hC [.n 2] rfl ?_
  cases h
  exact d1_ rfl rfl ⟨rfl,rfl,tt_⟩
 replace h:Qdr=some r:=h
 rintro e σ ⟨rfl,rfl⟩
 refine tg_ hC [.n 8] rfl ?_
 cases h
 exact d1_ rfl rfl ⟨rfl,rfl,tt_⟩
def Qbl (a:Int)(b:Int)(c:(List Int)):Option ((Int×Int×(List Int))⊕(Int×(List Int))):=
 some (.inl (b,(w64 (a+1)),c))
def QaL (f:Qm)(c:Int)(b:Int)(a:(List Int)):Option ((Int×Int×(List Int))⊕(Int×(List Int))):=
 bif (decide (b<(a.length:Int)))then
 (idx a b).bind fun d=>
 (QcZ d f).bind fun e=>
 bif (!e)then
 (idx a c).bind fun g=>
 Qbl b (w64 (c+1)) (a.set c.toNat d)
 else
 Qbl b c a
 else
 some (.inr (c,a))
def QaM (a:Int)(b:(List Int)):Option (List Int):=
 (chk (decide (0≤a)&&decide (a.toNat≤b.length))).bind fun _=>
 (chk (decide (0≤a)&&decide (a.toNat≤(b.take a.toNat++List.replicate (b.length-a.toNat) (0:Int)).length))).bind fun _=>
 some ((b.take a.toNat++List.replicate (b.length-a.toNat) (0:Int)).take a.toNat)
def Qa5 (a:(List Int))(c:Qm):Option (List Int):=
 (Qa8 a c).bind fun b=>
 bif (b==(-1))then
 some a
 else
 (Qw (fun st=>QaL c st.1 st.2.1 st.2.2) (b,(w64 (b+1)),a)).bind (fun q=>QaM q.1 q.2)
theorem Qh0 (D m){r}(h:Qa5 D m=some r):Qc prog 41 [.own 609 D.length,.clo (.func 42) [] [.loc 610 0 0]] [(609,.arr 1 (D.map Qb)),(610,.var (Qe m))] (Qh (.own 609 r.length) [(609,.arr 1 (r.map Qb)),(610,.var (Qe m))]):=by
 refine Qc.walk 42 func41 rfl rfl rfl fun C hC=>?_
 obtain⟨N,E,h⟩:=Qd h
 refine Qa hC [.n 9,.cm (.fn) [(609,609),(610,610)] [(609,609),(610,610)] [] [.d,.d] [(609,.arr 1 (D.map Qb)),(610,.var (Qe m))] (.I N),.n 10] rfl ⟨tt_,(Qiv _ _ E)⟩ ?_
 refine bg_ h (fun u h=>Qa hC [.T,.n 8,.K [4] [609,610]] rfl ⟨tt_,u⟩ ?_) fun u h=>Qa hC [.F,.n 11,.K [0,1,5,6] [609,610]] rfl ⟨tt_,u⟩ ?_
 ·cases h
  exact d1_ rfl rfl ⟨rfl,rfl,tt_⟩
 obtain⟨G,y,h⟩:=Qd h
 refine AK.loop (body:=(fun st=>QaL m st.1 st.2.1 st.2.2)) (fun st σ=>σ=⟨[(0,.own 609 st.2.2.length),(1,.clo (.func 42) [] [.loc 610 0 0]),(5,.I st.1),(6,.I st.2.1)],[(609,.arr 1 (st.2.2.map Qb)),(610,.var (Qe m))]⟩) (fun q e σ=>e=.exit 0∧σ=⟨[(0,.own 609 q.2.length),(5,.I q.1)],[(609,.arr 1 (q.2.map Qb)),(610,.var (Qe m))]⟩) y rfl ?_ ?_
 ·rintro ⟨L,z,A⟩ o σ rfl h
  refine tg_ hC [.n 9] rfl ?_
  refine bg_ h (fun j h=>Qa hC [.T,.n 2] rfl ⟨tt_,j⟩ ?_) fun j h=>Qa hC [.F,.n 2,.K [0,5] [609,610]] rfl ⟨tt_,j⟩ ?_
  ·refine AK.meet (fun σ=>∃v:Int,∃p:(List Int),σ=⟨[(0,.own 609 p.length),(1,.clo (.func 42) [] [.loc 610 0 0]),(5,.I v),(6,.I z)],[(609,.arr 1 (p.map Qb)),(610,.var (Qe m))]⟩∧Qbl z v p=some o) ?_ ?_
   ·obtain⟨w,s,h⟩:=Qd h
    obtain⟨H,B,h⟩:=Qd h
    refine Qa hC [.n 6,.o (.row (Qb w)),.n 7,.cm (.clo) [(609,610)] [(610,609)] [] [.d,.d] [(609,.var (Qe m))] (.b H),.n 3] rfl ⟨⟨⟨tt_,(Qd5 s rfl)⟩,(Qcg (Qek s).2)⟩,(Qi2 _ _ B)⟩ ?_
    rcases Qs h with⟨k,h⟩|⟨k,h⟩
    ·obtain⟨J,t,h⟩:=Qd h
     refine Qa hC [.T,.n 6,.st (Qb J) ((A.set L.toNat w).map Qb),.n 8,.S 0 (.own 609 (A.set L.toNat w).length),.K [0,1,5,6] [609,610]] rfl ⟨⟨⟨⟨tt_,k⟩,(Qd5 t rfl)⟩,⟨(Qcg (Qek t).2),QgF rfl⟩⟩,(congrArg (fun n=>V.own 609 n) (by simp))⟩ ?_
     exact AK.met (ex_ _ (ex_ _ (an_ rfl h)))
    refine Qa hC [.F,.n 2,.K [0,1,5,6] [609,610]] rfl ⟨tt_,k⟩ ?_
    exact AK.met (ex_ _ (ex_ _ (an_ rfl h)))
   rintro σ ⟨v,p,rfl,h⟩
   refine tg_ hC [.n 5,.K [0,1,5,6] [609,610]] rfl ?_
   cases h
   exact QU rfl rfl
  cases h
  exact QV rfl (an_ rfl rfl)
 obtain⟨a,c⟩:=G
 replace h:QaM a c=some r:=h
 rintro e σ ⟨rfl,rfl⟩
 refine tg_ hC [.n 6] rfl ?_
 obtain⟨g,h⟩:=QaO h
 refine AK.clearTail (b:=609) (l:=a.toNat) (n:=c.length) rfl rfl rfl rfl rfl rfl (Qz hC.n rfl) rfl rfl Qi (Qp.es rfl) QvJ rfl rfl rfl (Bnd.val rfl (Qab (Qoc g)) rfl) (Qab (QjM g)) rfl ?_
 refine AK.denilA (b:=609) [none] rfl (QvE (f:=Qb) (x:=(0:Int)) (fun _=>rfl) rfl) ?_
 obtain⟨i,h⟩:=QaO h
 refine Qa hC [.S 0 (.own 609 (c.take a.toNat++List.replicate (c.length-a.toNat) (0:Int)).length),.S 36 (.own 609 (c.take a.toNat++List.replicate (c.length-a.toNat) (0:Int)).length),.n 6] rfl ⟨⟨tt_,(Qua (Qab (QjM g)))⟩,(Qua (Qab (QjM g)))⟩ ?_
 have M:a.toNat=((c.take a.toNat++List.replicate (c.length-a.toNat) (0:Int)).take a.toNat).length:=by rw [Qg2,Nat.min_eq_left (Qab (QjM i))]
 refine Qa hC [.x (fun σ=>(σ.set 609 (.arr 1 (((c.take a.toNat++List.replicate (c.length-a.toNat) (0:Int)).take a.toNat).map Qb))).put 41 (.own 609 a.toNat)),.S 41 (.own 609 ((c.take a.toNat++List.replicate (c.length-a.toNat) (0:Int)).take a.toNat).length),.n 4] rfl ⟨⟨tt_,(Stp.sliceO rfl rfl (Qz hC.n rfl) rfl rfl (Qp.es rfl) Bnd.no (Bnd.val rfl (Qab (Qoc i)) rfl) (Qab (QjM i)) (by simp))⟩,(Qvz (Qab (QjM i)))⟩ ?_
 cases h
 exact d1_ rfl rfl ⟨rfl,rfl,tt_⟩
def QeW (l:List Int):Option (List Int):=(chk (decide (l.length<4611686018427387904))).bind fun _=>some (QlT l)
theorem QkZ (l){r}(h:QeW l=some r):Qc prog 43 [.own 609 l.length] [(609,.arr 1 (l.map Qb))] (Qh (.tup []) [(609,.arr 1 (r.map Qb))]):=by
 obtain⟨_,a,h⟩:=Qd h
 cases h
 exact Qs3 Qui l (Qab (Qtj a))
def Qds (l:List Int):Option (List Int):=(chk (decide (l.length<4611686018427387904))).bind fun _=>some (QdH l)
theorem QjS (l){r}(h:Qds l=some r):Qc prog 44 [.own 609 l.length] [(609,.arr 1 (l.map Qb))] (Qh (.own 609 r.length) [(609,.arr 1 (r.map Qb))]):=by
 obtain⟨_,a,h⟩:=Qd h
 cases h
 exact Qs4 Qug l (Qab (Qtj a))
def Qeb (d:Qm)(b:Int)(c:(List Int)):Option ((Int×(List Int))⊕(List Int)):=
 bif (decide (b<(d.Tasks.length:Int)))then
 (idx d.Tasks b).bind fun a=>
 (chk (decide (c.length+a.Cancel.length≤4294967296))).bind fun _=>
 some (.inl ((w64 (b+1)),(c++a.Cancel)))
 else
 some (.inr c)
def Qec (d:Qm)(e:(List Int)):Option (List Int):=
 (Qa5 e d).bind fun a=>
 (QeW a).bind fun b=>
 (chk (decide (b.length=a.length))).bind fun _=>
 (Qds b).bind fun c=>
 some c
def QbP (a:Qm):Option (List Int):=
 (Qw (fun st=>Qeb a st.1 st.2) (0,([]:List Int))).bind (fun q=>Qec a q)
theorem QgR (c){r}(h:QbP c=some r):Qc prog 18 [.agg (Qe c)] [] (Qh (.own 600 r.length) [(600,.arr 1 (r.map Qb))]):=by
 refine Qc.walk 25 func18 rfl rfl rfl fun C hC=>?_
 refine Qa hC [.n 16,.o (.ln c.Tasks.length),.n 4,.adopt 3 13 1,.O 13 (.arr 1 (([]:List Int).map Qb)),.S 3 (.own 13 ([]:List Int).length),.K [1,3,7,8,9] [1,13]] rfl ⟨⟨⟨tt_,Qi⟩,rfl⟩,(congrArg (fun n=>V.own 13 n) (by simp))⟩ ?_
 obtain⟨w,i,h⟩:=Qd h
 refine AK.loop (body:=(fun st=>Qeb c st.1 st.2)) (fun st σ=>σ=⟨[(1,.loc 1 0 0),(3,.own 13 st.2.length),(7,.sl 14 (c.Tasks.map Qf)),(8,.I (c.Tasks.length:Int)),(9,.I st.1)],[(1,.var (Qe c)),(13,.arr 1 (st.2.map Qb))]⟩) (fun q e σ=>e=.exit 0∧σ=⟨[(1,.loc 1 0 0),(3,.own 13 q.length)],[(1,.var (Qe c)),(13,.arr 1 (q.map Qb))]⟩) i rfl ?_ ?_
 ·rintro ⟨x,u⟩ o σ rfl h
  refine tg_ hC [.n 6] rfl ?_
  rcases Qs h with⟨g,h⟩|⟨g,h⟩
  ·obtain⟨a,j,h⟩:=Qd h
   obtain⟨k,h⟩:=QaO h
   refine Qa hC [.T,.n 6,.o (.row (Qf a)),.v .no [] (.agg (Qf a)),.n 2,.O 5 (.var (Qf a)),.n 6,.app ((u++a.Cancel).map Qb) (u++a.Cancel).length,.n 8,.K [1,3,7,8,9] [1,13]] rfl ⟨⟨⟨⟨⟨tt_,g⟩,(QC j)⟩,rfl⟩,rfl⟩,⟨Qi,QhW k Qi,QfU,QjE Qi⟩⟩ ?_
   cases h
   exact QU rfl rfl
  refine Qa hC [.F,.n 2,.K [1,3] [1,13]] rfl ⟨tt_,g⟩ ?_
  cases h
  exact QV rfl (an_ rfl rfl)
 replace h:Qec c w=some r:=h
 rintro e σ ⟨rfl,rfl⟩
 obtain⟨l,m,h⟩:=Qd h
 obtain⟨f,p,h⟩:=Qd h
 obtain⟨b,h⟩:=QaO h
 obtain⟨s,t,h⟩:=Qd h
 refine Qa hC [.n 6,.cm (.fn) [(609,13),(610,1)] [(13,609),(1,610)] [] [.d,.d] [(609,.arr 1 (l.map Qb)),(610,.var (Qe c))] (.own 609 l.length),.n 6,.cm (.fn) [(609,13)] [(13,609)] [] [.d] [(609,.arr 1 (f.map Qb))] (.tup []),.S 3 (.own 13 f.length),.S 20 (.own 13 f.length),.S 21 (.own 13 f.length),.n 5,.cm (.fn) [(609,13)] [(13,609)] [] [.d] [(609,.arr 1 (s.map Qb))] (.own 609 s.length),.n 4,.K [2] [13],.ren 13 600] rfl ⟨⟨⟨⟨⟨⟨tt_,(Qh0 _ _ m)⟩,(QkZ _ p)⟩,(by simp [Qab b])⟩,(by simp [Qab b])⟩,(by simp [Qab b])⟩,(QjS _ t)⟩ ?_
 cases h
 exact d1_ rfl rfl ⟨rfl,tt_⟩
noncomputable def Qdt (s1:Int)(row10:(List Int))(k12:Int)(v13:(List Int)):Option ((List Int)⊕Empty):=
 (QbO s1 row10 v13 k12).bind fun x14=>
 some (.inl x14)
noncomputable def Qdu (s1:Int)(row10:(List Int))(x16:Int)(m20:(List (Int×(List Int))))(k22:Int)(v23:(List Int)):Option ((List (Int×(List Int)))⊕Empty):=
 (QbO s1 v23 row10 x16).bind fun x24=>
 some (.inl (QcE ltI m20 k22 x24))
def QgS (b:Int)(a:(List Int))(c:(List (Int×(List Int)))):Option (List (Int×(List Int))):=
 some (QcE ltI c b a)
noncomputable def QgT (m2:(List (Int×(List Int))))(s1:Int)(row10:(List Int)):Option (List (Int×(List Int))):=
 (Qb1 row10).bind fun x16=>
 bif (decide (x16<0))then
 some m2
 else
 (QgK (fun st p=>Qdu s1 row10 x16 st p.1 p.2) m2 m2).bind (Sum.elim (fun q=>QgS x16 row10 q) (fun q=>Empty.elim q))
noncomputable def QiL (s1:Int)(m2:(List (Int×(List Int))))(l3:(List Int)):Option (List (Int×(List Int))):=
 (Qcv l3).bind fun x6=>
 (Qgb x6).bind fun x7=>
 (QgK (fun st p=>Qdt s1 st p.1 p.2) x7 m2).bind (Sum.elim (fun q=>QgT m2 s1 q) (fun q=>Empty.elim q))
theorem Qk0 (u P B){r}(h:QiL u P B=some r):Qc prog 52 [.agg [.I u,.map 609],.own 610 B.length] [(609,.map (QE V.I (fun x=>V.sl 1 (x.map Qb)) P)),(610,.arr 1 (B.map Qb))] (Qh (.tup []) [(609,.map (QE V.I (fun x=>V.sl 1 (x.map Qb)) r)),(610,.arr 1 (B.map Qb))]):=by
 refine Qc.walk 49 func52 rfl rfl rfl fun C hC=>?_
 obtain⟨x6,a3,h⟩:=Qd h
 obtain⟨x7,a4,h⟩:=Qd h
 refine Qa hC [.n 8,.o (.co true [.o (B.map Qb)] 1 (x6.map Qb) x6.length),.frz 10 (x6.map Qb) [10] [],.o (.c false [.d] (.sl 1 (x7.map Qb))),.n 8] rfl ⟨⟨⟨tt_,⟨(QeR rfl),⟨(Qf8 _ a3),Qi,.inr (Que _)⟩⟩⟩,⟨tt_,(QeQ Qi)⟩⟩,(QgQ _ a4)⟩ ?_
 refine AK.openMapK (b:=609) Qi0 rfl fun D E L8 S a8 U=>?_
 refine Qa hC [.x (fun σ=>(σ.set 14 (.itr D E #[] none)).put 14 (.loc 14 0 0)),.n 3,.K [1,2,14] [2,14,609,610]] rfl ⟨tt_,(Stp.range (b:=609) rfl rfl (Qz hC.n rfl) rfl rfl Qie rfl)⟩ ?_
 obtain⟨a5,W,h⟩:=Qd h
 refine AK.range (body:=(fun st p=>Qdt u st p.1 p.2)) (fun st seen σ=>∃cur:Option Nat,σ=⟨[(1,.sl 1 (st.map Qb)),(2,.loc 2 0 0),(14,.loc 14 0 0)],[(2,.var [.I u,.map 609]),(14,.itr D E seen cur),(609,.mapX D E (QaX V.I (fun x=>V.sl 1 (x.map Qb)) L8) (QE V.I (fun x=>V.sl 1 (x.map Qb)) P)),(610,.arr 1 (B.map Qb))]⟩) (fun (q:Empty) _ _=>False) (fun st e σ=>e=.exit 0∧σ=⟨[(1,.sl 1 (st.map Qb)),(2,.loc 2 0 0)],[(2,.var [.I u,.map 609]),(609,.mapX D E (QaX V.I (fun x=>V.sl 1 (x.map Qb)) L8) (QE V.I (fun x=>V.sl 1 (x.map Qb)) P)),(610,.arr 1 (B.map Qb))]⟩) S U W (ex_ _ rfl) ?_ ?_
 ·rintro g seen σ ⟨cur,rfl⟩ hex
  refine tg_ hC [.n 2] rfl ?_
  refine AK.nextT (b:=14) (m:=609) rfl rfl rfl (Qz hC.n rfl) rfl rfl rfl rfl ?_ ?_
  ·intro hleft
   refine tg_ hC [.n 7,.K [1,2] [2,609,610]] rfl ?_
   exact AK.done (Or.inl (an_ hleft (an_ (fun h=>(by cases h)) (an_ rfl rfl))))
  intro a9 X Y G
  obtain⟨o,h⟩:=hex _ G
  have ho:=h
  replace h:Qdt u g X Y=some o:=h
  obtain⟨a6,Z,h⟩:=Qd h
  refine Qa hC [.n 10,.x (fun σ=>σ.put 17 (.tup [.I X,.sl 1 (Y.map Qb)])),.n 11,.cm (.fn) [] [] [] [.f 1,.d,.d,.d] [] (.sl 1 (a6.map Qb)),.n 3,.K [1,2,14] [2,14,609,610]] rfl ⟨⟨tt_,(Stp.entryT (b:=14) (m:=609) (e:=V.I) (f:=(fun x=>V.sl 1 (x.map Qb))) rfl rfl (Qz hC.n rfl) rfl G rfl rfl)⟩,(Qb8 _ _ _ _ Z)⟩ ?_
  cases h
  exact AK.done (Or.inr (ex_ _ (an_ G (Or.inl (ex_ _ (an_ ho (an_ rfl (ex_ _ rfl))))))))
 rcases a5 with(g | q)
 ·replace h:QgT P u g=some r:=h
  rintro e σ ⟨rfl,rfl⟩
  obtain⟨i,a0,h⟩:=Qd h
  refine Qa hC [.n 5,.cm (.fn) [] [] [] [.d,.d] [] (.I i),.n 10] rfl ⟨tt_,(Qdp _ a0)⟩ ?_
  refine bg_ h (fun w h=>Qa hC [.T,.n 2] rfl ⟨tt_,w⟩ ?_) fun w h=>Qa hC [.F,.n 7] rfl ⟨tt_,w⟩ ?_
  ·refine AK.closeMap (b:=609) rfl ?_
   refine tg_ hC [.K [] [609,610]] rfl ?_
   cases h
   refine AK.done ?_
   exact ex_ [] (an_ tt_ (Qbf ⟨rfl,rfl,tt_⟩))
  refine AK.closeMap (b:=609) rfl ?_
  refine AK.openMapK (b:=609) Qi0 rfl fun s t L18 H J M=>?_
  refine Qa hC [.x (fun σ=>(σ.set 31 (.itr s t #[] none)).put 31 (.loc 31 0 0)),.n 3,.K [1,2,6,31] [2,31,609,610]] rfl ⟨tt_,(Stp.range (b:=609) rfl rfl (Qz hC.n rfl) rfl rfl Qie rfl)⟩ ?_
  obtain⟨a7,a1,h⟩:=Qd h
  refine AK.range (body:=(fun st p=>Qdu u g i st p.1 p.2)) (fun st seen σ=>∃(cur:Option Nat) (LU19:List (Nat×(Int×(List Int)))),QcM L18 LU19 seen∧σ=⟨[(1,.sl 1 (g.map Qb)),(2,.loc 2 0 0),(6,.I i),(31,.loc 31 0 0)],[(2,.var [.I u,.map 609]),(31,.itr s t seen cur),(609,.mapX s t (QaX V.I (fun x=>V.sl 1 (x.map Qb)) LU19) (QE V.I (fun x=>V.sl 1 (x.map Qb)) st)),(610,.arr 1 (B.map Qb))]⟩) (fun (q:Empty) _ _=>False) (fun st e σ=>e=.exit 2∧σ=⟨[(1,.sl 1 (g.map Qb)),(2,.loc 2 0 0),(6,.I i)],[(2,.var [.I u,.map 609]),(609,.map (QE V.I (fun x=>V.sl 1 (x.map Qb)) st)),(610,.arr 1 (B.map Qb))]⟩) H M a1 (ex_ _ (ex_ _ (an_ QcM.refl rfl))) ?_ ?_
  ·rintro j seen σ ⟨cur,LU19,hU19,rfl⟩ hex
   refine tg_ hC [.n 2] rfl ?_
   refine AK.nextT (b:=31) (m:=609) rfl rfl rfl (Qz hC.n rfl) rfl rfl rfl rfl ?_ ?_
   ·intro hleft
    replace hleft:=hU19.nil hleft
    refine AK.closeMap (b:=609) rfl ?_
    refine tg_ hC [.n 7,.K [1,2,6] [2,609,610]] rfl ?_
    exact AK.done (Or.inl (an_ hleft (an_ (fun h=>(by cases h)) (an_ rfl rfl))))
   intro b0 y O hq19z
   have z:=hU19.mem2 hq19z
   obtain⟨o,h⟩:=hex _ z
   have ho:=h
   replace h:Qdu u g i j y O=some o:=h
   obtain⟨A,a2,h⟩:=Qd h
   refine Qa hC [.n 10,.x (fun σ=>σ.put 34 (.tup [.I y,.sl 1 (O.map Qb)])),.n 6,.K [1,2,6,7,8,31] [2,31,609,610]] rfl ⟨tt_,(Stp.entryT (b:=31) (m:=609) (e:=V.I) (f:=(fun x=>V.sl 1 (x.map Qb))) rfl rfl (Qz hC.n rfl) rfl hq19z rfl rfl)⟩ ?_
   refine AK.draw2 Qp hC mixed [.N,.N,.N,.N,.N,.N,.N,.a (.any (.sl 1 (A.map Qb)) none) none false,.m (.any ⟨[],[(609,.mapX s t (QaX V.I (fun x=>V.sl 1 (x.map Qb)) (Qjm LU19 y A)) (QE V.I (fun x=>V.sl 1 (x.map Qb)) (QcE ltI j y A)))],none⟩)] [] [] [1,2,6,31] [2,31,609,610] rfl rfl rfl ⟨⟨tt_,(fun σ h1 h2 _=>Stp.callSame (md:=.cm (.fn) [] [] [] [.f 1,.d,.d,.d] [] (.sl 1 (A.map Qb)) []) Qp hC h1 h2 rfl ⟨tt_,(Qb8 _ _ _ _ a2)⟩)⟩,(fun σ h1 h2=>Stp.mapUpdateX (e:=V.I) (f:=(fun x=>V.sl 1 (x.map Qb))) (L:=LU19) (l:=j) (k:=y) (v:=A) (v0:=O) ltI rfl rfl (h1 _ _ rfl) (h2 _ _ rfl) (h1 _ _ rfl) (h1 _ _ rfl) Qie Qi0 rfl (QlN.1 hq19z).1)⟩ rfl (by kernel_rfl) rfl rfl rfl ?_
   refine tg_ hC [.n 1,.K [1,2,6,31] [2,31,609,610]] rfl ?_
   cases h
   exact AK.done (Or.inr (ex_ _ (an_ z (Or.inl (ex_ _ (an_ ho (an_ rfl (ex_ _ (ex_ _ (an_ (QcM.upd J hU19 z) rfl))))))))))
  rcases a7 with(j | q)
  ·replace h:QgS i g j=some r:=h
   rintro e σ ⟨rfl,rfl⟩
   refine Qa hC [.n 7,.x (fun σ=>σ.set 609 (.map (QE V.I (fun x=>V.sl 1 (x.map Qb)) (QcE ltI j i g)))),.n 1,.K [] [609,610]] rfl ⟨tt_,(Stp.mapUpdate (e:=V.I) (f:=(fun x=>V.sl 1 (x.map Qb))) (l:=j) (k:=i) (v:=g) ltI rfl rfl rfl rfl rfl rfl Qie Qi0 rfl)⟩ ?_
   cases h
   refine AK.done ?_
   exact ex_ [] (an_ tt_ (Qbf ⟨rfl,rfl,tt_⟩))
  exact q.elim
 exact q.elim
noncomputable def Qeo (place3:Int)(all7:Int)(k9:Int)(v10:(List Int)):Option (Int⊕Empty):=
 (idx v10 k9).bind fun e11=>
 (idx v10 k9).bind fun e12=>
 (idx v10 place3).bind fun e13=>
 (QjH e12 e13).bind fun x14=>
 (chk (x14 != 0)).bind fun _=>
 (QjH all7 (w64 (Int.tdiv e11 x14))).bind fun x16=>
 (chk (x16 != 0)).bind fun _=>
 some (.inl (w64 ((w64 (Int.tdiv all7 x16))*(max2 (w64 (Int.tdiv e11 x14)) (w64 (0-(w64 (Int.tdiv e11 x14))))))))
noncomputable def Qep (place3:Int)(all7:Int)(l23:(List Int))(k25:Int)(v26:(List Int)):Option ((List Int)⊕Empty):=
 (idx v26 place3).bind fun e27=>
 (idx v26 k25).bind fun e28=>
 (chk (e28 != 0)).bind fun _=>
 (idx l23 k25).bind fun e30=>
 some (.inl (l23.set k25.toNat (w64 (Int.tdiv (w64 ((w64 (0-e27))*all7)) e28))))
def Qh1 (a:(List Int)):Option (List Int):=
 some a
noncomputable def Qcw (s1:Int)(place3:Int)(m2:(List (Int×(List Int))))(all7:Int):Option (List Int):=
 (chk (decide (0≤s1)&&decide (s1≤s1)&&decide (s1≤4294967296))).bind fun _=>
 (idx (List.replicate s1.toNat (0:Int)) place3).bind fun e20=>
 (QgK (fun st p=>Qep place3 all7 st p.1 p.2) ((List.replicate s1.toNat (0:Int)).set place3.toNat all7) m2).bind (Sum.elim (fun q=>Qh1 q) (fun q=>Empty.elim q))
noncomputable def QdJ (s1:Int)(m2:(List (Int×(List Int))))(place3:Int):Option (List Int):=
 (QgK (fun st p=>Qeo place3 st p.1 p.2) 1 m2).bind (Sum.elim (fun q=>Qcw s1 place3 m2 q) (fun q=>Empty.elim q))
theorem Qmk (t y g){r}(h:QdJ t y g=some r):Qc prog 53 [.agg [.I t,.map 609],.I g] [(609,.map (QE V.I (fun x=>V.sl 1 (x.map Qb)) y))] (Qh (.own 600 r.length) [(600,.arr 1 (r.map Qb)),(609,.map (QE V.I (fun x=>V.sl 1 (x.map Qb)) y))]):=by
 refine Qc.walk 75 func53 rfl rfl rfl fun C hC=>?_
 refine tg_ hC [.n 16] rfl ?_
 refine AK.openMap (b:=609) Qi0 rfl fun u v L5 H J=>?_
 refine Qa hC [.x (fun σ=>(σ.set 14 (.itr u v #[] none)).put 14 (.loc 14 0 0)),.n 3,.K [1,2,5,14] [2,14,609]] rfl ⟨tt_,(Stp.range (b:=609) rfl rfl (Qz hC.n rfl) rfl rfl Qie rfl)⟩ ?_
 obtain⟨a5,L,h⟩:=Qd h
 refine AK.range (body:=(fun st p=>Qeo g st p.1 p.2)) (fun st seen σ=>∃cur:Option Nat,σ=⟨[(1,.I g),(2,.loc 2 0 0),(5,.I st),(14,.loc 14 0 0)],[(2,.var [.I t,.map 609]),(14,.itr u v seen cur),(609,.mapX u v (QaX V.I (fun x=>V.sl 1 (x.map Qb)) L5) (QE V.I (fun x=>V.sl 1 (x.map Qb)) y))]⟩) (fun (q:Empty) _ _=>False) (fun st e σ=>e=.exit 0∧σ=⟨[(1,.I g),(2,.loc 2 0 0),(5,.I st)],[(2,.var [.I t,.map 609]),(609,.mapX u v (QaX V.I (fun x=>V.sl 1 (x.map Qb)) L5) (QE V.I (fun x=>V.sl 1 (x.map Qb)) y))]⟩) H J L (ex_ _ rfl) ?_ ?_
 ·rintro i seen σ ⟨cur,rfl⟩ hex
  refine tg_ hC [.n 2] rfl ?_
  refine AK.nextT (b:=14) (m:=609) rfl rfl rfl (Qz hC.n rfl) rfl rfl rfl rfl ?_ ?_
  ·intro hleft
   refine tg_ hC [.n 7,.K [1,2,5] [2,609]] rfl ?_
   exact AK.done (Or.inl (an_ hleft (an_ (fun h=>(by cases h)) (an_ rfl rfl))))
  intro b5 k9 M B
  obtain⟨o,h⟩:=hex _ B
  have ho:=h
  replace h:Qeo g i k9 M=some o:=h
  obtain⟨a6,O,h⟩:=Qd h
  obtain⟨a7,P,h⟩:=Qd h
  obtain⟨a8,T,h⟩:=Qd h
  obtain⟨a9,U,h⟩:=Qd h
  obtain⟨W,h⟩:=QaO h
  refine Qa hC [.n 10,.x (fun σ=>σ.put 17 (.tup [.I k9,.sl 1 (M.map Qb)])),.n 7,.K [1,2,5,6,7,14] [2,14,609]] rfl ⟨tt_,(Stp.entryT (b:=14) (m:=609) (e:=V.I) (f:=(fun x=>V.sl 1 (x.map Qb))) rfl rfl (Qz hC.n rfl) rfl B rfl rfl)⟩ ?_
  refine AK.draw2 Qp hC mixed [.N,.N,.a (.row (Qb a6)) none false,.N,.N,.N,.a (.row (Qb a7)) none false,.N,.N,.N,.a (.row (Qb a8)) none false,.N,.a (.c false [.d,.d] (.I a9)) none false,.N,.N] [] [] [1,2,5,8,14] [2,14,609] rfl rfl rfl ⟨⟨⟨⟨⟨tt_,(QC O)⟩,(QC P)⟩,(QC T)⟩,(Qjo _ _ U)⟩,(neZ W)⟩ rfl (by kernel_rfl) rfl rfl rfl ?_
  obtain⟨b0,X,h⟩:=Qd h
  obtain⟨Y,h⟩:=QaO h
  refine Qa hC [.n 5,.o (.c false [.d,.d] (.I b0)),.n 9,.K [1,2,5,14] [2,14,609]] rfl ⟨⟨tt_,(Qjo _ _ X)⟩,(neZ Y)⟩ ?_
  cases h
  exact AK.done (Or.inr (ex_ _ (an_ B (Or.inl (ex_ _ (an_ ho (an_ rfl (ex_ _ rfl))))))))
 rcases a5 with(i | q)
 ·replace h:Qcw t g y i=some r:=h
  rintro e σ ⟨rfl,rfl⟩
  obtain⟨Z,h⟩:=QaO h
  obtain⟨b1,z,h⟩:=Qd h
  refine Qa hC [.n 6,.o (.rows ((List.replicate t.toNat (0:Int)).map Qb)),.S 46 (.own 46 (List.replicate t.toNat (0:Int)).length),.n 9,.st (Qb b1) (((List.replicate t.toNat (0:Int)).set g.toNat i).map Qb),.n 7] rfl ⟨⟨⟨⟨tt_,⟨Z,QhU rfl⟩⟩,(by simp)⟩,(Qd5 z rfl)⟩,⟨(Qcg (Qek z).2),QgF rfl⟩⟩ ?_
  refine AK.closeMap (b:=609) rfl ?_
  refine AK.openMap (b:=609) Qi0 rfl fun j k L21 D E=>?_
  refine Qa hC [.x (fun σ=>(σ.set 53 (.itr j k #[] none)).put 53 (.loc 53 0 0)),.n 3,.S 9 (.own 46 ((List.replicate t.toNat (0:Int)).set g.toNat i).length),.K [1,5,9,53] [46,53,609]] rfl ⟨⟨tt_,(Stp.range (b:=609) rfl rfl (Qz hC.n rfl) rfl rfl Qie rfl)⟩,(congrArg (fun n=>V.own 46 n) (by simp))⟩ ?_
  obtain⟨b2,a0,h⟩:=Qd h
  refine AK.range (body:=(fun st p=>Qep g i st p.1 p.2)) (fun st seen σ=>∃cur:Option Nat,σ=⟨[(1,.I g),(5,.I i),(9,.own 46 st.length),(53,.loc 53 0 0)],[(46,.arr 1 (st.map Qb)),(53,.itr j k seen cur),(609,.mapX j k (QaX V.I (fun x=>V.sl 1 (x.map Qb)) L21) (QE V.I (fun x=>V.sl 1 (x.map Qb)) y))]⟩) (fun (q:Empty) _ _=>False) (fun st e σ=>e=.exit 2∧σ=⟨[(9,.own 46 st.length)],[(46,.arr 1 (st.map Qb)),(609,.mapX j k (QaX V.I (fun x=>V.sl 1 (x.map Qb)) L21) (QE V.I (fun x=>V.sl 1 (x.map Qb)) y))]⟩) D E a0 (ex_ _ rfl) ?_ ?_
  ·rintro l seen σ ⟨cur,rfl⟩ hex
   refine tg_ hC [.n 2] rfl ?_
   refine AK.nextT (b:=53) (m:=609) rfl rfl rfl (Qz hC.n rfl) rfl rfl rfl rfl ?_ ?_
   ·intro hleft
    refine tg_ hC [.n 7,.K [9] [46,609]] rfl ?_
    exact AK.done (Or.inl (an_ hleft (an_ (fun h=>(by cases h)) (an_ rfl rfl))))
   intro b4 w a1 s
   obtain⟨o,h⟩:=hex _ s
   have ho:=h
   replace h:Qep g i l w a1=some o:=h
   obtain⟨F,a2,h⟩:=Qd h
   obtain⟨G,a3,h⟩:=Qd h
   obtain⟨a4,h⟩:=QaO h
   obtain⟨b3,A,h⟩:=Qd h
   refine Qa hC [.n 10,.x (fun σ=>σ.put 56 (.tup [.I w,.sl 1 (a1.map Qb)])),.n 6,.K [1,5,9,10,11,53] [46,53,609]] rfl ⟨tt_,(Stp.entryT (b:=53) (m:=609) (e:=V.I) (f:=(fun x=>V.sl 1 (x.map Qb))) rfl rfl (Qz hC.n rfl) rfl s rfl rfl)⟩ ?_
   refine AK.draw2 Qp hC mixed [.N,.N,.N,.N,.a (.row (Qb F)) none false,.N,.N,.N,.N,.N,.N,.a (.row (Qb G)) none false,.N,.N,.N,.m (.st (Qb b3) ((l.set w.toNat (w64 (Int.tdiv (w64 ((w64 (0-F))*i)) G))).map Qb))] [] [] [1,5,9,53] [46,53,609] rfl rfl rfl ⟨⟨⟨⟨⟨tt_,(QC a2)⟩,(QC a3)⟩,(neZ a4)⟩,(Qd5 A rfl)⟩,⟨(Qcg (Qek A).2),QgF rfl⟩⟩ rfl (by kernel_rfl) rfl rfl rfl ?_
   refine Qa hC [.n 1,.S 9 (.own 46 (l.set w.toNat (w64 (Int.tdiv (w64 ((w64 (0-F))*i)) G))).length),.K [1,5,9,53] [46,53,609]] rfl ⟨tt_,(congrArg (fun n=>V.own 46 n) (by simp))⟩ ?_
   cases h
   exact AK.done (Or.inr (ex_ _ (an_ s (Or.inl (ex_ _ (an_ ho (an_ rfl (ex_ _ rfl))))))))
  rcases b2 with(l | q)
  ·replace h:Qh1 l=some r:=h
   rintro e σ ⟨rfl,rfl⟩
   refine tg_ hC [.n 9] rfl ?_
   refine AK.closeMap (b:=609) rfl ?_
   refine tg_ hC [.K [4] [46,609],.ren 46 600] rfl ?_
   cases h
   exact d1_ rfl rfl ⟨rfl,rfl,tt_⟩
  exact q.elim
 exact q.elim
def QpJ (c:Qm)(a:QLL):Option (QLL×Bool):=
 bif (decide (8<(c.Places.length:Int)))then
 some (a,true)
 else
 (Qew a).bind fun b=>
 some (a,b)
def Qk1 (a:QLL)(f:Qm)(b:Int)(c:(List (Int×(List Int)))):Option ((Int×(List (Int×(List Int))))⊕(List (Int×(List Int)))):=
 bif (decide (b<(a.length:Int)))then
 (idx a b).bind fun d=>
 (QjR (f.Places.length:Int) c d).bind fun e=>
 some (.inl ((w64 (b+1)),e))
 else
 some (.inr c)
def Qk2 (c:(List Int))(a:Qm)(b:Int)(d:(List (Int×(List Int)))):Option ((Int×(List (Int×(List Int))))⊕(List (Int×(List Int)))):=
 bif (decide (b<(c.length:Int)))then
 (idx c b).bind fun e=>
 (chk (decide (0≤(a.Places.length:Int))&&decide ((a.Places.length:Int)≤(a.Places.length:Int))&&decide ((a.Places.length:Int)≤4294967296))).bind fun _=>
 (idx (List.replicate (a.Places.length:Int).toNat (0:Int)) e).bind fun g=>
 (QiL (a.Places.length:Int) d ((List.replicate (a.Places.length:Int).toNat (0:Int)).set e.toNat 1)).bind fun f=>
 some (.inl ((w64 (b+1)),f))
 else
 some (.inr d)
def Qiw (a:Int)(b:QLL):Option ((Int×QLL)⊕QLL):=
 some (.inl ((w64 (a+1)),b))
def Qbr (e:Qm)(c:(List (Int×(List Int))))(a:Int)(b:QLL):Option ((Int×QLL)⊕QLL):=
 bif (decide (a<(e.Places.length:Int)))then
 bif (Qc3 c a).isSome then
 (chk (!(((Qc3 c a).getD ([]:(List Int)))).isEmpty)).bind fun _=>
 Qiw a b
 else
 (QdJ (e.Places.length:Int) c a).bind fun d=>
 (chk (decide (b.length+([d]:List (List Int)).length≤4294967296))).bind fun _=>
 Qiw a (b++([d]:List (List Int)))
 else
 some (.inr b)
def Qk3 (a:QLL):Option (QLL×Int):=
 some (a,0)
def Qfe (b:Qm)(a:(List (Int×(List Int)))):Option (QLL×Int):=
 (Qw (fun st=>Qbr b a st.1 st.2) (0,([]:List (List Int)))).bind (fun q=>Qk3 q)
def Qk4 (a:Qm)(b:(List (Int×(List Int)))):Option (QLL×Int):=
 (QbP a).bind fun c=>
 (Qw (fun st=>Qk2 c a st.1 st.2) (0,b)).bind (fun q=>Qfe a q)
def Qix (b:Qm)(a:QLL)(c:Bool):Option (QLL×Int):=
 bif c then
 some (([]:List (List Int)),2)
 else
 (Qw (fun st=>Qk1 a b st.1 st.2) (0,([]:(List (Int×(List Int)))))).bind (fun q=>Qk4 b q)
def Qif (a:Qm):Option (QLL×Int):=
 (QbN a).bind fun b=>
 (QpJ a b).bind (fun v=>Qix a v.1 v.2)
theorem QpK (c){r}(h:Qif c=some r):Qc prog 24 [.agg (Qe c)] [] (Qh (.tup [.sl 1 (r.1.map Qk),.I r.2]) []):=by
 refine Qc.walk 73 func24 rfl rfl rfl fun C hC=>?_
 obtain⟨x6,a2,h⟩:=Qd h
 refine Qa hC [.n 9,.v .no [] (.agg (Qe c)),.o (.co false [.d] 1 (x6.map Qk) x6.length),.n 5] rfl ⟨⟨tt_,rfl⟩,⟨(QgP _ a2),Qi,.inl rfl⟩⟩ ?_
 obtain⟨v,a3,h⟩:=Qd h
 replace h:Qix c v.1 v.2=some r:=h
 refine AK.meetX (fun σ=>σ=⟨[(1,.loc 1 0 0),(4,.sl 1 (v.1.map Qk)),(22,.b v.2)],[(1,.var (Qe c))]⟩) ?_ ?_
 ·replace h:=a3
  refine Qa hC [.n 3,.o (.ln c.Places.length),.n 2] rfl ⟨tt_,Qi⟩ ?_
  rcases Qs h with⟨p,h⟩|⟨p,h⟩
  ·refine Qa hC [.S 19 (.b true),.n 4,.frz 14 (x6.map Qk) [4] [],.K [1,4,22] [1]] rfl ⟨(tc_ p),⟨tt_,(QeQ Qi)⟩⟩ ?_
   cases h
   exact AK.met rfl
  obtain⟨a4,G,h⟩:=Qd h
  refine Qa hC [.S 19 (.b false),.n 1,.frz 14 (x6.map Qk) [4,14,20] [],.cm (.fn) [] [] [] [.d,.d] [] (.b a4),.n 2,.K [1,4,22] [1]] rfl ⟨⟨(tc_ p),⟨⟨⟨tt_,(QeQ Qi)⟩,(QeQ Qi)⟩,(QeQ Qi)⟩⟩,(Qiu _ G)⟩ ?_
  cases h
  exact AK.met rfl
 rintro σ rfl
 obtain⟨a,x8⟩:=v
 replace h:Qix c a x8=some r:=h
 refine tg_ hC [.n 1] rfl ?_
 refine bg_ h (fun s h=>Qa hC [.T,.n 8,.denil 2 [some 1],.K [2,3] []] rfl ⟨tt_,s⟩ ?_) fun s h=>Qa hC [.F,.n 6,.o (.ln c.Places.length),.n 1,.O 26 (.map (QE V.I (fun x=>V.sl 1 (x.map Qb)) ([]:(List (Int×(List Int)))))),.v .no [] (.agg [.I (c.Places.length:Int),.map 26]),.n 2,.O 5 (.var [.I (c.Places.length:Int),.map 26]),.n 6,.o (.ln a.length),.n 4,.K [1,5,28,29,30] [1,5,26]] rfl ⟨⟨⟨⟨⟨⟨tt_,s⟩,Qi⟩,rfl⟩,rfl⟩,rfl⟩,Qi⟩ ?_
 ·cases h
  exact d2_ rfl rfl rfl tt_
 obtain⟨a5,H,h⟩:=Qd h
 refine AK.loop (body:=(fun st=>Qk1 a c st.1 st.2)) (fun st σ=>σ=⟨[(1,.loc 1 0 0),(5,.loc 5 0 0),(28,.sl 1 (a.map Qk)),(29,.I (a.length:Int)),(30,.I st.1)],[(1,.var (Qe c)),(5,.var [.I (c.Places.length:Int),.map 26]),(26,.map (QE V.I (fun x=>V.sl 1 (x.map Qb)) st.2))]⟩) (fun q e σ=>e=.exit 0∧σ=⟨[(1,.loc 1 0 0),(5,.loc 5 0 0)],[(1,.var (Qe c)),(5,.var [.I (c.Places.length:Int),.map 26]),(26,.map (QE V.I (fun x=>V.sl 1 (x.map Qb)) q))]⟩) H rfl ?_ ?_
 ·rintro ⟨b0,b1⟩ o σ rfl h
  refine tg_ hC [.n 6] rfl ?_
  rcases Qs h with⟨t,h⟩|⟨t,h⟩
  ·obtain⟨a6,J,h⟩:=Qd h
   obtain⟨a7,L,h⟩:=Qd h
   refine Qa hC [.T,.n 6,.o (.row (Qk a6)),.n 7,.cm (.fn) [(609,26)] [(26,609)] [] [.d,.d] [(609,.map (QE V.I (fun x=>V.sl 1 (x.map Qb)) a7))] (.tup []),.n 7,.K [1,5,28,29,30] [1,5,26]] rfl ⟨⟨⟨tt_,t⟩,(QC J)⟩,(QmC _ _ _ L)⟩ ?_
   cases h
   exact QU rfl rfl
  refine Qa hC [.F,.n 2,.K [1,5] [1,5,26]] rfl ⟨tt_,t⟩ ?_
  cases h
  exact QV rfl (an_ rfl rfl)
 replace h:Qk4 c a5=some r:=h
 rintro e σ ⟨rfl,rfl⟩
 obtain⟨j,M,h⟩:=Qd h
 refine Qa hC [.n 5,.v .no [] (.agg (Qe c)),.o (.co false [.d] 1 (j.map Qb) j.length),.n 5,.K [5,39,40,41] [5,26,39]] rfl ⟨⟨tt_,rfl⟩,⟨(QgR _ M),Qi,.inl rfl⟩⟩ ?_
 obtain⟨g,N,h⟩:=Qd h
 refine AK.loop (body:=(fun st=>Qk2 j c st.1 st.2)) (fun st σ=>σ=⟨[(5,.loc 5 0 0),(39,.own 39 j.length),(40,.I (j.length:Int)),(41,.I st.1)],[(5,.var [.I (c.Places.length:Int),.map 26]),(26,.map (QE V.I (fun x=>V.sl 1 (x.map Qb)) st.2)),(39,.arr 1 (j.map Qb))]⟩) (fun q e σ=>e=.exit 2∧σ=⟨[(5,.loc 5 0 0)],[(5,.var [.I (c.Places.length:Int),.map 26]),(26,.map (QE V.I (fun x=>V.sl 1 (x.map Qb)) q))]⟩) N rfl ?_ ?_
 ·rintro ⟨b2,b3⟩ o σ rfl h
  refine tg_ hC [.n 6] rfl ?_
  rcases Qs h with⟨u,h⟩|⟨u,h⟩
  ·obtain⟨i,B,h⟩:=Qd h
   obtain⟨P,h⟩:=QaO h
   obtain⟨a8,D,h⟩:=Qd h
   obtain⟨a9,U,h⟩:=Qd h
   refine Qa hC [.T,.n 7,.o (.row (Qb i)),.n 7,.o (.rows ((List.replicate (c.Places.length:Int).toNat (0:Int)).map Qb)),.S 47 (.own 47 (List.replicate (c.Places.length:Int).toNat (0:Int)).length),.n 8,.st (Qb a8) (((List.replicate (c.Places.length:Int).toNat (0:Int)).set i.toNat 1).map Qb),.n 5,.S 10 (.own 47 ((List.replicate (c.Places.length:Int).toNat (0:Int)).set i.toNat 1).length),.S 47 (.own 47 ((List.replicate (c.Places.length:Int).toNat (0:Int)).set i.toNat 1).length),.S 48 (.own 47 ((List.replicate (c.Places.length:Int).toNat (0:Int)).set i.toNat 1).length),.S 52 (.own 47 ((List.replicate (c.Places.length:Int).toNat (0:Int)).set i.toNat 1).length),.cm (.fn) [(609,26),(610,47)] [(26,609),(47,610)] [] [.d,.d] [(609,.map (QE V.I (fun x=>V.sl 1 (x.map Qb)) a9)),(610,.arr 1 (((List.replicate (c.Places.length:Int).toNat (0:Int)).set i.toNat 1).map Qb))] (.tup []),.n 7,.K [5,39,40,41] [5,26,39]] rfl ⟨⟨⟨⟨⟨⟨⟨⟨⟨⟨⟨⟨tt_,u⟩,(Qd5 B rfl)⟩,(Qcg (Qek B).2)⟩,⟨P,QhU rfl⟩⟩,(by simp)⟩,(Qd5 D rfl)⟩,⟨(Qcg (Qek D).2),QgF rfl⟩⟩,(congrArg (fun n=>V.own 47 n) (by simp))⟩,(congrArg (fun n=>V.own 47 n) (by simp))⟩,(congrArg (fun n=>V.own 47 n) (by simp))⟩,(congrArg (fun n=>V.own 47 n) (by simp))⟩,(Qk0 _ _ _ U)⟩ ?_
   cases h
   exact QU rfl rfl
  refine Qa hC [.F,.n 2,.K [5] [5,26]] rfl ⟨tt_,u⟩ ?_
  cases h
  exact QV rfl (an_ rfl rfl)
 replace h:Qfe c g=some r:=h
 rintro e σ ⟨rfl,rfl⟩
 refine Qa hC [.n 16,.adopt 11 65 1,.O 65 (.arr 1 (([]:List (List Int)).map Qk)),.S 11 (.own 65 ([]:List (List Int)).length),.K [5,11,56,57] [5,26,65]] rfl ⟨⟨tt_,rfl⟩,(congrArg (fun n=>V.own 65 n) (by simp))⟩ ?_
 obtain⟨W,X,h⟩:=Qd h
 refine AK.loop (body:=(fun st=>Qbr c g st.1 st.2)) (fun st σ=>σ=⟨[(5,.loc 5 0 0),(11,.own 65 st.2.length),(56,.I (c.Places.length:Int)),(57,.I st.1)],[(5,.var [.I (c.Places.length:Int),.map 26]),(26,.map (QE V.I (fun x=>V.sl 1 (x.map Qb)) g)),(65,.arr 1 (st.2.map Qk))]⟩) (fun q e σ=>e=.exit 4∧σ=⟨[(11,.own 65 q.length)],[(65,.arr 1 (q.map Qk))]⟩) X rfl ?_ ?_
 ·rintro ⟨w,Y⟩ o σ rfl h
  refine tg_ hC [.n 6] rfl ?_
  refine bg_ h (fun y h=>Qa hC [.T,.n 2] rfl ⟨tt_,y⟩ ?_) fun y h=>Qa hC [.F,.n 2,.K [11] [65]] rfl ⟨tt_,y⟩ ?_
  ·refine AK.meet (fun σ=>∃A:QLL,σ=⟨[(5,.loc 5 0 0),(11,.own 65 A.length),(56,.I (c.Places.length:Int)),(57,.I w)],[(5,.var [.I (c.Places.length:Int),.map 26]),(26,.map (QE V.I (fun x=>V.sl 1 (x.map Qb)) g)),(65,.arr 1 (A.map Qk))]⟩∧Qiw w A=some o) ?_ ?_
   ·refine tg_ hC [.n 12] rfl ?_
    rcases Qs h with⟨E,h⟩|⟨E,h⟩
    ·obtain⟨Z,h⟩:=QaO h
     refine Qa hC [.o (.any (.sl 1 (((Qc3 g w).getD ([]:(List Int))).map Qb)) none)] rfl ⟨tt_,(fun σ h1 h2 _=>Stp.lookup (e:=V.I) (f:=(fun x=>V.sl 1 (x.map Qb))) (l:=g) (k:=w) (z:=([]:(List Int))) rfl rfl (Qz hC.n rfl) (h1 _ _ rfl) (h2 _ _ rfl) (h1 _ _ rfl) Qie Qi0 Qv8 rfl)⟩ ?_
     refine AK.eqNil rfl rfl rfl (Qz hC.n rfl) rfl rfl QtK ?_ ?_
     ·intro hz
      simp [List.map_eq_nil_iff.1 hz]at Z
     refine tg_ hC [.n 5,.K [5,11,56,57] [5,26,65]] rfl ?_
     exact AK.met (ex_ _ (an_ rfl h))
    obtain⟨m,a0,h⟩:=Qd h
    obtain⟨a1,h⟩:=QaO h
    refine Qa hC [.x (fun σ=>σ.put 63 (.lit (.slice none 0 0))),.x (fun σ=>σ.put 64 (.b true)),.n 7,.cm (.fn) [(609,26)] [(68,600),(26,609)] [] [.d,.d] [(600,.arr 1 (m.map Qb)),(609,.map (QE V.I (fun x=>V.sl 1 (x.map Qb)) g))] (.own 600 m.length),.frz 68 (m.map Qb) [68] [],.v (.bd []) [] (.sl 1 (([m]:List (List Int)).map Qk)),.app ((Y++([m]:List (List Int))).map Qk) (Y++([m]:List (List Int))).length,.n 3,.K [5,11,56,57] [5,26,65]] rfl ⟨⟨⟨⟨⟨⟨tt_,(Stp.lookupN (e:=V.I) (f:=(fun x=>V.sl 1 (x.map Qb))) (l:=g) (k:=w) rfl rfl (Qz hC.n rfl) rfl rfl rfl Qie Qi0 (by kernel_rfl) E)⟩,(Stp.eqNN rfl rfl (Qz hC.n rfl) rfl rfl QtK)⟩,(Qmk _ _ _ a0)⟩,⟨tt_,(QeQ Qi)⟩⟩,rfl⟩,⟨Qi,QhW a1 Qi,QfU,QjE Qi⟩⟩ ?_
    exact AK.met (ex_ _ (an_ rfl h))
   rintro σ ⟨A,rfl,h⟩
   refine tg_ hC [.n 4,.K [5,11,56,57] [5,26,65]] rfl ?_
   cases h
   exact QU rfl rfl
  cases h
  exact QV rfl (an_ rfl rfl)
 replace h:Qk3 W=some r:=h
 rintro e σ ⟨rfl,rfl⟩
 refine Qa hC [.n 10,.frz 65 (W.map Qk) [2] []] rfl ⟨tt_,⟨tt_,(QeQ Qi)⟩⟩ ?_
 cases h
 exact d2_ rfl rfl rfl tt_
def Qhc (d:QBg)(a:Int)(c:Int):Option ((Int×Int)⊕(Unit⊕Unit)):=
 bif (decide (c<(d.length:Int)))then
 (idx d c).bind fun b=>
 bif ((decide (b.1≤a))||((decide (b.2<1))||(decide (1048576<b.2))))then
 some (.inr (.inl ()))
 else
 some (.inl (b.1,(w64 (c+1))))
 else
 some (.inr (.inr ()))
def Qhd : Option Bool:=
 some false
def Qhe : Option Bool:=
 some true
def Qh2 (a:QBg):Option Bool:=
 (Qw (fun st=>Qhc a st.1 st.2) ((-1),0)).bind (Sum.elim (fun q=>Qhd) (fun q=>Qhe))
theorem QmD (i){r}(h:Qh2 i=some r):Qc prog 91 [.sl 2 (i.map Qaq)] [] (Qh (.b r) []):=by
 refine Qc.walk 29 func91 rfl rfl rfl fun C hC=>?_
 refine Qa hC [.n 14,.o (.ln i.length),.n 4,.K [3,6,7,8] []] rfl ⟨tt_,Qi⟩ ?_
 obtain⟨l,k,h⟩:=Qd h
 refine AK.loop (body:=(fun st=>Qhc i st.1 st.2)) (fun st σ=>σ=⟨[(3,.I st.1),(6,.sl 2 (i.map Qaq)),(7,.I (i.length:Int)),(8,.I st.2)],[]⟩) (Sum.elim (fun q e σ=>e=.ret∧σ=⟨[(2,.b false)],[]⟩) (fun q e σ=>e=.exit 0∧σ=⟨[],[]⟩)) k rfl ?_ ?_
 ·rintro ⟨a,p⟩ o σ rfl h
  refine tg_ hC [.n 6] rfl ?_
  rcases Qs h with⟨j,h⟩|⟨j,h⟩
  ·obtain⟨d,m,h⟩:=Qd h
   refine Qa hC [.T,.n 6,.o (.row (Qaq d)),.v .no [] (.agg (Qaq d)),.n 2,.O 5 (.var (Qaq d)),.n 4] rfl ⟨⟨⟨⟨tt_,j⟩,(QC m)⟩,rfl⟩,rfl⟩ ?_
   refine AK.meetX (fun σ=>σ=⟨[(5,.loc 5 0 0),(6,.sl 2 (i.map Qaq)),(7,.I (i.length:Int)),(8,.I p),(25,.b ((decide (d.1≤a))||((decide (d.2<1))||(decide (1048576<d.2)))))],[(5,.var (Qaq d))]⟩) ?_ ?_
   ·refine tg_ hC [.n 6] rfl ?_
    rcases QQ (decide (d.1≤a))with c | c
    ·refine Qa hC [.S 16 (.b true),.n 10,.S 25 (.b ((decide (d.1≤a))||((decide (d.2<1))||(decide (1048576<d.2))))),.K [5,6,7,8,25] [5]] rfl ⟨(tc_ c),(congrArg V.b (orT c rfl))⟩ ?_
     exact AK.met rfl
    refine Qa hC [.S 16 (.b false),.n 5] rfl (tc_ c) ?_
    rcases QQ (decide (d.2<1))with f | f
    ·refine Qa hC [.S 21 (.b true),.n 5,.S 25 (.b ((decide (d.1≤a))||((decide (d.2<1))||(decide (1048576<d.2))))),.K [5,6,7,8,25] [5]] rfl ⟨(tc_ f),(congrArg V.b (orF c (orT f rfl)))⟩ ?_
     exact AK.met rfl
    refine Qa hC [.S 21 (.b false),.n 5,.S 25 (.b ((decide (d.1≤a))||((decide (d.2<1))||(decide (1048576<d.2))))),.K [5,6,7,8,25] [5]] rfl ⟨(tc_ f),(congrArg V.b (orF c (orF f rfl)))⟩ ?_
    exact AK.met rfl
   rintro σ rfl
   refine tg_ hC [.n 1] rfl ?_
   refine bg_ h (fun g h=>Qa hC [.T,.n 9,.K [2] []] rfl ⟨tt_,g⟩ ?_) fun g h=>Qa hC [.F,.n 13,.K [3,6,7,8] []] rfl ⟨tt_,g⟩ ?_
   ·cases h
    exact QaN rfl (an_ rfl rfl)
   cases h
   exact QU rfl rfl
  refine Qa hC [.F,.n 2,.K [] []] rfl ⟨tt_,j⟩ ?_
  cases h
  exact QV rfl (an_ rfl rfl)
 rcases l with(_ | _)
 ·replace h:Qhd=some r:=h
  rintro e σ ⟨rfl,rfl⟩
  refine tg_ hC [.n 2] rfl ?_
  cases h
  exact d1_ rfl rfl tt_
 replace h:Qhe=some r:=h
 rintro e σ ⟨rfl,rfl⟩
 refine tg_ hC [.n 8] rfl ?_
 cases h
 exact d1_ rfl rfl tt_
def Qpz (c:QBg)(b:Int)(d:QBg):Option ((Int×QBg)⊕QBg):=
 bif (decide (b<(c.length:Int)))then
 (idx c b).bind fun a=>
 some (.inl ((w64 (b+1)),(QcE ltI d a.1 a.2)))
 else
 some (.inr d)
def QpA (a:QBg):Option (Unit⊕QBg):=
 some (.inr a)
def QsG (a:QBg):Option (Unit⊕QBg):=
 (Qh2 a).bind fun b=>
 bif (!b)then
 some (.inl ())
 else
 (Qw (fun st=>Qpz a st.1 st.2) (0,([]:QBg))).bind (fun q=>QpA q)
theorem QpB (j){r}(h:QsG j=some r):Qc prog 62 [.sl 2 (j.map Qaq)] [] ((Sum.elim (fun q=>(Qh (.tup [.lit (.map none),.b false]) [])) (fun q=>(Qh (.tup [.map 601,.b true]) [(601,.map (QE V.I V.I q))]))) r):=by
 refine Qc.walk 24 func62 rfl rfl rfl fun C hC=>?_
 obtain⟨w,s,h⟩:=Qd h
 refine Qa hC [.n 10,.o (.c false [.d] (.b w)),.n 3] rfl ⟨tt_,(QmD _ s)⟩ ?_
 refine bg_ h (fun i h=>Qa hC [.T,.n 8,.K [2,3] []] rfl ⟨tt_,i⟩ ?_) fun i h=>Qa hC [.F,.n 5,.O 10 (.map (QE V.I V.I ([]:QBg))),.n 7,.o (.ln j.length),.n 4,.K [4,11,12,13] [10]] rfl ⟨⟨⟨tt_,i⟩,rfl⟩,Qi⟩ ?_
 ·cases h
  exact AK.done (ex_ [_,_] (an_ (an_ rfl (an_ rfl tt_)) (Qbf tt_)))
 obtain⟨t,m,h⟩:=Qd h
 refine AK.loop (body:=(fun st=>Qpz j st.1 st.2)) (fun st σ=>σ=⟨[(4,.map 10),(11,.sl 2 (j.map Qaq)),(12,.I (j.length:Int)),(13,.I st.1)],[(10,.map (QE V.I V.I st.2))]⟩) (fun q e σ=>e=.exit 0∧σ=⟨[(4,.map 10)],[(10,.map (QE V.I V.I q))]⟩) m rfl ?_ ?_
 ·rintro ⟨y,u⟩ o σ rfl h
  refine tg_ hC [.n 6] rfl ?_
  rcases Qs h with⟨g,h⟩|⟨g,h⟩
  ·obtain⟨a,p,h⟩:=Qd h
   refine Qa hC [.T,.n 6,.o (.row (Qaq a)),.v .no [] (.agg (Qaq a)),.n 2,.O 6 (.var (Qaq a)),.n 8,.x (fun σ=>σ.set 10 (.map (QE V.I V.I (QcE ltI u a.1 a.2)))),.n 7,.K [4,11,12,13] [10]] rfl ⟨⟨⟨⟨⟨tt_,g⟩,(QC p)⟩,rfl⟩,rfl⟩,(Stp.mapUpdate (e:=V.I) (f:=V.I) (l:=u) (k:=a.1) (v:=a.2) ltI rfl rfl rfl rfl rfl rfl QtJ Qi0 rfl)⟩ ?_
   cases h
   exact QU rfl rfl
  refine Qa hC [.F,.n 2,.K [4] [10]] rfl ⟨tt_,g⟩ ?_
  cases h
  exact QV rfl (an_ rfl rfl)
 replace h:QpA t=some r:=h
 rintro e σ ⟨rfl,rfl⟩
 refine tg_ hC [.n 10,.K [2,3] [10],.ren 10 601,.K [2,3] [601]] rfl ?_
 cases h
 exact AK.done (ex_ [_,_] (an_ (an_ rfl (an_ rfl tt_)) (Qbf ⟨rfl,tt_⟩)))
def QmE (a:Unit):Option Int:=
 some 0
noncomputable def Qjp (n9:Int)(k11:Int)(v12:Int):Option (Int⊕Empty):=
 some (.inl (w64 (n9+v12)))
def QmF (a:Int):Option Int:=
 some a
noncomputable def QmG (a6:QBg):Option Int:=
 (QgK (fun st p=>Qjp st p.1 p.2) 0 a6).bind (Sum.elim (fun q=>QmF q) (fun q=>Empty.elim q))
def QpC (a:QBg):Option Int:=
 (QsG a).bind (Sum.elim (fun q=>QmE q) (fun q=>QmG q))
theorem Qrm (y){r}(h:QpC y=some r):Qc prog 30 [.sl 2 (y.map Qaq)] [] (Qh (.I r) []):=by
 refine Qc.walk 23 func30 rfl rfl rfl fun C hC=>?_
 obtain⟨A,i,h⟩:=Qd h
 refine tg_ hC [.n 8] rfl ?_
 rcases A with(B | u)
 ·replace h:QmE B=some r:=h
  refine Qa hC [.cm (.fn) [] [] [] [.d] [] (.tup [.lit (.map none),.b false]),.n 16,.x (fun σ=>(σ.set 14 .itr0).put 14 (.loc 14 0 0)),.n 3] rfl ⟨⟨tt_,(QpB _ i)⟩,(Stp.range0 rfl rfl (Qz hC.n rfl) rfl QtJ rfl)⟩ ?_
  refine AK.loopOnce ?_
  refine Qa hC [.n 2,.x (fun σ=>σ.put 15 (.tup [.b false])),.n 17] rfl ⟨tt_,(Stp.next0 rfl rfl (Qz hC.n rfl) rfl rfl)⟩ ?_
  cases h
  exact d1_ rfl rfl tt_
 replace h:QmG u=some r:=h
 refine Qa hC [.cm (.fn) [] [(10,601)] [] [.d] [(601,.map (QE V.I V.I u))] (.tup [.map 601,.b true]),.n 16] rfl ⟨tt_,(QpB _ i)⟩ ?_
 refine AK.openMap (b:=10) Qi0 rfl fun a c L7 j k=>?_
 refine Qa hC [.x (fun σ=>(σ.set 14 (.itr a c #[] none)).put 14 (.loc 14 0 0)),.n 3,.K [5,14] [10,14]] rfl ⟨tt_,(Stp.range (b:=10) rfl rfl (Qz hC.n rfl) rfl rfl QtJ rfl)⟩ ?_
 obtain⟨v,l,h⟩:=Qd h
 refine AK.range (body:=(fun st p=>Qjp st p.1 p.2)) (fun st seen σ=>∃cur:Option Nat,σ=⟨[(5,.I st),(14,.loc 14 0 0)],[(10,.mapX a c (QaX V.I V.I L7) (QE V.I V.I u)),(14,.itr a c seen cur)]⟩) (fun (q:Empty) _ _=>False) (fun st e σ=>e=.exit 0∧σ=⟨[(5,.I st)],[]⟩) j k l (ex_ _ rfl) ?_ ?_
 ·rintro w seen σ ⟨cur,rfl⟩ hex
  refine tg_ hC [.n 2] rfl ?_
  refine AK.nextT (b:=14) (m:=10) rfl rfl rfl (Qz hC.n rfl) rfl rfl rfl rfl ?_ ?_
  ·intro hleft
   refine tg_ hC [.n 7,.K [5] []] rfl ?_
   exact AK.done (Or.inl (an_ hleft (an_ (fun h=>(by cases h)) (an_ rfl rfl))))
  intro z s t g
  obtain⟨o,h⟩:=hex _ g
  have ho:=h
  replace h:Qjp w s t=some o:=h
  refine Qa hC [.n 10,.x (fun σ=>σ.put 17 (.tup [.I s,.I t])),.n 11,.K [5,14] [10,14]] rfl ⟨tt_,(Stp.entryT (b:=14) (m:=10) (e:=V.I) (f:=V.I) rfl rfl (Qz hC.n rfl) rfl g rfl rfl)⟩ ?_
  cases h
  exact AK.done (Or.inr (ex_ _ (an_ g (Or.inl (ex_ _ (an_ ho (an_ rfl (ex_ _ rfl))))))))
 rcases v with(w | q)
 ·replace h:QmF w=some r:=h
  rintro e σ ⟨rfl,rfl⟩
  refine tg_ hC [.n 9] rfl ?_
  cases h
  exact d1_ rfl rfl tt_
 exact q.elim
def Qex (e:QMk)(a:Int)(b:(List Int)):Option ((Int×(List Int))⊕(List Int)):=
 bif (decide (a<(e.length:Int)))then
 (idx e a).bind fun c=>
 (QpC c).bind fun d=>
 (idx b a).bind fun f=>
 some (.inl ((w64 (a+1)),(b.set a.toNat d)))
 else
 some (.inr b)
def Qey (a:(List Int)):Option (List Int):=
 some a
def QfK (a:QMk):Option (List Int):=
 (chk (decide (0≤(a.length:Int))&&decide ((a.length:Int)≤(a.length:Int))&&decide ((a.length:Int)≤4294967296))).bind fun _=>
 (Qw (fun st=>Qex a st.1 st.2) (0,(List.replicate (a.length:Int).toNat (0:Int)))).bind (fun q=>Qey q)
theorem Qjh (b){r}(h:QfK b=some r):Qc prog 35 [.sl 1 (b.map Qjn),.clo (.func 30) [] []] [] (Qh (.own 600 r.length) [(600,.arr 1 (r.map Qb))]):=by
 refine Qc.walk 26 func35 rfl rfl rfl fun C hC=>?_
 obtain⟨l,h⟩:=QaO h
 refine Qa hC [.n 8,.o (.ln b.length),.o (.rows ((List.replicate (b.length:Int).toNat (0:Int)).map Qb)),.S 10 (.own 10 (List.replicate (b.length:Int).toNat (0:Int)).length),.n 7,.o (.ln b.length),.n 4,.K [1,5,11,12,13] [10]] rfl ⟨⟨⟨⟨tt_,Qi⟩,⟨l,QhU rfl⟩⟩,(by simp)⟩,Qi⟩ ?_
 obtain⟨u,i,h⟩:=Qd h
 refine AK.loop (body:=(fun st=>Qex b st.1 st.2)) (fun st σ=>σ=⟨[(1,.clo (.func 30) [] []),(5,.own 10 st.2.length),(11,.sl 1 (b.map Qjn)),(12,.I (b.length:Int)),(13,.I st.1)],[(10,.arr 1 (st.2.map Qb))]⟩) (fun q e σ=>e=.exit 0∧σ=⟨[(5,.own 10 q.length)],[(10,.arr 1 (q.map Qb))]⟩) i rfl ?_ ?_
 ·rintro ⟨s,t⟩ o σ rfl h
  refine tg_ hC [.n 6] rfl ?_
  rcases Qs h with⟨a,h⟩|⟨a,h⟩
  ·obtain⟨m,j,h⟩:=Qd h
   obtain⟨g,k,h⟩:=Qd h
   obtain⟨p,f,h⟩:=Qd h
   refine Qa hC [.T,.n 7,.o (.row (Qjn m)),.n 10,.o (.c false [.d] (.I g)),.n 1,.st (Qb p) ((t.set s.toNat g).map Qb),.n 7,.S 5 (.own 10 (t.set s.toNat g).length),.K [1,5,11,12,13] [10]] rfl ⟨⟨⟨⟨⟨⟨tt_,a⟩,(QC j)⟩,(Qrm _ k)⟩,(Qd5 f rfl)⟩,⟨(Qcg (Qek f).2),QgF rfl⟩⟩,(congrArg (fun n=>V.own 10 n) (by simp))⟩ ?_
   cases h
   exact QU rfl rfl
  refine Qa hC [.F,.n 2,.K [5] [10]] rfl ⟨tt_,a⟩ ?_
  cases h
  exact QV rfl (an_ rfl rfl)
 replace h:Qey u=some r:=h
 rintro e σ ⟨rfl,rfl⟩
 refine tg_ hC [.n 9,.K [4] [10],.ren 10 600] rfl ?_
 cases h
 exact d1_ rfl rfl ⟨rfl,tt_⟩
def QpD (a:(List Int))(b:(List Int)):Option ((List Int)×(List Int)):=
 some (a,b)
theorem Qrn (a b){r}(h:QpD a b=some r):Qc prog 76 [.sl 1 (a.map Qb),.sl 1 (b.map Qb)] [] (Qh (.clo (.func 139) [] [.loc 2 0 0,.loc 3 0 0]) [(2,.var (Qk r.1)),(3,.var (Qk r.2))]):=by
 refine Qc.walk 6 func76 rfl rfl rfl fun C hC=>?_
 refine tg_ hC [.n 14] rfl ?_
 cases h
 exact d1_ rfl rfl ⟨rfl,rfl,tt_⟩
def QkE (a:Int)(b:Int):Option (Int×Int):=
 bif (((decide (a<0))==(decide (b<0)))&&((decide ((w64 (a+b))<0)) != (decide (a<0))))then
 some (0,6)
 else
 some ((w64 (a+b)),0)
theorem QrT (a d){r}(h:QkE a d=some r):Qc prog 140 [.I a,.I d] [] (Qh (.tup [.I r.1,.I r.2]) []):=by
 refine Qc.walk 23 func140 rfl rfl rfl fun C hC=>?_
 refine tg_ hC [.n 16] rfl ?_
 refine AK.meetX (fun σ=>σ=⟨[(6,.I (w64 (a+d))),(21,.b (((decide (a<0))==(decide (d<0)))&&((decide ((w64 (a+d))<0)) != (decide (a<0)))))],[]⟩) ?_ ?_
 ·refine tg_ hC [.n 7] rfl ?_
  rcases QQ ((decide (a<0))==(decide (d<0)))with c | c
  ·refine Qa hC [.S 15 (.b true),.n 7,.S 21 (.b (((decide (a<0))==(decide (d<0)))&&((decide ((w64 (a+d))<0)) != (decide (a<0))))),.K [6,21] []] rfl ⟨(tc_ c),(congrArg V.b (Qbh c rfl))⟩ ?_
   exact AK.met rfl
  refine Qa hC [.S 15 (.b false),.n 7,.S 21 (.b (((decide (a<0))==(decide (d<0)))&&((decide ((w64 (a+d))<0)) != (decide (a<0))))),.K [6,21] []] rfl ⟨(tc_ c),(congrArg V.b (Qdf c rfl))⟩ ?_
  exact AK.met rfl
 rintro σ rfl
 refine tg_ hC [.n 1] rfl ?_
 refine bg_ h (fun e h=>Qa hC [.T,.n 8,.K [4,5] []] rfl ⟨tt_,e⟩ ?_) fun e h=>Qa hC [.F,.n 10,.K [4,5] []] rfl ⟨tt_,e⟩ ?_
 ·cases h
  exact d2_ rfl rfl rfl tt_
 cases h
 exact d2_ rfl rfl rfl tt_
def Qke (a:Int)(b:Int):Option (Int×Int):=
 bif (((decide (a<0)) != (decide (b<0)))&&((decide ((w64 (a-b))<0)) != (decide (a<0))))then
 some (0,6)
 else
 some ((w64 (a-b)),0)
theorem Qnr (a d){r}(h:Qke a d=some r):Qc prog 141 [.I a,.I d] [] (Qh (.tup [.I r.1,.I r.2]) []):=by
 refine Qc.walk 23 func141 rfl rfl rfl fun C hC=>?_
 refine tg_ hC [.n 16] rfl ?_
 refine AK.meetX (fun σ=>σ=⟨[(6,.I (w64 (a-d))),(21,.b (((decide (a<0)) != (decide (d<0)))&&((decide ((w64 (a-d))<0)) != (decide (a<0)))))],[]⟩) ?_ ?_
 ·refine tg_ hC [.n 7] rfl ?_
  rcases QQ ((decide (a<0)) != (decide (d<0)))with c | c
  ·refine Qa hC [.S 15 (.b true),.n 7,.S 21 (.b (((decide (a<0)) != (decide (d<0)))&&((decide ((w64 (a-d))<0)) != (decide (a<0))))),.K [6,21] []] rfl ⟨(tc_ c),(congrArg V.b (Qbh c rfl))⟩ ?_
   exact AK.met rfl
  refine Qa hC [.S 15 (.b false),.n 7,.S 21 (.b (((decide (a<0)) != (decide (d<0)))&&((decide ((w64 (a-d))<0)) != (decide (a<0))))),.K [6,21] []] rfl ⟨(tc_ c),(congrArg V.b (Qdf c rfl))⟩ ?_
  exact AK.met rfl
 rintro σ rfl
 refine tg_ hC [.n 1] rfl ?_
 refine bg_ h (fun e h=>Qa hC [.T,.n 8,.K [4,5] []] rfl ⟨tt_,e⟩ ?_) fun e h=>Qa hC [.F,.n 10,.K [4,5] []] rfl ⟨tt_,e⟩ ?_
 ·cases h
  exact d2_ rfl rfl rfl tt_
 cases h
 exact d2_ rfl rfl rfl tt_
def Qh3 (a:Int):Option Int:=
 bif (decide (a<0))then
 some (IntKind.u64.wrap (0-(IntKind.u64.wrap a)))
 else
 some (IntKind.u64.wrap a)
theorem QmH (b){r}(h:Qh3 b=some r):Qc prog 206 [.I b] [] (Qh (.i .u64 r) []):=by
 refine Qc.walk 10 func206 rfl rfl rfl fun C hC=>?_
 refine tg_ hC [.n 12] rfl ?_
 refine bg_ h (fun a h=>Qa hC [.T,.n 3,.o (.any (.i .u64 (IntKind.u64.wrap b)) none),.n 6,.K [2] []] rfl ⟨⟨tt_,a⟩,(fun σ c d _=>Stp.convI rfl rfl (Qz hC.n rfl) (c _ _ rfl) QsF Qoj)⟩ ?_) fun a h=>Qa hC [.F,.n 5,.o (.any (.i .u64 (IntKind.u64.wrap b)) none),.n 4,.K [2] []] rfl ⟨⟨tt_,a⟩,(fun σ c d _=>Stp.convI rfl rfl (Qz hC.n rfl) (c _ _ rfl) QsF Qoj)⟩ ?_
 ·cases h
  exact d1_ rfl rfl tt_
 cases h
 exact d1_ rfl rfl tt_
def QeC (a:Int)(b:Int):Option (Int×Int):=
 some ((IntKind.u64.wrap ((IntKind.u64.wrap ((IntKind.u64.wrap ((Qb0 .u64 a 32)*(Qb0 .u64 b 32)))+(Qb0 .u64 (IntKind.u64.wrap ((IntKind.u64.wrap ((Qb0 .u64 a 32)*(QbI .u64 b 4294967295)))+(Qb0 .u64 (IntKind.u64.wrap ((QbI .u64 a 4294967295)*(QbI .u64 b 4294967295))) 32))) 32)))+(Qb0 .u64 (IntKind.u64.wrap ((QbI .u64 (IntKind.u64.wrap ((IntKind.u64.wrap ((Qb0 .u64 a 32)*(QbI .u64 b 4294967295)))+(Qb0 .u64 (IntKind.u64.wrap ((QbI .u64 a 4294967295)*(QbI .u64 b 4294967295))) 32))) 4294967295)+(IntKind.u64.wrap ((QbI .u64 a 4294967295)*(Qb0 .u64 b 32))))) 32))),(IntKind.u64.wrap (a*b)))
theorem Qns (b c){r}(h:QeC b c=some r):Qc prog 205 [.i .u64 b,.i .u64 c] [] (Qh (.tup [.i .u64 r.1,.i .u64 r.2]) []):=by
 refine Qc.walk 51 func205 rfl rfl rfl fun C hC=>?_
 refine Qa hC [.n 9,.o (.any (.i .u64 (QbI .u64 b 4294967295)) none),.n 6,.o (.any (.i .u64 (Qb0 .u64 b 32)) none),.n 6,.o (.any (.i .u64 (QbI .u64 c 4294967295)) none),.n 6,.o (.any (.i .u64 (Qb0 .u64 c 32)) none),.n 17,.o (.any (.i .u64 (Qb0 .u64 (IntKind.u64.wrap ((QbI .u64 b 4294967295)*(QbI .u64 c 4294967295))) 32)) none),.n 7,.o (.any (.i .u64 (QbI .u64 (IntKind.u64.wrap ((IntKind.u64.wrap ((Qb0 .u64 b 32)*(QbI .u64 c 4294967295)))+(Qb0 .u64 (IntKind.u64.wrap ((QbI .u64 b 4294967295)*(QbI .u64 c 4294967295))) 32))) 4294967295)) none),.n 6,.o (.any (.i .u64 (Qb0 .u64 (IntKind.u64.wrap ((IntKind.u64.wrap ((Qb0 .u64 b 32)*(QbI .u64 c 4294967295)))+(Qb0 .u64 (IntKind.u64.wrap ((QbI .u64 b 4294967295)*(QbI .u64 c 4294967295))) 32))) 32)) none),.n 21,.o (.any (.i .u64 (Qb0 .u64 (IntKind.u64.wrap ((QbI .u64 (IntKind.u64.wrap ((IntKind.u64.wrap ((Qb0 .u64 b 32)*(QbI .u64 c 4294967295)))+(Qb0 .u64 (IntKind.u64.wrap ((QbI .u64 b 4294967295)*(QbI .u64 c 4294967295))) 32))) 4294967295)+(IntKind.u64.wrap ((QbI .u64 b 4294967295)*(Qb0 .u64 c 32))))) 32)) none),.n 13] rfl ⟨⟨⟨⟨⟨⟨⟨⟨tt_,(fun σ a d _=>Stp.andB rfl rfl (Qz hC.n rfl) (a _ _ rfl) (a _ _ rfl))⟩,(fun σ a d _=>Stp.shr rfl rfl (Qz hC.n rfl) (a _ _ rfl) (a _ _ rfl) (by decide))⟩,(fun σ a d _=>Stp.andB rfl rfl (Qz hC.n rfl) (a _ _ rfl) (a _ _ rfl))⟩,(fun σ a d _=>Stp.shr rfl rfl (Qz hC.n rfl) (a _ _ rfl) (a _ _ rfl) (by decide))⟩,(fun σ a d _=>Stp.shr rfl rfl (Qz hC.n rfl) (a _ _ rfl) (a _ _ rfl) (by decide))⟩,(fun σ a d _=>Stp.andB rfl rfl (Qz hC.n rfl) (a _ _ rfl) (a _ _ rfl))⟩,(fun σ a d _=>Stp.shr rfl rfl (Qz hC.n rfl) (a _ _ rfl) (a _ _ rfl) (by decide))⟩,(fun σ a d _=>Stp.shr rfl rfl (Qz hC.n rfl) (a _ _ rfl) (a _ _ rfl) (by decide))⟩ ?_
 cases h
 exact d2_ rfl rfl rfl tt_
def Qc0 (b:(Int×Int))(c:Int)(d:Int)(a:Int):Option (Int×Int):=
 bif ((decide (0<b.1))||(decide (a<b.2)))then
 some (0,6)
 else
 some ((w64 (c*d)),0)
def Qhf (a:Int)(b:Int):Option (Int×Int):=
 (Qh3 a).bind fun d=>
 (Qh3 b).bind fun e=>
 (QeC d e).bind fun c=>
 bif ((decide (a<0)) != (decide (b<0)))then
 Qc0 c a b (IntKind.u64.wrap (9223372036854775807+1))
 else
 Qc0 c a b 9223372036854775807
theorem Qo1 (k l){r}(h:Qhf k l=some r):Qc prog 142 [.I k,.I l] [] (Qh (.tup [.I r.1,.I r.2]) []):=by
 refine Qc.walk 34 func142 rfl rfl rfl fun C hC=>?_
 obtain⟨s,m,h⟩:=Qd h
 obtain⟨t,p,h⟩:=Qd h
 obtain⟨f,q,h⟩:=Qd h
 refine Qa hC [.n 9,.o (.c false [.d] (.i .u64 s)),.n 1,.o (.c false [.d] (.i .u64 t)),.o (.c false [.d,.d] (.tup [.i .u64 f.1,.i .u64 f.2])),.n 12] rfl ⟨⟨⟨tt_,(QmH _ m)⟩,(QmH _ p)⟩,(Qns _ _ q)⟩ ?_
 refine AK.meet (fun σ=>∃a:Int,σ=⟨[(0,.I k),(1,.I l),(6,.i .u64 f.1),(7,.i .u64 f.2),(8,.i .u64 a)],[]⟩∧Qc0 f k l a=some r) ?_ ?_
 ·refine tg_ hC [.n 9] rfl ?_
  refine bg_ h (fun g h=>Qa hC [.T,.n 5,.K [0,1,6,7,8] []] rfl ⟨tt_,g⟩ ?_) fun g h=>Qa hC [.F,.n 1,.K [0,1,6,7,8] []] rfl ⟨tt_,g⟩ ?_
  ·exact AK.met (ex_ _ (an_ rfl h))
  exact AK.met (ex_ _ (an_ rfl h))
 rintro σ ⟨a,rfl,h⟩
 refine tg_ hC [.n 2] rfl ?_
 refine AK.meetX (fun σ=>σ=⟨[(0,.I k),(1,.I l),(30,.b ((decide (0<f.1))||(decide (a<f.2))))],[]⟩) ?_ ?_
 ·refine tg_ hC [.n 4] rfl ?_
  rcases QQ (decide (0<f.1))with e | e
  ·refine Qa hC [.S 26 (.b true),.n 5,.S 30 (.b ((decide (0<f.1))||(decide (a<f.2)))),.K [0,1,30] []] rfl ⟨(tc_ e),(congrArg V.b (orT e rfl))⟩ ?_
   exact AK.met rfl
  refine Qa hC [.S 26 (.b false),.n 5,.S 30 (.b ((decide (0<f.1))||(decide (a<f.2)))),.K [0,1,30] []] rfl ⟨(tc_ e),(congrArg V.b (orF e rfl))⟩ ?_
  exact AK.met rfl
 rintro σ rfl
 refine tg_ hC [.n 1] rfl ?_
 refine bg_ h (fun j h=>Qa hC [.T,.n 8,.K [4,5] []] rfl ⟨tt_,j⟩ ?_) fun j h=>Qa hC [.F,.n 12,.K [4,5] []] rfl ⟨tt_,j⟩ ?_
 ·cases h
  exact d2_ rfl rfl rfl tt_
 cases h
 exact d2_ rfl rfl rfl tt_
def Qi3 (b:Int)(a:Int):Option (Int×Int×Int):=
 bif (a==0)then
 some (0,0,7)
 else
 bif ((b==(-9223372036854775808))&&(a==(-1)))then
 some (0,0,6)
 else
 (chk (a != 0)).bind fun _=>
 (chk (a != 0)).bind fun _=>
 some ((w64 (Int.tdiv b a)),(Int.tmod b a),0)
theorem QjT (d f){r}(h:Qi3 d f=some r):Qc prog 143 [.I d,.I f] [] (Qh (.tup [.I r.1,.I r.2.1,.I r.2.2]) []):=by
 refine Qc.walk 23 func143 rfl rfl rfl fun C hC=>?_
 refine tg_ hC [.n 16] rfl ?_
 refine bg_ h (fun e h=>Qa hC [.T,.n 10,.K [4,5,6] []] rfl ⟨tt_,e⟩ ?_) fun e h=>Qa hC [.F,.n 1] rfl ⟨tt_,e⟩ ?_
 ·cases h
  exact AK.done (ex_ [_,_,_] (an_ (an_ rfl (an_ rfl (an_ rfl tt_))) (Qbf tt_)))
 refine AK.meetX (fun σ=>σ=⟨[(0,.I d),(1,.I f),(10,.b ((d==(-9223372036854775808))&&(f==(-1))))],[]⟩) ?_ ?_
 ·refine tg_ hC [.n 4] rfl ?_
  rcases QQ (d==(-9223372036854775808))with a | a
  ·refine Qa hC [.S 13 (.b true),.n 5,.S 10 (.b ((d==(-9223372036854775808))&&(f==(-1)))),.K [0,1,10] []] rfl ⟨(tc_ a),(congrArg V.b (Qbh a rfl))⟩ ?_
   exact AK.met rfl
  refine Qa hC [.S 13 (.b false),.n 5,.S 10 (.b ((d==(-9223372036854775808))&&(f==(-1)))),.K [0,1,10] []] rfl ⟨(tc_ a),(congrArg V.b (Qdf a rfl))⟩ ?_
  exact AK.met rfl
 rintro σ rfl
 refine tg_ hC [.n 1] rfl ?_
 rcases Qs h with⟨c,h⟩|⟨c,h⟩
 ·refine Qa hC [.T,.n 10,.K [4,5,6] []] rfl ⟨tt_,c⟩ ?_
  cases h
  exact AK.done (ex_ [_,_,_] (an_ (an_ rfl (an_ rfl (an_ rfl tt_))) (Qbf tt_)))
 obtain⟨g,h⟩:=QaO h
 obtain⟨i,h⟩:=QaO h
 refine Qa hC [.F,.n 4,.K [0,1] []] rfl ⟨tt_,c⟩ ?_
 refine AK.draw2 Qp hC mixed [.N,.N,.N,.N,.N,.N,.N,.N,.N] [] [] [4,5,6] [] rfl rfl rfl ⟨⟨tt_,(neZ g)⟩,(neZ i)⟩ rfl (by kernel_rfl) rfl rfl rfl ?_
 refine tg_ hC [.n 2,.K [4,5,6] []] rfl ?_
 cases h
 exact AK.done (ex_ [_,_,_] (an_ (an_ rfl (an_ rfl (an_ rfl tt_))) (Qbf tt_)))
def Qc6 (a:Bool):Option (Int×Int):=
 bif a then
 some (1,0)
 else
 some (0,0)
theorem QbW (c){r}(h:Qc6 c=some r):Qc prog 144 [.b c] [] (Qh (.tup [.I r.1,.I r.2]) []):=by
 refine Qc.walk 5 func144 rfl rfl rfl fun C hC=>?_
 refine tg_ hC [.n 12] rfl ?_
 refine bg_ h (fun a h=>Qa hC [.T,.n 8,.K [2,3] []] rfl ⟨tt_,a⟩ ?_) fun a h=>Qa hC [.F,.n 9,.K [2,3] []] rfl ⟨tt_,a⟩ ?_
 ·cases h
  exact d2_ rfl rfl rfl tt_
 cases h
 exact d2_ rfl rfl rfl tt_
def QsH (c:Int)(d:Int):Option (Int×Int):=
 bif (c != 0)then
 (Qc6 (d != 0)).bind fun a=>
 some (a.1,a.2)
 else
 (Qc6 false).bind fun b=>
 some (b.1,b.2)
def Qk5 (a:Int)(b:Int):Option (Int×Int):=
 some (a,b)
def QsI (c:Int)(d:Int):Option (Int×Int):=
 bif (c != 0)then
 (Qc6 true).bind fun a=>
 some (a.1,a.2)
 else
 (Qc6 (d != 0)).bind fun b=>
 some (b.1,b.2)
def Qk6 (a:Int)(b:Int):Option (Int×Int):=
 some (a,b)
def Qed (op1:Int)(a:Int)(b:Int):Option (Int×Int):=
 bif (op1==1)then
 (QkE a b).bind fun k=>
 some (k.1,k.2)
 else
 bif (op1==2)then
 (Qke a b).bind fun c=>
 some (c.1,c.2)
 else
 bif (op1==3)then
 (Qhf a b).bind fun d=>
 some (d.1,d.2)
 else
 bif (op1==4)then
 (Qi3 a b).bind fun e=>
 some (e.1,e.2.2)
 else
 bif (op1==5)then
 (Qi3 a b).bind fun f=>
 some (f.2.1,f.2.2)
 else
 bif (op1==6)then
 (Qc6 (a==b)).bind fun g=>
 some (g.1,g.2)
 else
 bif (op1==7)then
 (Qc6 (a != b)).bind fun h=>
 some (h.1,h.2)
 else
 bif (op1==8)then
 (Qc6 (decide (a<b))).bind fun i=>
 some (i.1,i.2)
 else
 bif (op1==9)then
 (Qc6 (decide (a≤b))).bind fun j=>
 some (j.1,j.2)
 else
 bif (op1==10)then
 (QsH a b).bind (fun v=>Qk5 v.1 v.2)
 else
 bif (op1==11)then
 (QsI a b).bind (fun v=>Qk6 v.1 v.2)
 else
 some (0,1)
theorem Qok (op1 a2 b3){r}(h:Qed op1 a2 b3=some r):Qc prog 77 [.I op1,.I a2,.I b3] [] (Qh (.tup [.I r.1,.I r.2]) []):=by
 refine Qc.walk 112 func77 rfl rfl rfl fun C hC=>?_
 refine tg_ hC [.n 19] rfl ?_
 rcases Qs h with⟨t,h⟩|⟨t,h⟩
 ·obtain⟨x9,a5,h⟩:=Qd h
  refine Qa hC [.T,.n 4,.o (.c false [.d,.d] (.tup [.I x9.1,.I x9.2])),.n 9] rfl ⟨⟨tt_,t⟩,(QrT _ _ a5)⟩ ?_
  cases h
  exact d2_ rfl rfl rfl tt_
 refine Qa hC [.F,.n 6] rfl ⟨tt_,t⟩ ?_
 rcases Qs h with⟨a,h⟩|⟨a,h⟩
 ·obtain⟨x,y,h⟩:=Qd h
  refine Qa hC [.T,.n 4,.o (.c false [.d,.d] (.tup [.I x.1,.I x.2])),.n 9] rfl ⟨⟨tt_,a⟩,(Qnr _ _ y)⟩ ?_
  cases h
  exact d2_ rfl rfl rfl tt_
 refine Qa hC [.F,.n 6] rfl ⟨tt_,a⟩ ?_
 rcases Qs h with⟨e,h⟩|⟨e,h⟩
 ·obtain⟨z,A,h⟩:=Qd h
  refine Qa hC [.T,.n 4,.o (.c false [.d,.d] (.tup [.I z.1,.I z.2])),.n 9] rfl ⟨⟨tt_,e⟩,(Qo1 _ _ A)⟩ ?_
  cases h
  exact d2_ rfl rfl rfl tt_
 refine Qa hC [.F,.n 6] rfl ⟨tt_,e⟩ ?_
 rcases Qs h with⟨f,h⟩|⟨f,h⟩
 ·obtain⟨u,B,h⟩:=Qd h
  refine Qa hC [.T,.n 4,.o (.c false [.d,.d] (.tup [.I u.1,.I u.2.1,.I u.2.2])),.n 20] rfl ⟨⟨tt_,f⟩,(QjT _ _ B)⟩ ?_
  cases h
  exact d2_ rfl rfl rfl tt_
 refine Qa hC [.F,.n 6] rfl ⟨tt_,f⟩ ?_
 rcases Qs h with⟨g,h⟩|⟨g,h⟩
 ·obtain⟨w,D,h⟩:=Qd h
  refine Qa hC [.T,.n 4,.o (.c false [.d,.d] (.tup [.I w.1,.I w.2.1,.I w.2.2])),.n 20] rfl ⟨⟨tt_,g⟩,(QjT _ _ D)⟩ ?_
  cases h
  exact d2_ rfl rfl rfl tt_
 refine Qa hC [.F,.n 6] rfl ⟨tt_,g⟩ ?_
 rcases Qs h with⟨i,h⟩|⟨i,h⟩
 ·obtain⟨E,G,h⟩:=Qd h
  refine Qa hC [.T,.n 5,.o (.c false [.d] (.tup [.I E.1,.I E.2])),.n 9] rfl ⟨⟨tt_,i⟩,(QbW _ G)⟩ ?_
  cases h
  exact d2_ rfl rfl rfl tt_
 refine Qa hC [.F,.n 6] rfl ⟨tt_,i⟩ ?_
 rcases Qs h with⟨j,h⟩|⟨j,h⟩
 ·obtain⟨H,J,h⟩:=Qd h
  refine Qa hC [.T,.n 5,.o (.c false [.d] (.tup [.I H.1,.I H.2])),.n 9] rfl ⟨⟨tt_,j⟩,(QbW _ J)⟩ ?_
  cases h
  exact d2_ rfl rfl rfl tt_
 refine Qa hC [.F,.n 6] rfl ⟨tt_,j⟩ ?_
 rcases Qs h with⟨k,h⟩|⟨k,h⟩
 ·obtain⟨L,M,h⟩:=Qd h
  refine Qa hC [.T,.n 5,.o (.c false [.d] (.tup [.I L.1,.I L.2])),.n 9] rfl ⟨⟨tt_,k⟩,(QbW _ M)⟩ ?_
  cases h
  exact d2_ rfl rfl rfl tt_
 refine Qa hC [.F,.n 6] rfl ⟨tt_,k⟩ ?_
 rcases Qs h with⟨l,h⟩|⟨l,h⟩
 ·obtain⟨N,O,h⟩:=Qd h
  refine Qa hC [.T,.n 5,.o (.c false [.d] (.tup [.I N.1,.I N.2])),.n 9] rfl ⟨⟨tt_,l⟩,(QbW _ O)⟩ ?_
  cases h
  exact d2_ rfl rfl rfl tt_
 refine Qa hC [.F,.n 6] rfl ⟨tt_,l⟩ ?_
 refine bg_ h (fun m h=>Qa hC [.T,.n 1] rfl ⟨tt_,m⟩ ?_) fun m h=>Qa hC [.F,.n 6] rfl ⟨tt_,m⟩ ?_
 ·obtain⟨v,P,h⟩:=Qd h
  replace h:Qk5 v.1 v.2=some r:=h
  refine AK.meetX (fun σ=>σ=⟨[(6,.I v.1),(7,.I v.2)],[]⟩) ?_ ?_
  ·replace h:=P
   refine tg_ hC [.n 4] rfl ?_
   rcases Qs h with⟨p,h⟩|⟨p,h⟩
   ·obtain⟨U,W,h⟩:=Qd h
    refine Qa hC [.S 94 (.b true),.n 3,.o (.c false [.d] (.tup [.I U.1,.I U.2])),.n 5,.K [6,7] []] rfl ⟨(tc_ p),(QbW _ W)⟩ ?_
    cases h
    exact AK.met rfl
   obtain⟨X,Y,h⟩:=Qd h
   refine Qa hC [.S 94 (.b false),.n 3,.o (.c false [.d] (.tup [.I X.1,.I X.2])),.n 5,.K [6,7] []] rfl ⟨(tc_ p),(QbW _ Y)⟩ ?_
   cases h
   exact AK.met rfl
  rintro σ rfl
  obtain⟨a6,a7⟩:=v
  replace h:Qk5 a6 a7=some r:=h
  refine tg_ hC [.n 4] rfl ?_
  cases h
  exact d2_ rfl rfl rfl tt_
 refine bg_ h (fun q h=>Qa hC [.T,.n 1] rfl ⟨tt_,q⟩ ?_) fun q h=>Qa hC [.F,.n 10,.K [6,7] []] rfl ⟨tt_,q⟩ ?_
 ·obtain⟨v,Z,h⟩:=Qd h
  replace h:Qk6 v.1 v.2=some r:=h
  refine AK.meetX (fun σ=>σ=⟨[(6,.I v.1),(7,.I v.2)],[]⟩) ?_ ?_
  ·replace h:=Z
   refine tg_ hC [.n 4] rfl ?_
   rcases Qs h with⟨s,h⟩|⟨s,h⟩
   ·obtain⟨a0,a1,h⟩:=Qd h
    refine Qa hC [.S 105 (.b true),.n 3,.o (.c false [.d] (.tup [.I a0.1,.I a0.2])),.n 5,.K [6,7] []] rfl ⟨(tc_ s),(QbW _ a1)⟩ ?_
    cases h
    exact AK.met rfl
   obtain⟨a3,a4,h⟩:=Qd h
   refine Qa hC [.S 105 (.b false),.n 3,.o (.c false [.d] (.tup [.I a3.1,.I a3.2])),.n 5,.K [6,7] []] rfl ⟨(tc_ s),(QbW _ a4)⟩ ?_
   cases h
   exact AK.met rfl
  rintro σ rfl
  obtain⟨a8,a9⟩:=v
  replace h:Qk6 a8 a9=some r:=h
  refine tg_ hC [.n 4] rfl ?_
  cases h
  exact d2_ rfl rfl rfl tt_
 cases h
 exact d2_ rfl rfl rfl tt_
def QdU (b:Int)(a:Int):Option ((Int×Int)⊕Int):=
 bif (a != 0)then
 some (.inl (0,a))
 else
 some (.inr b)
def Qc7 (g:Int)(h:Int)(f:Int)(e:Qen):Option ((Int×Int)⊕Int):=
 (Qed 3 e.a e.b).bind fun d=>
 bif (d.2==0)then
 (Qed 1 f d.1).bind fun c=>
 QdU c.1 c.2
 else
 QdU d.1 d.2
theorem QhH (lpl lpf:Nat)(j:Int)(k:Int)(l:Int)(p:Qen){r:((Int×Int)⊕Int)}(h:Qc7 j k l p=some r):Qmy prog lpl (Qa3 lpf) (QwE (.loc 610 0 0) (.loc 611 0 0) (.loc 612 0 0) (.agg (Qf7 p))) [(609,.lp lpl (Qa3 lpf) (QeS (.loc 610 0 0) (.loc 611 0 0) (.loc 612 0 0)) 0),(610,.var (Qb j)),(611,.var (Qb k)),(612,.var (Qb l))] ((Sum.elim (fun q=>(Qh (.b false) [(609,.lp lpl (Qa3 lpf) (QeS (.loc 610 0 0) (.loc 611 0 0) (.loc 612 0 0)) 2),(610,.var (Qb q.1)),(611,.var (Qb q.2)),(612,.var (Qb l))])) (fun q=>(Qh (.b true) [(609,.lp lpl (Qa3 lpf) (QeS (.loc 610 0 0) (.loc 611 0 0) (.loc 612 0 0)) 0),(610,.var (Qb j)),(611,.var (Qb k)),(612,.var (Qb q))]))) r):=by
 refine Qmy.walk (b:=609) 35 rfl rfl fun C hC=>?_
 refine Qa hC [.n 3,.O 7 (.var (Qf7 p)),.n 1] rfl ⟨tt_,rfl⟩ ?_
 refine AK.done (an_ rfl (ex_ _ (an_ rfl ?_)))
 obtain⟨t,s,h⟩:=Qd h
 refine Qa hC [.n 7,.o (.c false [.d,.d,.d] (.tup [.I t.1,.I t.2])),.n 7] rfl ⟨tt_,(Qok _ _ _ s)⟩ ?_
 refine AK.meet (fun σ=>∃m:Int,∃a:Int,σ=⟨[(4,.loc 610 0 0),(5,.loc 611 0 0),(6,.loc 612 0 0),(8,.I m),(9,.I a)],[(609,.lp lpl (Qa3 lpf) (QeS (.loc 610 0 0) (.loc 611 0 0) (.loc 612 0 0)) 1),(610,.var (Qb j)),(611,.var (Qb k)),(612,.var (Qb l))]⟩∧QdU m a=some r) ?_ ?_
 ·refine tg_ hC [.n 6] rfl ?_
  rcases Qs h with⟨e,h⟩|⟨e,h⟩
  ·obtain⟨g,i,h⟩:=Qd h
   refine Qa hC [.T,.n 3,.o (.c false [.d,.d,.d] (.tup [.I g.1,.I g.2])),.n 6,.K [4,5,6,8,9] [609,610,611,612]] rfl ⟨⟨tt_,e⟩,(Qok _ _ _ i)⟩ ?_
   exact AK.met (ex_ _ (ex_ _ (an_ rfl h)))
  refine Qa hC [.F,.n 1,.K [4,5,6,8,9] [609,610,611,612]] rfl ⟨tt_,e⟩ ?_
  exact AK.met (ex_ _ (ex_ _ (an_ rfl h)))
 rintro σ ⟨m,a,rfl,h⟩
 refine tg_ hC [.n 7] rfl ?_
 refine bg_ h (fun f h=>Qa hC [.T,.n 4,.O 610 (.var (Qb 0)),.n 1,.O 611 (.var (Qb a)),.n 5,.K [] [609,610,611,612]] rfl ⟨⟨⟨tt_,f⟩,rfl⟩,rfl⟩ ?_) fun f h=>Qa hC [.F,.n 5,.O 612 (.var (Qb m)),.n 2,.K [] [609,610,611,612]] rfl ⟨⟨tt_,f⟩,rfl⟩ ?_
 ·cases h
  refine AK.done ?_
  exact ex_ _ (an_ rfl (Qbf ⟨rfl,rfl,rfl,rfl,tt_⟩))
 cases h
 refine AK.done ?_
 exact ex_ _ (an_ rfl (Qbf ⟨rfl,rfl,rfl,rfl,tt_⟩))
def Qk7 (b:Int)(a:(Int×Int)):Option ((Int×Int)⊕((Int×Int×Int)⊕Int)):=
 some (.inr (.inl (a.1,a.2,b)))
def Qff (a:Int)(b:Int):Option ((Int×Int)⊕((Int×Int×Int)⊕Int)):=
 some (.inl ((w64 (a+1)),b))
def Qbs (f:(List Int))(g:(List Int))(h:Int)(i:Int)(a:Int)(b:Int):Option ((Int×Int)⊕((Int×Int×Int)⊕Int)):=
 bif (decide (a<(min2 (f.length:Int) (g.length:Int))))then
 (idx f a).bind fun c=>
 (idx g a).bind fun d=>
 (Qc7 h i b (Qen.mk c d)).bind fun e=>
 (Sum.elim (fun q=>Qk7 b q) (fun q=>Qff a q)) e
 else
 some (.inr (.inr b))
def Qiy (a:Int)(b:Int)(c:Int):Option ((Int×Int×Int)⊕Int):=
 some (.inl (a,b,c))
def Qiz (a:Int):Option ((Int×Int×Int)⊕Int):=
 some (.inr a)
def QfL (a:Int)(b:Int)(c:Int)(d:(List Int))(e:(List Int)):Option ((Int×Int×Int)⊕Int):=
 (Qw (fun st=>Qbs d e a b st.1 st.2) (0,c)).bind (Sum.elim (fun q=>Qiy q.1 q.2.1 q.2.2) (fun q=>Qiz q))
theorem Qk8 (lpl lpf:Nat)(k:Int)(l:Int)(P:Int)(i:(List Int))(j:(List Int)){r:((Int×Int×Int)⊕Int)}(h:QfL k l P i j=some r):Qc prog 139 [.clo (.yield lpl) [] [],.loc 613 0 0,.loc 614 0 0] [(609,.lp lpl (Qa3 lpf) (QeS (.loc 610 0 0) (.loc 611 0 0) (.loc 612 0 0)) 0),(610,.var (Qb k)),(611,.var (Qb l)),(612,.var (Qb P)),(613,.var (Qk i)),(614,.var (Qk j))] ((Sum.elim (fun q=>(Qh (.tup []) [(609,.lp lpl (Qa3 lpf) (QeS (.loc 610 0 0) (.loc 611 0 0) (.loc 612 0 0)) 2),(610,.var (Qb q.1)),(611,.var (Qb q.2.1)),(612,.var (Qb q.2.2)),(613,.var (Qk i)),(614,.var (Qk j))])) (fun q=>(Qh (.tup []) [(609,.lp lpl (Qa3 lpf) (QeS (.loc 610 0 0) (.loc 611 0 0) (.loc 612 0 0)) 0),(610,.var (Qb k)),(611,.var (Qb l)),(612,.var (Qb q)),(613,.var (Qk i)),(614,.var (Qk j))]))) r):=by
 refine Qc.walk 26 func139 rfl rfl rfl fun C hC=>?_
 refine Qa hC [.n 3,.o (.ln i.length),.n 1,.o (.ln j.length),.n 5,.K [0,1,2,9,10] [609,610,611,612,613,614]] rfl ⟨⟨tt_,Qi⟩,Qi⟩ ?_
 obtain⟨B,y,h⟩:=Qd h
 refine AK.loop (body:=(fun st=>Qbs i j k l st.1 st.2)) (fun st σ=>σ=⟨[(0,.clo (.yield lpl) [] []),(1,.loc 613 0 0),(2,.loc 614 0 0),(9,.I (min2 (i.length:Int) (j.length:Int))),(10,.I st.1)],[(609,.lp lpl (Qa3 lpf) (QeS (.loc 610 0 0) (.loc 611 0 0) (.loc 612 0 0)) 0),(610,.var (Qb k)),(611,.var (Qb l)),(612,.var (Qb st.2)),(613,.var (Qk i)),(614,.var (Qk j))]⟩) (Sum.elim (fun q e σ=>e=.ret∧σ=⟨[],[(609,.lp lpl (Qa3 lpf) (QeS (.loc 610 0 0) (.loc 611 0 0) (.loc 612 0 0)) 2),(610,.var (Qb q.1)),(611,.var (Qb q.2.1)),(612,.var (Qb q.2.2)),(613,.var (Qk i)),(614,.var (Qk j))]⟩) (fun q e σ=>e=.exit 0∧σ=⟨[],[(609,.lp lpl (Qa3 lpf) (QeS (.loc 610 0 0) (.loc 611 0 0) (.loc 612 0 0)) 0),(610,.var (Qb k)),(611,.var (Qb l)),(612,.var (Qb q)),(613,.var (Qk i)),(614,.var (Qk j))]⟩)) y rfl ?_ ?_
 ·rintro ⟨D,p⟩ o σ rfl h
  refine tg_ hC [.n 6] rfl ?_
  refine bg_ h (fun f h=>Qa hC [.T,.n 11] rfl ⟨tt_,f⟩ ?_) fun f h=>Qa hC [.F,.n 2,.K [] [609,610,611,612,613,614]] rfl ⟨tt_,f⟩ ?_
  ·obtain⟨s,v,h⟩:=Qd h
   obtain⟨t,w,h⟩:=Qd h
   obtain⟨E,x,h⟩:=Qd h
   rcases E with(c | u)
   ·replace h:Qk7 p c=some o:=h
    refine tg_ hC [.K [0,1,2,4,9,10] [609,610,611,612,613,614]] rfl ?_
    refine AK.draw2 Qp hC mixed [.N,.N,.N,.a (.row (Qb s)) none false,.N,.N,.N,.a (.row (Qb t)) none false,.N,.a .no (some ([],.agg (Qf7 (Qen.mk s t)))) false,.m (.any ⟨[],[(609,.lp lpl (Qa3 lpf) (QeS (.loc 610 0 0) (.loc 611 0 0) (.loc 612 0 0)) 2),(610,.var (Qb c.1)),(611,.var (Qb c.2)),(612,.var (Qb p))],some (23,.b false)⟩),.N] [] [] [0,1,2,9,10,24] [609,610,611,612,613,614] rfl rfl rfl ⟨⟨⟨⟨tt_,(QC v)⟩,(QC w)⟩,rfl⟩,(fun σ z A=>Stp.yieldH (b:=609) (M:=[(609,609),(610,610),(611,611),(612,612)]) (N:=[(609,609),(610,610),(611,611),(612,612)]) (dead:=[]) (ms:=[.d,.d,.d,.d,.d,.d,.d,.d,.d,.d,.d,.d,.d,.d,.d,.d,.d,.d,.d,.d,.d,.d,.d,.d,.d,.d,.d,.d,.d,.d,.d,.d,.d,.d,.d]) (outs:=[(609,.lp lpl (Qa3 lpf) (QeS (.loc 610 0 0) (.loc 611 0 0) (.loc 612 0 0)) 2),(610,.var (Qb c.1)),(611,.var (Qb c.2)),(612,.var (Qb p))]) (r:=.b false) A rfl (z _ _ rfl) (A _ _ rfl) rfl (Qcm z rfl) rfl rfl (Qz hC.n rfl) hC.g rfl rfl rfl rfl rfl rfl rfl rfl (QhH _ _ _ _ _ _ x))⟩ rfl (by kernel_rfl) rfl rfl rfl ?_
    refine Qa hC [.O 609 (.lp lpl (Qa3 lpf) (QeS (.loc 610 0 0) (.loc 611 0 0) (.loc 612 0 0)) 2),.O 610 (.var (Qb c.1)),.O 611 (.var (Qb c.2)),.O 612 (.var (Qb p)),.n 5,.K [] [609,610,611,612,613,614]] rfl ⟨⟨⟨⟨tt_,rfl⟩,rfl⟩,rfl⟩,rfl⟩ ?_
    cases h
    exact QaN rfl (an_ rfl rfl)
   replace h:Qff D u=some o:=h
   refine tg_ hC [.K [0,1,2,4,9,10] [609,610,611,612,613,614]] rfl ?_
   refine AK.draw2 Qp hC mixed [.N,.N,.N,.a (.row (Qb s)) none false,.N,.N,.N,.a (.row (Qb t)) none false,.N,.a .no (some ([],.agg (Qf7 (Qen.mk s t)))) false,.m (.any ⟨[],[(609,.lp lpl (Qa3 lpf) (QeS (.loc 610 0 0) (.loc 611 0 0) (.loc 612 0 0)) 0),(610,.var (Qb k)),(611,.var (Qb l)),(612,.var (Qb u))],some (23,.b true)⟩),.N] [] [] [0,1,2,9,10,24] [609,610,611,612,613,614] rfl rfl rfl ⟨⟨⟨⟨tt_,(QC v)⟩,(QC w)⟩,rfl⟩,(fun σ z A=>Stp.yieldH (b:=609) (M:=[(609,609),(610,610),(611,611),(612,612)]) (N:=[(609,609),(610,610),(611,611),(612,612)]) (dead:=[]) (ms:=[.d,.d,.d,.d,.d,.d,.d,.d,.d,.d,.d,.d,.d,.d,.d,.d,.d,.d,.d,.d,.d,.d,.d,.d,.d,.d,.d,.d,.d,.d,.d,.d,.d,.d,.d]) (outs:=[(609,.lp lpl (Qa3 lpf) (QeS (.loc 610 0 0) (.loc 611 0 0) (.loc 612 0 0)) 0),(610,.var (Qb k)),(611,.var (Qb l)),(612,.var (Qb u))]) (r:=.b true) A rfl (z _ _ rfl) (A _ _ rfl) rfl (Qcm z rfl) rfl rfl (Qz hC.n rfl) hC.g rfl rfl rfl rfl rfl rfl rfl rfl (QhH _ _ _ _ _ _ x))⟩ rfl (by kernel_rfl) rfl rfl rfl ?_
   refine Qa hC [.O 609 (.lp lpl (Qa3 lpf) (QeS (.loc 610 0 0) (.loc 611 0 0) (.loc 612 0 0)) 0),.O 610 (.var (Qb k)),.O 611 (.var (Qb l)),.O 612 (.var (Qb u)),.n 9,.K [0,1,2,9,10] [609,610,611,612,613,614]] rfl ⟨⟨⟨⟨tt_,rfl⟩,rfl⟩,rfl⟩,rfl⟩ ?_
   cases h
   exact QU rfl rfl
  cases h
  exact QV rfl (an_ rfl rfl)
 rcases B with(⟨G,H,J⟩|L)
 ·replace h:Qiy G H J=some r:=h
  rintro e σ ⟨rfl,rfl⟩
  refine tg_ hC [.n 1,.K [] [609,610,611,612,613,614]] rfl ?_
  cases h
  refine AK.done ?_
  exact ex_ [] (an_ tt_ (Qbf ⟨rfl,rfl,rfl,rfl,rfl,rfl,tt_⟩))
 replace h:Qiz L=some r:=h
 rintro e σ ⟨rfl,rfl⟩
 refine tg_ hC [.n 1,.K [] [609,610,611,612,613,614]] rfl ?_
 cases h
 refine AK.done ?_
 exact ex_ [] (an_ tt_ (Qbf ⟨rfl,rfl,rfl,rfl,rfl,rfl,tt_⟩))
def Qhg (a:(Int×Int×Int)):Option (Int×Int):=
 some (a.1,a.2.1)
def Qhh (a:Int):Option (Int×Int):=
 some (a,0)
def Qh4 (b:(List Int))(c:(List Int)):Option (Int×Int):=
 (QpD b c).bind fun a=>
 (QfL 0 0 0 a.1 a.2).bind (Sum.elim (fun q=>Qhg q) (fun q=>Qhh q))
theorem QmI (g i){r}(h:Qh4 g i=some r):Qc prog 34 [.sl 1 (g.map Qb),.sl 1 (i.map Qb)] [] (Qh (.tup [.I r.1,.I r.2]) []):=by
 refine Qc.walkR 35 func34 rfl ntmps34 rfl fun C hC hR=>?_
 obtain⟨b,f,h⟩:=Qd h
 refine Qa hC [.n 10,.O 6 (.var (Qb 0)),.n 7,.cm (.fn) [] [(12,2),(603,3)] [] [.d,.d] [(2,.var (Qk b.1)),(3,.var (Qk b.2))] (.clo (.func 139) [] [.loc 2 0 0,.loc 3 0 0]),.n 3,.K [4,5,6,12] [4,5,6,12,603]] rfl ⟨⟨tt_,rfl⟩,(Qrn _ _ f)⟩ ?_
 obtain⟨j,c,h⟩:=Qd h
 rcases j with(e | a)
 ·replace h:Qhg e=some r:=h
  refine AK.rangeF 607 [4,5,6] [(609,607),(610,4),(611,5),(612,6),(613,12),(614,603)] [(607,609),(4,610),(5,611),(6,612),(12,613),(603,614)] [] [.d,.d,.d] Qa3 hC hR (fun _=>rfl) rfl rfl rfl rfl fun lpl lpf=>?_
  refine ex_ [(609,.lp lpl (Qa3 lpf) (QeS (.loc 610 0 0) (.loc 611 0 0) (.loc 612 0 0)) 2),(610,.var (Qb e.1)),(611,.var (Qb e.2.1)),(612,.var (Qb e.2.2)),(613,.var (Qk b.1)),(614,.var (Qk b.2))] (ex_ (.tup []) (ex_ _ (ex_ _ (ex_ (QeS (.loc 4 0 0) (.loc 5 0 0) (.loc 6 0 0)) (ex_ 2 (an_ rfl ?_))))))
  refine an_ (Qk8 _ _ _ _ _ _ _ c) (an_ rfl (an_ (bne_iff_ne.1 (show(2 != 1)=true from rfl)) ?_))
  refine QwB rfl ?_
  refine tg_ hC [.n 3,.K [4,5] [4,5]] rfl ?_
  cases h
  exact AK.done (ex_ [_,_] (an_ (an_ (ex_ _ (ex_ _ (an_ rfl (an_ rfl (Or.inr (an_ (Qp.ag rfl) rfl)))))) (an_ (ex_ _ (ex_ _ (an_ rfl (an_ rfl (Or.inr (an_ (Qp.ag rfl) rfl)))))) tt_)) (Qbf tt_)))
 replace h:Qhh a=some r:=h
 refine AK.rangeF 607 [4,5,6] [(609,607),(610,4),(611,5),(612,6),(613,12),(614,603)] [(607,609),(4,610),(5,611),(6,612),(12,613),(603,614)] [] [.d,.d,.d] Qa3 hC hR (fun _=>rfl) rfl rfl rfl rfl fun lpl lpf=>?_
 refine ex_ [(609,.lp lpl (Qa3 lpf) (QeS (.loc 610 0 0) (.loc 611 0 0) (.loc 612 0 0)) 0),(610,.var (Qb 0)),(611,.var (Qb 0)),(612,.var (Qb a)),(613,.var (Qk b.1)),(614,.var (Qk b.2))] (ex_ (.tup []) (ex_ _ (ex_ _ (ex_ (QeS (.loc 4 0 0) (.loc 5 0 0) (.loc 6 0 0)) (ex_ 0 (an_ rfl ?_))))))
 refine an_ (Qk8 _ _ _ _ _ _ _ c) (an_ rfl (an_ (bne_iff_ne.1 (show(0 != 1)=true from rfl)) ?_))
 refine QwA rfl ?_
 refine Qa hC [.n 6,.O 4 (.var (Qb a)),.n 1,.O 5 (.var (Qb 0)),.n 3,.K [4,5] [4,5]] rfl ⟨⟨tt_,rfl⟩,rfl⟩ ?_
 cases h
 exact AK.done (ex_ [_,_] (an_ (an_ (ex_ _ (ex_ _ (an_ rfl (an_ rfl (Or.inr (an_ (Qp.ag rfl) rfl)))))) (an_ (ex_ _ (ex_ _ (an_ rfl (an_ rfl (Or.inr (an_ (Qp.ag rfl) rfl)))))) tt_)) (Qbf tt_)))
def QnG (a:(List Int))(b:QMk):Option (Int×Int):=
 bif ((a.length:Int) != (b.length:Int))then
 some (0,1)
 else
 (QfK b).bind fun d=>
 (Qh4 a d).bind fun c=>
 some (c.1,c.2)
theorem QpL (b e){r}(h:QnG b e=some r):Qc prog 12 [.sl 1 (b.map Qb),.sl 1 (e.map Qjn)] [] (Qh (.tup [.I r.1,.I r.2]) []):=by
 refine Qc.walk 17 func12 rfl rfl rfl fun C hC=>?_
 refine Qa hC [.n 10,.o (.ln b.length),.n 1,.o (.ln e.length),.n 3] rfl ⟨⟨tt_,Qi⟩,Qi⟩ ?_
 rcases Qs h with⟨a,h⟩|⟨a,h⟩
 ·refine Qa hC [.T,.n 8] rfl ⟨tt_,a⟩ ?_
  cases h
  exact d2_ rfl rfl rfl tt_
 obtain⟨f,g,h⟩:=Qd h
 obtain⟨j,i,h⟩:=Qd h
 refine Qa hC [.F,.n 6,.cm (.fn) [] [(13,600)] [] [.d,.d] [(600,.arr 1 (f.map Qb))] (.own 600 f.length),.o (.c true [.d,.o (f.map Qb)] (.tup [.I j.1,.I j.2])),.n 7] rfl ⟨⟨⟨tt_,a⟩,(Qjh _ g)⟩,⟨(QeR rfl),(QmI _ _ i)⟩⟩ ?_
 cases h
 exact d2_ rfl rfl rfl tt_
def QlU (c:(List Int))(d:(List Int))(a:Int):Option (Int⊕(Unit⊕Unit)):=
 bif (decide (a<(c.length:Int)))then
 (idx c a).bind fun e=>
 (idx d a).bind fun b=>
 bif (e != b)then
 some (.inr (.inl ()))
 else
 some (.inl (w64 (a+1)))
 else
 some (.inr (.inr ()))
def QlV : Option Bool:=
 some false
def QlW : Option Bool:=
 some true
def Qi4 (a:(List Int))(b:(List Int)):Option Bool:=
 bif ((a.length:Int) != (b.length:Int))then
 some false
 else
 (Qw (fun st=>QlU a b st) 0).bind (Sum.elim (fun q=>QlV) (fun q=>QlW))
theorem Qi5 (g i){r}(h:Qi4 g i=some r):Qc prog 17 [.sl 1 (g.map Qb),.sl 1 (i.map Qb)] [] (Qh (.b r) []):=by
 refine Qc.walk 26 func17 rfl rfl rfl fun C hC=>?_
 refine Qa hC [.n 9,.o (.ln g.length),.n 1,.o (.ln i.length),.n 3] rfl ⟨⟨tt_,Qi⟩,Qi⟩ ?_
 refine bg_ h (fun d h=>Qa hC [.T,.n 7,.K [4] []] rfl ⟨tt_,d⟩ ?_) fun d h=>Qa hC [.F,.n 9,.K [0,1,5] []] rfl ⟨tt_,d⟩ ?_
 ·cases h
  exact d1_ rfl rfl tt_
 obtain⟨l,j,h⟩:=Qd h
 refine AK.loop (body:=(fun st=>QlU g i st)) (fun st σ=>σ=⟨[(0,.sl 1 (g.map Qb)),(1,.sl 1 (i.map Qb)),(5,.I st)],[]⟩) (Sum.elim (fun q e σ=>e=.ret∧σ=⟨[(4,.b false)],[]⟩) (fun q e σ=>e=.exit 0∧σ=⟨[],[]⟩)) j rfl ?_ ?_
 ·rintro t o σ rfl h
  refine Qa hC [.n 5,.o (.ln g.length),.n 3] rfl ⟨tt_,Qi⟩ ?_
  rcases Qs h with⟨f,h⟩|⟨f,h⟩
  ·obtain⟨s,m,h⟩:=Qd h
   obtain⟨p,k,h⟩:=Qd h
   refine Qa hC [.T,.n 5,.K [0,1,5] []] rfl ⟨tt_,f⟩ ?_
   refine AK.draw2 Qp hC mixed [.N,.N,.a (.row (Qb s)) none false,.N,.N,.N,.a (.row (Qb p)) none false,.N,.N] [] [] [0,1,5,25] [] rfl rfl rfl ⟨⟨tt_,(QC m)⟩,(QC k)⟩ rfl (by kernel_rfl) rfl rfl rfl ?_
   refine tg_ hC [.n 1] rfl ?_
   refine bg_ h (fun c h=>Qa hC [.T,.n 8,.K [4] []] rfl ⟨tt_,c⟩ ?_) fun c h=>Qa hC [.F,.n 8,.K [0,1,5] []] rfl ⟨tt_,c⟩ ?_
   ·cases h
    exact QaN rfl (an_ rfl rfl)
   cases h
   exact QU rfl rfl
  refine Qa hC [.F,.n 2,.K [] []] rfl ⟨tt_,f⟩ ?_
  cases h
  exact QV rfl (an_ rfl rfl)
 rcases l with(_ | _)
 ·replace h:QlV=some r:=h
  rintro e σ ⟨rfl,rfl⟩
  refine tg_ hC [.n 2] rfl ?_
  cases h
  exact d1_ rfl rfl tt_
 replace h:QlW=some r:=h
 rintro e σ ⟨rfl,rfl⟩
 refine tg_ hC [.n 8] rfl ?_
 cases h
 exact d1_ rfl rfl tt_
def QlX (d:QLL)(e:QLL)(a:Int):Option (Int⊕(Unit⊕Unit)):=
 bif (decide (a<(d.length:Int)))then
 (idx d a).bind fun f=>
 (idx e a).bind fun b=>
 (Qi4 f b).bind fun c=>
 bif (!c)then
 some (.inr (.inl ()))
 else
 some (.inl (w64 (a+1)))
 else
 some (.inr (.inr ()))
def QlY : Option Bool:=
 some false
def QlZ : Option Bool:=
 some true
def Qk9 (a:QLL)(b:QLL):Option Bool:=
 bif ((a.length:Int) != (b.length:Int))then
 some false
 else
 (Qw (fun st=>QlX a b st) 0).bind (Sum.elim (fun q=>QlY) (fun q=>QlZ))
theorem Ql0 (j k){r}(h:Qk9 j k=some r):Qc prog 14 [.sl 1 (j.map Qk),.sl 1 (k.map Qk)] [] (Qh (.b r) []):=by
 refine Qc.walk 27 func14 rfl rfl rfl fun C hC=>?_
 refine Qa hC [.n 9,.o (.ln j.length),.n 1,.o (.ln k.length),.n 3] rfl ⟨⟨tt_,Qi⟩,Qi⟩ ?_
 refine bg_ h (fun g h=>Qa hC [.T,.n 7,.K [4] []] rfl ⟨tt_,g⟩ ?_) fun g h=>Qa hC [.F,.n 9,.K [0,1,5] []] rfl ⟨tt_,g⟩ ?_
 ·cases h
  exact d1_ rfl rfl tt_
 obtain⟨s,l,h⟩:=Qd h
 refine AK.loop (body:=(fun st=>QlX j k st)) (fun st σ=>σ=⟨[(0,.sl 1 (j.map Qk)),(1,.sl 1 (k.map Qk)),(5,.I st)],[]⟩) (Sum.elim (fun q e σ=>e=.ret∧σ=⟨[(4,.b false)],[]⟩) (fun q e σ=>e=.exit 0∧σ=⟨[],[]⟩)) l rfl ?_ ?_
 ·rintro x o σ rfl h
  refine Qa hC [.n 5,.o (.ln j.length),.n 3] rfl ⟨tt_,Qi⟩ ?_
  rcases Qs h with⟨i,h⟩|⟨i,h⟩
  ·obtain⟨w,t,h⟩:=Qd h
   obtain⟨u,m,h⟩:=Qd h
   obtain⟨v,p,h⟩:=Qd h
   refine Qa hC [.T,.n 5,.K [0,1,5] []] rfl ⟨tt_,i⟩ ?_
   refine AK.draw2 Qp hC mixed [.N,.N,.a (.row (Qk w)) none false,.N,.N,.N,.a (.row (Qk u)) none false,.N,.a (.c false [.d,.d] (.b v)) none false,.N] [] [] [0,1,5,26] [] rfl rfl rfl ⟨⟨⟨tt_,(QC t)⟩,(QC m)⟩,(Qi5 _ _ p)⟩ rfl (by kernel_rfl) rfl rfl rfl ?_
   refine tg_ hC [.n 1] rfl ?_
   refine bg_ h (fun f h=>Qa hC [.T,.n 8,.K [4] []] rfl ⟨tt_,f⟩ ?_) fun f h=>Qa hC [.F,.n 8,.K [0,1,5] []] rfl ⟨tt_,f⟩ ?_
   ·cases h
    exact QaN rfl (an_ rfl rfl)
   cases h
   exact QU rfl rfl
  refine Qa hC [.F,.n 2,.K [] []] rfl ⟨tt_,i⟩ ?_
  cases h
  exact QV rfl (an_ rfl rfl)
 rcases s with(_ | _)
 ·replace h:QlY=some r:=h
  rintro e σ ⟨rfl,rfl⟩
  refine tg_ hC [.n 2] rfl ?_
  cases h
  exact d1_ rfl rfl tt_
 replace h:QlZ=some r:=h
 rintro e σ ⟨rfl,rfl⟩
 refine tg_ hC [.n 8] rfl ?_
 cases h
 exact d1_ rfl rfl tt_
def Qi6 (a:Int)(b:(List Int)):Option Bool:=
 (idx b a).bind fun c=>
 some (c != 0)
theorem Qol (a c){r}(h:Qi6 a c=some r):Qc prog 46 [.I a,.loc 609 0 0] [(609,.var (Qk c))] (Qh (.b r) [(609,.var (Qk c))]):=by
 refine Qc.walk 9 func46 rfl rfl rfl fun C hC=>?_
 obtain⟨e,d,h⟩:=Qd h
 refine Qa hC [.n 9,.o (.row (Qb e)),.n 6] rfl ⟨tt_,(QC d)⟩ ?_
 cases h
 exact d1_ rfl rfl ⟨rfl,tt_⟩
def Q0 (c:(List Int))(d:(List Int))(a:Int):Option (Int⊕(Int⊕Unit)):=
 bif (decide (a<(c.length:Int)))then
 (idx c a).bind fun e=>
 (Qi6 e d).bind fun b=>
 bif b then
 some (.inr (.inl a))
 else
 some (.inl (w64 (a+1)))
 else
 some (.inr (.inr ()))
def Qdv (a:Int):Option Int:=
 some a
def Qdw : Option Int:=
 some (-1)
def Qb2 (a:(List Int))(b:(List Int)):Option Int:=
 (Qw (fun st=>Q0 a b st) 0).bind (Sum.elim (fun q=>Qdv q) (fun q=>Qdw))
theorem QiA (g c){r}(h:Qb2 g c=some r):Qc prog 80 [.sl 1 (g.map Qb),.clo (.func 46) [] [.loc 609 0 0]] [(609,.var (Qk c))] (Qh (.I r) [(609,.var (Qk c))]):=by
 refine Qc.walk 19 func80 rfl rfl rfl fun C hC=>?_
 refine Qa hC [.n 9,.o (.ln g.length),.n 4,.K [0,1,7,8] [609]] rfl ⟨tt_,Qi⟩ ?_
 obtain⟨k,i,h⟩:=Qd h
 refine AK.loop (body:=(fun st=>Q0 g c st)) (fun st σ=>σ=⟨[(0,.sl 1 (g.map Qb)),(1,.clo (.func 46) [] [.loc 609 0 0]),(7,.I (g.length:Int)),(8,.I st)],[(609,.var (Qk c))]⟩) (Sum.elim (fun q e σ=>e=.ret∧σ=⟨[(4,.I q)],[(609,.var (Qk c))]⟩) (fun q e σ=>e=.exit 0∧σ=⟨[],[(609,.var (Qk c))]⟩)) i rfl ?_ ?_
 ·rintro t o σ rfl h
  refine tg_ hC [.n 6] rfl ?_
  rcases Qs h with⟨f,h⟩|⟨f,h⟩
  ·obtain⟨p,l,h⟩:=Qd h
   obtain⟨m,j,h⟩:=Qd h
   refine Qa hC [.T,.n 15,.o (.row (Qb p)),.n 1,.cm (.clo) [(609,609)] [(609,609)] [] [.d,.d] [(609,.var (Qk c))] (.b m),.n 2] rfl ⟨⟨⟨tt_,f⟩,(QC l)⟩,(Qol _ _ j)⟩ ?_
   refine bg_ h (fun a h=>Qa hC [.T,.n 9,.K [4] [609]] rfl ⟨tt_,a⟩ ?_) fun a h=>Qa hC [.F,.n 7,.K [0,1,7,8] [609]] rfl ⟨tt_,a⟩ ?_
   ·cases h
    exact QaN rfl (an_ rfl rfl)
   cases h
   exact QU rfl rfl
  refine Qa hC [.F,.n 2,.K [] [609]] rfl ⟨tt_,f⟩ ?_
  cases h
  exact QV rfl (an_ rfl rfl)
 rcases k with(s | _)
 ·replace h:Qdv s=some r:=h
  rintro e σ ⟨rfl,rfl⟩
  refine tg_ hC [.n 2] rfl ?_
  cases h
  exact d1_ rfl rfl ⟨rfl,tt_⟩
 replace h:Qdw=some r:=h
 rintro e σ ⟨rfl,rfl⟩
 refine tg_ hC [.n 8] rfl ?_
 cases h
 exact d1_ rfl rfl ⟨rfl,tt_⟩
def QaR (a:(List Int))(b:(List Int)):Option Bool:=
 (Qb2 a b).bind fun c=>
 some (decide (0≤c))
theorem Qhi (e a){r}(h:QaR e a=some r):Qc prog 47 [.sl 1 (e.map Qb),.clo (.func 46) [] [.loc 609 0 0]] [(609,.var (Qk a))] (Qh (.b r) [(609,.var (Qk a))]):=by
 refine Qc.walk 9 func47 rfl rfl rfl fun C hC=>?_
 obtain⟨f,c,h⟩:=Qd h
 refine Qa hC [.n 9,.cm (.fn) [(609,609)] [(609,609)] [] [.d,.d] [(609,.var (Qk a))] (.I f),.n 5] rfl ⟨tt_,(QiA _ _ c)⟩ ?_
 cases h
 exact d1_ rfl rfl ⟨rfl,tt_⟩
def Qgc (b:(List Int))(c:(List Int)):Option Bool:=
 (Qh4 c b).bind fun a=>
 some ((a.1 != 0)||(a.2 != 0))
theorem Qom (i f){r}(h:Qgc i f=some r):Qc prog 45 [.sl 1 (i.map Qb),.loc 609 0 0] [(609,.var (Qk f))] (Qh (.b r) [(609,.var (Qk f))]):=by
 refine Qc.walk 18 func45 rfl rfl rfl fun C hC=>?_
 obtain⟨e,g,h⟩:=Qd h
 refine Qa hC [.n 9,.o (.c false [.d,.d] (.tup [.I e.1,.I e.2])),.n 8] rfl ⟨tt_,(QmI _ _ g)⟩ ?_
 refine AK.meetX (fun σ=>σ=⟨[(3,.b ((e.1 != 0)||(e.2 != 0)))],[(609,.var (Qk f))]⟩) ?_ ?_
 ·refine tg_ hC [.n 4] rfl ?_
  rcases QQ (e.1 != 0)with a | a
  ·refine Qa hC [.S 14 (.b true),.n 5,.S 3 (.b ((e.1 != 0)||(e.2 != 0))),.K [3] [609]] rfl ⟨(tc_ a),(congrArg V.b (orT a rfl))⟩ ?_
   exact AK.met rfl
  refine Qa hC [.S 14 (.b false),.n 5,.S 3 (.b ((e.1 != 0)||(e.2 != 0))),.K [3] [609]] rfl ⟨(tc_ a),(congrArg V.b (orF a rfl))⟩ ?_
  exact AK.met rfl
 rintro σ rfl
 refine tg_ hC [.n 2] rfl ?_
 cases h
 exact d1_ rfl rfl ⟨rfl,tt_⟩
def Q1 (c:QLL)(d:(List Int))(a:Int):Option (Int⊕(Int⊕Unit)):=
 bif (decide (a<(c.length:Int)))then
 (idx c a).bind fun e=>
 (Qgc e d).bind fun b=>
 bif b then
 some (.inr (.inl a))
 else
 some (.inl (w64 (a+1)))
 else
 some (.inr (.inr ()))
def Qdx (a:Int):Option Int:=
 some a
def Qdy : Option Int:=
 some (-1)
def Qb3 (a:QLL)(b:(List Int)):Option Int:=
 (Qw (fun st=>Q1 a b st) 0).bind (Sum.elim (fun q=>Qdx q) (fun q=>Qdy))
theorem QiB (g c){r}(h:Qb3 g c=some r):Qc prog 83 [.sl 1 (g.map Qk),.clo (.func 45) [] [.loc 609 0 0]] [(609,.var (Qk c))] (Qh (.I r) [(609,.var (Qk c))]):=by
 refine Qc.walk 19 func83 rfl rfl rfl fun C hC=>?_
 refine Qa hC [.n 9,.o (.ln g.length),.n 4,.K [0,1,7,8] [609]] rfl ⟨tt_,Qi⟩ ?_
 obtain⟨k,i,h⟩:=Qd h
 refine AK.loop (body:=(fun st=>Q1 g c st)) (fun st σ=>σ=⟨[(0,.sl 1 (g.map Qk)),(1,.clo (.func 45) [] [.loc 609 0 0]),(7,.I (g.length:Int)),(8,.I st)],[(609,.var (Qk c))]⟩) (Sum.elim (fun q e σ=>e=.ret∧σ=⟨[(4,.I q)],[(609,.var (Qk c))]⟩) (fun q e σ=>e=.exit 0∧σ=⟨[],[(609,.var (Qk c))]⟩)) i rfl ?_ ?_
 ·rintro t o σ rfl h
  refine tg_ hC [.n 6] rfl ?_
  rcases Qs h with⟨f,h⟩|⟨f,h⟩
  ·obtain⟨p,l,h⟩:=Qd h
   obtain⟨m,j,h⟩:=Qd h
   refine Qa hC [.T,.n 15,.o (.row (Qk p)),.n 1,.cm (.clo) [(609,609)] [(609,609)] [] [.d,.d] [(609,.var (Qk c))] (.b m),.n 2] rfl ⟨⟨⟨tt_,f⟩,(QC l)⟩,(Qom _ _ j)⟩ ?_
   refine bg_ h (fun a h=>Qa hC [.T,.n 9,.K [4] [609]] rfl ⟨tt_,a⟩ ?_) fun a h=>Qa hC [.F,.n 7,.K [0,1,7,8] [609]] rfl ⟨tt_,a⟩ ?_
   ·cases h
    exact QaN rfl (an_ rfl rfl)
   cases h
   exact QU rfl rfl
  refine Qa hC [.F,.n 2,.K [] [609]] rfl ⟨tt_,f⟩ ?_
  cases h
  exact QV rfl (an_ rfl rfl)
 rcases k with(s | _)
 ·replace h:Qdx s=some r:=h
  rintro e σ ⟨rfl,rfl⟩
  refine tg_ hC [.n 2] rfl ?_
  cases h
  exact d1_ rfl rfl ⟨rfl,tt_⟩
 replace h:Qdy=some r:=h
 rintro e σ ⟨rfl,rfl⟩
 refine tg_ hC [.n 8] rfl ?_
 cases h
 exact d1_ rfl rfl ⟨rfl,tt_⟩
def QaS (a:QLL)(b:(List Int)):Option Bool:=
 (Qb3 a b).bind fun c=>
 some (decide (0≤c))
theorem Qhj (e a){r}(h:QaS e a=some r):Qc prog 48 [.sl 1 (e.map Qk),.clo (.func 45) [] [.loc 609 0 0]] [(609,.var (Qk a))] (Qh (.b r) [(609,.var (Qk a))]):=by
 refine Qc.walk 9 func48 rfl rfl rfl fun C hC=>?_
 obtain⟨f,c,h⟩:=Qd h
 refine Qa hC [.n 9,.cm (.fn) [(609,609)] [(609,609)] [] [.d,.d] [(609,.var (Qk a))] (.I f),.n 5] rfl ⟨tt_,(QiB _ _ c)⟩ ?_
 cases h
 exact d1_ rfl rfl ⟨rfl,tt_⟩
def Qla (c:Qm)(d:(List Int)):Option Bool:=
 (QbP c).bind fun e=>
 (QaR e d).bind fun f=>
 bif (!f)then
 (QbN c).bind fun a=>
 (QaS a d).bind fun b=>
 some (!b)
 else
 some false
def Qfg (a:Bool):Option Bool:=
 some a
def QaI (a:Qm)(b:(List Int)):Option Bool:=
 bif ((b.length:Int) != (a.Places.length:Int))then
 some false
 else
 (Qla a b).bind (fun c=>Qfg c)
theorem QaT (f g){r}(h:QaI f g=some r):Qc prog 20 [.agg (Qe f),.sl 1 (g.map Qb)] [] (Qh (.b r) []):=by
 refine Qc.walk 27 func20 rfl rfl rfl fun C hC=>?_
 refine Qa hC [.n 11,.o (.ln g.length),.n 2,.o (.ln f.Places.length),.n 3] rfl ⟨⟨tt_,Qi⟩,Qi⟩ ?_
 refine bg_ h (fun c h=>Qa hC [.T,.n 7,.K [4] []] rfl ⟨tt_,c⟩ ?_) fun c h=>Qa hC [.F,.n 15] rfl ⟨tt_,c⟩ ?_
 ·cases h
  exact d1_ rfl rfl tt_
 obtain⟨k,l,h⟩:=Qd h
 replace h:Qfg k=some r:=h
 refine AK.meetX (fun σ=>σ=⟨[(4,.b k)],[]⟩) ?_ ?_
 ·replace h:=l
  obtain⟨m,p,h⟩:=Qd h
  obtain⟨t,q,h⟩:=Qd h
  refine Qa hC [.n 1,.v .no [] (.agg (Qe f)),.o (.co false [.d] 1 (m.map Qb) m.length),.n 1,.frz 16 (m.map Qb) [16] [],.cm (.fn) [(609,3)] [(3,609)] [] [.d,.d] [(609,.var (Qk g))] (.b t),.n 2] rfl ⟨⟨⟨⟨tt_,rfl⟩,⟨(QgR _ p),Qi,.inl rfl⟩⟩,⟨tt_,(QeQ Qi)⟩⟩,(Qhi _ _ q)⟩ ?_
  rcases Qs h with⟨a,h⟩|⟨a,h⟩
  ·obtain⟨e,i,h⟩:=Qd h
   obtain⟨s,j,h⟩:=Qd h
   refine Qa hC [.S 20 (.b true),.v .no [] (.agg (Qe f)),.o (.co false [.d] 1 (e.map Qk) e.length),.n 1,.frz 22 (e.map Qk) [22] [],.cm (.fn) [(609,3)] [(3,609)] [] [.d,.d] [(609,.var (Qk g))] (.b s),.n 4,.K [4] []] rfl ⟨⟨⟨⟨(tc_ a),rfl⟩,⟨(QgP _ i),Qi,.inl rfl⟩⟩,⟨tt_,(QeQ Qi)⟩⟩,(Qhj _ _ j)⟩ ?_
   cases h
   exact AK.met rfl
  refine Qa hC [.S 20 (.b false),.n 8,.K [4] []] rfl (tc_ a) ?_
  cases h
  exact AK.met rfl
 rintro σ rfl
 replace h:Qfg k=some r:=h
 refine tg_ hC [.n 2] rfl ?_
 cases h
 exact d1_ rfl rfl tt_
def QhI (c:(List Int))(d:Int)(a:Int):Option ((Int×Int)⊕Int):=
 bif (decide (a<(c.length:Int)))then
 (idx c a).bind fun b=>
 some (.inl ((min2 d b),(w64 (a+1))))
 else
 some (.inr d)
def QhJ (a:Int):Option Int:=
 some a
def Qi7 (a:(List Int)):Option Int:=
 bif (decide ((a.length:Int)<1))then
 none
 else
 (idx a 0).bind fun b=>
 (Qw (fun st=>QhI a st.1 st.2) (b,1)).bind (fun q=>QhJ q)
theorem Qly (c){r}(h:Qi7 c=some r):Qc prog 50 [.sl 1 (c.map Qb)] [] (Qh (.I r) []):=by
 refine Qc.walk 25 func50 rfl rfl rfl fun C hC=>?_
 refine Qa hC [.n 9,.o (.ln c.length),.n 3] rfl ⟨tt_,Qi⟩ ?_
 rcases Qs h with⟨b,h⟩|⟨b,h⟩
 ·refine Qa hC [.T,.n 2] rfl ⟨tt_,b⟩ ?_
  cases h
 obtain⟨j,g,h⟩:=Qd h
 refine Qa hC [.F,.n 5,.o (.row (Qb j)),.n 11,.K [0,3,4] []] rfl ⟨⟨tt_,b⟩,(QC g)⟩ ?_
 obtain⟨k,d,h⟩:=Qd h
 refine AK.loop (body:=(fun st=>QhI c st.1 st.2)) (fun st σ=>σ=⟨[(0,.sl 1 (c.map Qb)),(3,.I st.1),(4,.I st.2)],[]⟩) (fun q e σ=>e=.exit 0∧σ=⟨[(3,.I q)],[]⟩) d rfl ?_ ?_
 ·rintro ⟨l,m⟩ o σ rfl h
  refine Qa hC [.n 5,.o (.ln c.length),.n 3] rfl ⟨tt_,Qi⟩ ?_
  rcases Qs h with⟨a,h⟩|⟨a,h⟩
  ·obtain⟨i,f,h⟩:=Qd h
   refine Qa hC [.T,.n 8,.o (.row (Qb i)),.n 11,.K [0,3,4] []] rfl ⟨⟨tt_,a⟩,(QC f)⟩ ?_
   cases h
   exact QU rfl rfl
  refine Qa hC [.F,.n 2,.K [3] []] rfl ⟨tt_,a⟩ ?_
  cases h
  exact QV rfl (an_ rfl rfl)
 replace h:QhJ k=some r:=h
 rintro e σ ⟨rfl,rfl⟩
 refine tg_ hC [.n 9] rfl ?_
 cases h
 exact d1_ rfl rfl tt_
def Qnt (b:Int)(a:(List Int)):Option Bool:=
 bif (decide (b<(a.length:Int)))then
 (idx a b).bind fun c=>
 bif (decide (0<c))then
 (Qi7 a).bind fun d=>
 some (decide (0≤d))
 else
 some false
 else
 some false
def Qfh (a:Bool):Option Bool:=
 some a
def Qkf (a:(List Int))(b:Int):Option Bool:=
 (Qnt b a).bind (fun c=>Qfh c)
theorem Qnu (g f){r}(h:Qkf g f=some r):Qc prog 49 [.sl 1 (g.map Qb),.loc 609 0 0] [(609,.var (Qb f))] (Qh (.b r) [(609,.var (Qb f))]):=by
 refine Qc.walk 20 func49 rfl rfl rfl fun C hC=>?_
 refine tg_ hC [.n 6] rfl ?_
 obtain⟨i,j,h⟩:=Qd h
 replace h:Qfh i=some r:=h
 refine AK.meetX (fun σ=>σ=⟨[(3,.b i)],[(609,.var (Qb f))]⟩) ?_ ?_
 ·replace h:=j
  refine Qa hC [.n 3,.o (.ln g.length),.n 2] rfl ⟨tt_,Qi⟩ ?_
  rcases Qs h with⟨a,h⟩|⟨a,h⟩
  ·obtain⟨m,k,h⟩:=Qd h
   refine Qa hC [.S 8 (.b true),.n 2,.o (.row (Qb m)),.n 4] rfl ⟨(tc_ a),(QC k)⟩ ?_
   rcases Qs h with⟨e,h⟩|⟨e,h⟩
   ·obtain⟨p,l,h⟩:=Qd h
    refine Qa hC [.S 15 (.b true),.n 1,.o (.c false [.d] (.I p)),.n 4,.K [3] [609]] rfl ⟨(tc_ e),(Qly _ l)⟩ ?_
    cases h
    exact AK.met rfl
   refine Qa hC [.S 15 (.b false),.n 6,.K [3] [609]] rfl (tc_ e) ?_
   cases h
   exact AK.met rfl
  refine Qa hC [.S 8 (.b false),.n 13,.K [3] [609]] rfl (tc_ a) ?_
  cases h
  exact AK.met rfl
 rintro σ rfl
 replace h:Qfh i=some r:=h
 refine tg_ hC [.n 2] rfl ?_
 cases h
 exact d1_ rfl rfl ⟨rfl,tt_⟩
def Qdz (c:QLL)(d:Int)(a:Int):Option (Int⊕(Int⊕Unit)):=
 bif (decide (a<(c.length:Int)))then
 (idx c a).bind fun e=>
 (Qkf e d).bind fun b=>
 bif b then
 some (.inr (.inl a))
 else
 some (.inl (w64 (a+1)))
 else
 some (.inr (.inr ()))
def QdA (a:Int):Option Int:=
 some a
def QdB : Option Int:=
 some (-1)
def Qez (a:QLL)(b:Int):Option Int:=
 (Qw (fun st=>Qdz a b st) 0).bind (Sum.elim (fun q=>QdA q) (fun q=>QdB))
theorem QiC (g c){r}(h:Qez g c=some r):Qc prog 83 [.sl 1 (g.map Qk),.clo (.func 49) [] [.loc 609 0 0]] [(609,.var (Qb c))] (Qh (.I r) [(609,.var (Qb c))]):=by
 refine Qc.walk 19 func83 rfl rfl rfl fun C hC=>?_
 refine Qa hC [.n 9,.o (.ln g.length),.n 4,.K [0,1,7,8] [609]] rfl ⟨tt_,Qi⟩ ?_
 obtain⟨k,i,h⟩:=Qd h
 refine AK.loop (body:=(fun st=>Qdz g c st)) (fun st σ=>σ=⟨[(0,.sl 1 (g.map Qk)),(1,.clo (.func 49) [] [.loc 609 0 0]),(7,.I (g.length:Int)),(8,.I st)],[(609,.var (Qb c))]⟩) (Sum.elim (fun q e σ=>e=.ret∧σ=⟨[(4,.I q)],[(609,.var (Qb c))]⟩) (fun q e σ=>e=.exit 0∧σ=⟨[],[(609,.var (Qb c))]⟩)) i rfl ?_ ?_
 ·rintro t o σ rfl h
  refine tg_ hC [.n 6] rfl ?_
  rcases Qs h with⟨f,h⟩|⟨f,h⟩
  ·obtain⟨p,l,h⟩:=Qd h
   obtain⟨m,j,h⟩:=Qd h
   refine Qa hC [.T,.n 15,.o (.row (Qk p)),.n 1,.cm (.clo) [(609,609)] [(609,609)] [] [.d,.d] [(609,.var (Qb c))] (.b m),.n 2] rfl ⟨⟨⟨tt_,f⟩,(QC l)⟩,(Qnu _ _ j)⟩ ?_
   refine bg_ h (fun a h=>Qa hC [.T,.n 9,.K [4] [609]] rfl ⟨tt_,a⟩ ?_) fun a h=>Qa hC [.F,.n 7,.K [0,1,7,8] [609]] rfl ⟨tt_,a⟩ ?_
   ·cases h
    exact QaN rfl (an_ rfl rfl)
   cases h
   exact QU rfl rfl
  refine Qa hC [.F,.n 2,.K [] [609]] rfl ⟨tt_,f⟩ ?_
  cases h
  exact QV rfl (an_ rfl rfl)
 rcases k with(s | _)
 ·replace h:QdA s=some r:=h
  rintro e σ ⟨rfl,rfl⟩
  refine tg_ hC [.n 2] rfl ?_
  cases h
  exact d1_ rfl rfl ⟨rfl,tt_⟩
 replace h:QdB=some r:=h
 rintro e σ ⟨rfl,rfl⟩
 refine tg_ hC [.n 8] rfl ?_
 cases h
 exact d1_ rfl rfl ⟨rfl,tt_⟩
def QdC (a:QLL)(b:Int):Option Bool:=
 (Qez a b).bind fun c=>
 some (decide (0≤c))
theorem Qhk (e a){r}(h:QdC e a=some r):Qc prog 48 [.sl 1 (e.map Qk),.clo (.func 49) [] [.loc 609 0 0]] [(609,.var (Qb a))] (Qh (.b r) [(609,.var (Qb a))]):=by
 refine Qc.walk 9 func48 rfl rfl rfl fun C hC=>?_
 obtain⟨f,c,h⟩:=Qd h
 refine Qa hC [.n 9,.cm (.fn) [(609,609)] [(609,609)] [] [.d,.d] [(609,.var (Qb a))] (.I f),.n 5] rfl ⟨tt_,(QiC _ _ c)⟩ ?_
 cases h
 exact d1_ rfl rfl ⟨rfl,tt_⟩
def QgU (b:Int)(a:(List Int)):Option ((Int×(List Int))⊕(List Int)):=
 some (.inl ((w64 (b+1)),a))
def QjU (a:Int)(e:QLL)(b:Int)(c:(List Int)):Option ((Int×(List Int))⊕(List Int)):=
 bif (decide (b<(max2 0 (min2 a 1000))))then
 (QdC e b).bind fun d=>
 bif d then
 (chk (decide (c.length+([b]:List Int).length≤4294967296))).bind fun _=>
 QgU b (c++([b]:List Int))
 else
 QgU b c
 else
 some (.inr c)
def QjV (a:(List Int)):Option (List Int):=
 some a
def Ql1 (b:QLL)(a:Int):Option (List Int):=
 (Qw (fun st=>QjU a b st.1 st.2) (0,([]:List Int))).bind (fun q=>QjV q)
theorem Qon (j a){r}(h:Ql1 j a=some r):Qc prog 22 [.sl 1 (j.map Qk),.I a] [] (Qh (.own 600 r.length) [(600,.arr 1 (r.map Qb))]):=by
 refine Qc.walk 24 func22 rfl rfl rfl fun C hC=>?_
 refine Qa hC [.n 20,.adopt 5 18 1,.O 18 (.arr 1 (([]:List Int).map Qb)),.S 5 (.own 18 ([]:List Int).length),.K [0,5,10,11] [18]] rfl ⟨⟨tt_,rfl⟩,(congrArg (fun n=>V.own 18 n) (by simp))⟩ ?_
 obtain⟨t,k,h⟩:=Qd h
 refine AK.loop (body:=(fun st=>QjU a j st.1 st.2)) (fun st σ=>σ=⟨[(0,.sl 1 (j.map Qk)),(5,.own 18 st.2.length),(10,.I (max2 0 (min2 a 1000))),(11,.I st.1)],[(18,.arr 1 (st.2.map Qb))]⟩) (fun q e σ=>e=.exit 0∧σ=⟨[(5,.own 18 q.length)],[(18,.arr 1 (q.map Qb))]⟩) k rfl ?_ ?_
 ·rintro ⟨i,s⟩ o σ rfl h
  refine tg_ hC [.n 6] rfl ?_
  refine bg_ h (fun c h=>Qa hC [.T,.n 2] rfl ⟨tt_,c⟩ ?_) fun c h=>Qa hC [.F,.n 2,.K [5] [18]] rfl ⟨tt_,c⟩ ?_
  ·refine AK.meet (fun σ=>∃g:(List Int),σ=⟨[(0,.sl 1 (j.map Qk)),(5,.own 18 g.length),(10,.I (max2 0 (min2 a 1000))),(11,.I i)],[(18,.arr 1 (g.map Qb))]⟩∧QgU i g=some o) ?_ ?_
   ·obtain⟨p,l,h⟩:=Qd h
    refine Qa hC [.n 6,.O 6 (.var (Qb i)),.n 12,.cm (.fn) [(609,6)] [(6,609)] [] [.d,.d] [(609,.var (Qb i))] (.b p),.n 2] rfl ⟨⟨tt_,rfl⟩,(Qhk _ _ l)⟩ ?_
    rcases Qs h with⟨f,h⟩|⟨f,h⟩
    ·obtain⟨m,h⟩:=QaO h
     refine Qa hC [.T,.n 3,.v (.bd []) [] (.sl 1 (([i]:List Int).map Qb)),.app ((s++([i]:List Int)).map Qb) (s++([i]:List Int)).length,.n 3,.K [0,5,10,11] [18]] rfl ⟨⟨⟨tt_,f⟩,rfl⟩,⟨Qi,QhW m Qi,QfU,QjE Qi⟩⟩ ?_
     exact AK.met (ex_ _ (an_ rfl h))
    refine Qa hC [.F,.n 2,.K [0,5,10,11] [18]] rfl ⟨tt_,f⟩ ?_
    exact AK.met (ex_ _ (an_ rfl h))
   rintro σ ⟨g,rfl,h⟩
   refine tg_ hC [.n 4,.K [0,5,10,11] [18]] rfl ?_
   cases h
   exact QU rfl rfl
  cases h
  exact QV rfl (an_ rfl rfl)
 replace h:QjV t=some r:=h
 rintro e σ ⟨rfl,rfl⟩
 refine tg_ hC [.n 9,.K [4] [18],.ren 18 600] rfl ?_
 cases h
 exact d1_ rfl rfl ⟨rfl,tt_⟩
def QpM (b:(QLL×Int))(a:Qm)(l:(Int×Int)):Option Bool:=
 bif (b.2==0)then
 (Qk9 b.1 ([([1,1,0]:List Int)]:List (List Int))).bind fun m=>
 bif m then
 (QaI a ([2,2,0]:List Int)).bind fun c=>
 bif c then
 (QaI a ([1,1,1]:List Int)).bind fun d=>
 bif (!d)then
 (QaI a ([1,2,0]:List Int)).bind fun e=>
 bif (!e)then
 bif (l.1==13)then
 bif (l.2==0)then
 (QbN a).bind fun f=>
 (Qk9 f ([([(-1),1,0]:List Int),([1,(-1),0]:List Int)]:List (List Int))).bind fun g=>
 bif g then
 (QbP a).bind fun h=>
 (Qi4 h ([2]:List Int)).bind fun i=>
 bif i then
 (Ql1 b.1 3).bind fun j=>
 (Qi4 j ([0,1]:List Int)).bind fun k=>
 some k
 else
 some false
 else
 some false
 else
 some false
 else
 some false
 else
 some false
 else
 some false
 else
 some false
 else
 some false
 else
 some false
def QiD (a:Bool):Option Bool:=
 some a
def Qig  : Option Bool:=
 (QjG).bind fun a=>
 (Qif a).bind fun b=>
 (QnG ([2,3,9]:List Int) ([([(0,5)]:List (Int×Int)),([(0,1)]:List (Int×Int)),([]:QBg)]:List QBg)).bind fun c=>
 (QpM b a c).bind (fun d=>QiD d)
theorem QpN  {r:Bool}(h:Qig  = some r):Qc prog 9 [] [] (Qh (.b r) []):=by
 refine Qc.walk 75 func9 rfl rfl rfl fun C hC=>?_
 obtain⟨l,F,h⟩:=Qd h
 obtain⟨Y,G,h⟩:=Qd h
 obtain⟨Z,H,h⟩:=Qd h
 refine Qa hC [.n 7,.o (.c false [] (.agg (Qe l))),.n 2,.O 1 (.var (Qe l)),.n 4,.v .no [] (.agg (Qe l)),.o (.c false [.d] (.tup [.sl 1 (Y.1.map Qk),.I Y.2])),.n 9,.v (.bd []) [] (.sl 1 (([2,3,9]:List Int).map Qb)),.v .no [] (.agg (Qaq (0,5))),.v (.bd []) [] (.sl 2 (([(0,5)]:List (Int×Int)).map Qaq)),.v .no [] (.agg (Qaq (0,1))),.v (.bd []) [] (.sl 2 (([(0,1)]:List (Int×Int)).map Qaq)),.v (.bd [none,none,some 2]) [] (.sl 1 (([([(0,5)]:List (Int×Int)),([(0,1)]:List (Int×Int)),([]:QBg)]:List QBg).map Qjn)),.o (.c false [.d,.d] (.tup [.I Z.1,.I Z.2])),.n 8] rfl ⟨⟨⟨⟨⟨⟨⟨⟨⟨⟨⟨tt_,(Qrl  F)⟩,rfl⟩,rfl⟩,(QpK _ G)⟩,rfl⟩,rfl⟩,rfl⟩,rfl⟩,rfl⟩,rfl⟩,(QpL _ _ H)⟩ ?_
 obtain⟨J,L,h⟩:=Qd h
 replace h:QiD J=some r:=h
 refine AK.meetX (fun σ=>σ=⟨[(0,.b J)],[]⟩) ?_ ?_
 ·replace h:=L
  refine tg_ hC [.n 4] rfl ?_
  rcases Qs h with⟨m,h⟩|⟨m,h⟩
  ·obtain⟨x8,M,h⟩:=Qd h
   refine Qa hC [.S 24 (.b true),.n 1,.v (.bd []) [] (.sl 1 (([1,1,0]:List Int).map Qb)),.v (.bd []) [] (.sl 1 (([([1,1,0]:List Int)]:List (List Int)).map Qk)),.o (.c false [.d,.d] (.b x8)),.n 2] rfl ⟨⟨⟨(tc_ m),rfl⟩,rfl⟩,(Ql0 _ _ M)⟩ ?_
   rcases Qs h with⟨p,h⟩|⟨p,h⟩
   ·obtain⟨N,u,h⟩:=Qd h
    refine Qa hC [.S 30 (.b true),.v .no [] (.agg (Qe l)),.v (.bd []) [] (.sl 1 (([2,2,0]:List Int).map Qb)),.o (.c false [.d,.d] (.b N)),.n 2] rfl ⟨⟨⟨(tc_ p),rfl⟩,rfl⟩,(QaT _ _ u)⟩ ?_
    rcases Qs h with⟨a,h⟩|⟨a,h⟩
    ·obtain⟨P,w,h⟩:=Qd h
     refine Qa hC [.S 35 (.b true),.v .no [] (.agg (Qe l)),.v (.bd []) [] (.sl 1 (([1,1,1]:List Int).map Qb)),.o (.c false [.d,.d] (.b P)),.n 3] rfl ⟨⟨⟨(tc_ a),rfl⟩,rfl⟩,(QaT _ _ w)⟩ ?_
     rcases Qs h with⟨e,h⟩|⟨e,h⟩
     ·obtain⟨T,x,h⟩:=Qd h
      refine Qa hC [.S 41 (.b true),.v .no [] (.agg (Qe l)),.v (.bd []) [] (.sl 1 (([1,2,0]:List Int).map Qb)),.o (.c false [.d,.d] (.b T)),.n 3] rfl ⟨⟨⟨(tc_ e),rfl⟩,rfl⟩,(QaT _ _ x)⟩ ?_
      refine bg_ h (fun f h=>Qa hC [.S 47 (.b true),.n 4] rfl (tc_ f) ?_) fun f h=>Qa hC [.S 47 (.b false),.n 29,.K [0] []] rfl (tc_ f) ?_
      ·refine bg_ h (fun g h=>Qa hC [.S 51 (.b true),.n 4] rfl (tc_ g) ?_) fun g h=>Qa hC [.S 51 (.b false),.n 25,.K [0] []] rfl (tc_ g) ?_
       ·rcases Qs h with⟨i,h⟩|⟨i,h⟩
        ·obtain⟨q,y,h⟩:=Qd h
         obtain⟨U,z,h⟩:=Qd h
         refine Qa hC [.S 55 (.b true),.v .no [] (.agg (Qe l)),.o (.co false [.d] 1 (q.map Qk) q.length),.v (.bd []) [] (.sl 1 (([(-1),1,0]:List Int).map Qb)),.v (.bd []) [] (.sl 1 (([1,(-1),0]:List Int).map Qb)),.v (.bd []) [] (.sl 1 (([([(-1),1,0]:List Int),([1,(-1),0]:List Int)]:List (List Int)).map Qk)),.o (.c true [.o (q.map Qk),.d] (.b U)),.n 2] rfl ⟨⟨⟨⟨⟨⟨(tc_ i),rfl⟩,⟨(QgP _ y),Qi,.inl rfl⟩⟩,rfl⟩,rfl⟩,rfl⟩,⟨(QeR rfl),(Ql0 _ _ z)⟩⟩ ?_
         rcases Qs h with⟨j,h⟩|⟨j,h⟩
         ·obtain⟨s,A,h⟩:=Qd h
          obtain⟨W,B,h⟩:=Qd h
          refine Qa hC [.S 63 (.b true),.v .no [] (.agg (Qe l)),.o (.co false [.d] 1 (s.map Qb) s.length),.v (.bd []) [] (.sl 1 (([2]:List Int).map Qb)),.o (.c true [.o (s.map Qb),.d] (.b W)),.n 2] rfl ⟨⟨⟨⟨(tc_ j),rfl⟩,⟨(QgR _ A),Qi,.inl rfl⟩⟩,rfl⟩,⟨(QeR rfl),(Qi5 _ _ B)⟩⟩ ?_
          rcases Qs h with⟨k,h⟩|⟨k,h⟩
          ·obtain⟨t,D,h⟩:=Qd h
           obtain⟨X,E,h⟩:=Qd h
           refine Qa hC [.S 69 (.b true),.n 1,.o (.co false [.d,.d] 1 (t.map Qb) t.length),.v (.bd []) [] (.sl 1 (([0,1]:List Int).map Qb)),.o (.c true [.o (t.map Qb),.d] (.b X)),.n 3,.K [0] []] rfl ⟨⟨⟨(tc_ k),⟨(Qon _ _ D),Qi,.inl rfl⟩⟩,rfl⟩,⟨(QeR rfl),(Qi5 _ _ E)⟩⟩ ?_
           cases h
           exact AK.met rfl
          refine Qa hC [.S 69 (.b false),.n 7,.K [0] []] rfl (tc_ k) ?_
          cases h
          exact AK.met rfl
         refine Qa hC [.S 63 (.b false),.n 13,.K [0] []] rfl (tc_ j) ?_
         cases h
         exact AK.met rfl
        refine Qa hC [.S 55 (.b false),.n 21,.K [0] []] rfl (tc_ i) ?_
        cases h
        exact AK.met rfl
       cases h
       exact AK.met rfl
      cases h
      exact AK.met rfl
     refine Qa hC [.S 41 (.b false),.n 35,.K [0] []] rfl (tc_ e) ?_
     cases h
     exact AK.met rfl
    refine Qa hC [.S 35 (.b false),.n 41,.K [0] []] rfl (tc_ a) ?_
    cases h
    exact AK.met rfl
   refine Qa hC [.S 30 (.b false),.n 46,.K [0] []] rfl (tc_ p) ?_
   cases h
   exact AK.met rfl
  refine Qa hC [.S 24 (.b false),.n 52,.K [0] []] rfl (tc_ m) ?_
  cases h
  exact AK.met rfl
 rintro σ rfl
 replace h:QiD J=some r:=h
 refine tg_ hC [.n 2] rfl ?_
 cases h
 exact d1_ rfl rfl tt_
def Qhl (f:Qj)(rec_law04_few:Qj→Int→Option Int)(a:Int)(c:Int)(d:Int):Option ((Int×Int)⊕(Unit⊕Int)):=
 bif (decide (d<(f.Kids.length:Int)))then
 (idx f.Kids d).bind fun e=>
 (rec_law04_few e (w64 (a-1))).bind fun b=>
 bif (b==0)then
 some (.inr (.inl ()))
 else
 bif (decide ((w64 ((w64 (c-500))+b))≤1))then
 some (.inr (.inl ()))
 else
 some (.inl ((w64 ((w64 (c-500))+b)),(w64 (d+1))))
 else
 some (.inr (.inr c))
def QmJ : Option Int:=
 some 0
def QmK (a:Int):Option Int:=
 some (w64 (a-1))
def Qj2 (rec_law04_few:Qj→Int→Option Int)(b:Qj)(a:Int):Option Int:=
 bif ((decide (a≤0))||(decide (9<(b.Kids.length:Int))))then
 some 0
 else
 (Qw (fun st=>Qhl b rec_law04_few a st.1 st.2) (500,0)).bind (Sum.elim (fun q=>QmJ) (fun q=>QmK q))
def QcU : Nat→Qj→Int→Option Int
 | 0,_,_=>none
 | n+1,b,a=>Qj2 (QcU n) b a
def Qml (b:Qj)(a:Int):Option Int:=QcU (SizeOf.sizeOf b) b a
theorem QpO (rec_law04_few:Qj→Int→Option Int)(hrec_law04_few:∀(f:Qj) (a:Int) {r:Int},rec_law04_few f a=some r→Qc prog 102 [.agg (Qo f),.I a] [] (Qh (.I r) []))(f:Qj)(a:Int){r:Int}(h:Qj2 rec_law04_few f a=some r):Qc prog 102 [.agg (Qo f),.I a] [] (Qh (.I r) []):=by
 refine Qc.walk 41 func102 rfl rfl rfl fun C hC=>?_
 refine tg_ hC [.n 8] rfl ?_
 refine AK.meetX (fun σ=>σ=⟨[(1,.I a),(2,.loc 2 0 0),(15,.b ((decide (a≤0))||(decide (9<(f.Kids.length:Int)))))],[(2,.var (Qo f))]⟩) ?_ ?_
 ·refine tg_ hC [.n 4] rfl ?_
  rcases QQ (decide (a≤0))with g | g
  ·refine Qa hC [.S 10 (.b true),.n 6,.S 15 (.b ((decide (a≤0))||(decide (9<(f.Kids.length:Int))))),.K [1,2,15] [2]] rfl ⟨(tc_ g),(congrArg V.b (orT g rfl))⟩ ?_
   exact AK.met rfl
  refine Qa hC [.S 10 (.b false),.n 2,.o (.ln f.Kids.length),.n 3,.S 15 (.b ((decide (a≤0))||(decide (9<(f.Kids.length:Int))))),.K [1,2,15] [2]] rfl ⟨⟨(tc_ g),Qha _⟩,(congrArg V.b (orF g rfl))⟩ ?_
  exact AK.met rfl
 rintro σ rfl
 refine tg_ hC [.n 1] rfl ?_
 refine bg_ h (fun l h=>Qa hC [.T,.n 7,.K [4] []] rfl ⟨tt_,l⟩ ?_) fun l h=>Qa hC [.F,.n 14,.K [1,2,5,6] [2]] rfl ⟨tt_,l⟩ ?_
 ·cases h
  exact d1_ rfl rfl tt_
 obtain⟨u,m,h⟩:=Qd h
 refine AK.loop (body:=(fun st=>Qhl f rec_law04_few a st.1 st.2)) (fun st σ=>σ=⟨[(1,.I a),(2,.loc 2 0 0),(5,.I st.1),(6,.I st.2)],[(2,.var (Qo f))]⟩) (Sum.elim (fun q e σ=>e=.ret∧σ=⟨[(4,.I 0)],[]⟩) (fun q e σ=>e=.exit 0∧σ=⟨[(5,.I q)],[]⟩)) m rfl ?_ ?_
 ·rintro ⟨y,z⟩ o σ rfl h
  refine Qa hC [.n 6,.o (.ln f.Kids.length),.n 3] rfl ⟨tt_,Qha _⟩ ?_
  rcases Qs h with⟨i,h⟩|⟨i,h⟩
  ·obtain⟨p,s,h⟩:=Qd h
   obtain⟨w,t,h⟩:=Qd h
   refine Qa hC [.T,.n 9,.o (.row (Qo p)),.v .no [] (.agg (Qo p)),.n 2,.o (.c false [.d,.d] (.I w)),.n 10] rfl ⟨⟨⟨⟨tt_,i⟩,(QkC s)⟩,rfl⟩,(hrec_law04_few _ _ t)⟩ ?_
   refine bg_ h (fun j h=>Qa hC [.T,.n 9,.K [4] []] rfl ⟨tt_,j⟩ ?_) fun j h=>Qa hC [.F,.n 17] rfl ⟨tt_,j⟩ ?_
   ·cases h
    exact QaN rfl (an_ rfl rfl)
   refine bg_ h (fun k h=>Qa hC [.T,.n 8,.K [4] []] rfl ⟨tt_,k⟩ ?_) fun k h=>Qa hC [.F,.n 8,.K [1,2,5,6] [2]] rfl ⟨tt_,k⟩ ?_
   ·cases h
    exact QaN rfl (an_ rfl rfl)
   cases h
   exact QU rfl rfl
  refine Qa hC [.F,.n 2,.K [5] []] rfl ⟨tt_,i⟩ ?_
  cases h
  exact QV rfl (an_ rfl rfl)
 rcases u with(_ | x)
 ·replace h:QmJ=some r:=h
  rintro e σ ⟨rfl,rfl⟩
  refine tg_ hC [.n 2] rfl ?_
  cases h
  exact d1_ rfl rfl tt_
 replace h:QmK x=some r:=h
 rintro e σ ⟨rfl,rfl⟩
 refine tg_ hC [.n 10] rfl ?_
 cases h
 exact d1_ rfl rfl tt_
theorem Qlb : ∀(fuel:Nat) (b:Qj) (a:Int) {r:Int},QcU fuel b a=some r→Qc prog 102 [.agg (Qo b),.I a] [] (Qh (.I r) [])
 | 0,_,_,_,h=>by cases h
 | n+1,b,a,_,h=>QpO (QcU n) (fun _ _ _ h=>Qlb n _ _ h) b a h
theorem Qro (b a){r}(h:Qml b a=some r):Qc prog 102 [.agg (Qo b),.I a] [] (Qh (.I r) []):=Qlb _ b a h
def QfW (a:Qj):Option Bool:=
 (Qml a 60).bind fun b=>
 some (decide (0<b))
theorem Qjq (a){r}(h:QfW a=some r):Qc prog 63 [.agg (Qo a)] [] (Qh (.b r) []):=by
 refine Qc.walk 6 func63 rfl rfl rfl fun C hC=>?_
 obtain⟨f,e,h⟩:=Qd h
 refine Qa hC [.n 8,.v .no [] (.agg (Qo a)),.o (.c false [.d,.d] (.I f)),.n 5] rfl ⟨⟨tt_,rfl⟩,(Qro _ _ e)⟩ ?_
 cases h
 exact d1_ rfl rfl tt_
def QmL (d:Qm)(e:Int)(a:Int)(b:QD):Option Bool:=
 (idx d.Colours e).bind fun c=>
 bif (decide (100<(c.Name.size:Int)))then
 some true
 else
 some (decide (400<(w64 (a+(b.Names.length:Int)))))
def Qhm (e:Qm)(f:Int)(a:Int):Option (Int⊕(Unit⊕Unit)):=
 (idx e.Colours f).bind fun b=>
 bif (decide (a<(b.Names.length:Int)))then
 (idx e.Colours f).bind fun c=>
 (idx c.Names a).bind fun d=>
 bif (decide (100<(d.size:Int)))then
 some (.inr (.inl ()))
 else
 some (.inl (w64 (a+1)))
 else
 some (.inr (.inr ()))
def QmM : Option ((Int×Int)⊕(Unit⊕Int)):=
 some (.inr (.inl ()))
def QmN (a:Int)(b:QD)(c:Int):Option ((Int×Int)⊕(Unit⊕Int)):=
 some (.inl ((w64 (a+(b.Names.length:Int))),(w64 (c+1))))
def Qhn (e:Qm)(d:Int)(a:Int)(b:QD)(c:Bool):Option ((Int×Int)⊕(Unit⊕Int)):=
 bif c then
 some (.inr (.inl ()))
 else
 (Qw (fun st=>Qhm e d st) 0).bind (Sum.elim (fun q=>QmM) (fun q=>QmN a b d))
def Qho (c:Qm)(a:Int)(d:Int):Option ((Int×Int)⊕(Unit⊕Int)):=
 bif (decide (d<(c.Colours.length:Int)))then
 (idx c.Colours d).bind fun b=>
 (QmL c d a b).bind (fun e=>Qhn c d a b e)
 else
 some (.inr (.inr a))
def QmO : Option Bool:=
 some false
def Qhp (c:Qm)(a:Int)(b:Int):Option ((Int×Int)⊕(Unit⊕Int)):=
 bif (decide (b<(c.Places.length:Int)))then
 (idx c.Places b).bind fun d=>
 (idx c.Places b).bind fun e=>
 bif (decide (100<(e.Name.size:Int)))then
 some (.inr (.inl ()))
 else
 some (.inl ((w64 (a+(d.First.length:Int))),(w64 (b+1))))
 else
 some (.inr (.inr a))
def QmP : Option Bool:=
 some false
def Qgd (b:Qu)(a:Int):Option (Int⊕(Unit⊕Unit)):=
 bif (decide (a<(b.Vars.length:Int)))then
 (idx b.Vars a).bind fun c=>
 bif (decide (100<(c.Name.size:Int)))then
 some (.inr (.inl ()))
 else
 some (.inl (w64 (a+1)))
 else
 some (.inr (.inr ()))
def Ql2 : Option ((Int×Int)⊕(Unit⊕Unit)):=
 some (.inr (.inl ()))
def Qge (c:Qu)(a:Bool)(b:Int):Option ((Bool×Int)⊕Bool):=
 bif (decide (b<(c.Ins.length:Int)))then
 (idx c.Ins b).bind fun d=>
 (QfW d.Expr).bind fun e=>
 some (.inl ((a&&e),(w64 (b+1))))
 else
 some (.inr a)
def Qgf (c:Qu)(a:Bool)(b:Int):Option ((Bool×Int)⊕Bool):=
 bif (decide (b<(c.Outs.length:Int)))then
 (idx c.Outs b).bind fun d=>
 (QfW d.Expr).bind fun e=>
 some (.inl ((a&&e),(w64 (b+1))))
 else
 some (.inr a)
def Qgg (a:Int)(b:Qu)(d:Int)(c:Bool):Option ((Int×Int)⊕(Unit⊕Unit)):=
 bif (!c)then
 some (.inr (.inl ()))
 else
 some (.inl ((w64 ((w64 ((w64 ((w64 (a+(b.Vars.length:Int)))+(b.Ins.length:Int)))+(b.Outs.length:Int)))+(b.Cancel.length:Int))),(w64 (d+1))))
def Qgh (b:Qu)(a:Int)(d:Int)(c:Bool):Option ((Int×Int)⊕(Unit⊕Unit)):=
 (Qw (fun st=>Qgf b st.1 st.2) (c,0)).bind (fun q=>Qgg a b d q)
def Qgi (b:Qu)(a:Int)(c:Int):Option ((Int×Int)⊕(Unit⊕Unit)):=
 (QfW b.Guard).bind fun d=>
 (Qw (fun st=>Qge b st.1 st.2) (d,0)).bind (fun q=>Qgh b a c q)
def Qgj (d:Qm)(b:Int)(c:Int):Option ((Int×Int)⊕(Unit⊕Unit)):=
 bif (decide (c<(d.Tasks.length:Int)))then
 (idx d.Tasks c).bind fun a=>
 bif ((decide (200<(w64 ((w64 ((w64 ((w64 (b+(a.Vars.length:Int)))+(a.Ins.length:Int)))+(a.Outs.length:Int)))+(a.Cancel.length:Int)))))||(decide (100<(a.Name.size:Int))))then
 some (.inr (.inl ()))
 else
 (Qw (fun st=>Qgd a st) 0).bind (Sum.elim (fun q=>Ql2) (fun q=>Qgi a b c))
 else
 some (.inr (.inr ()))
def Ql3 : Option Bool:=
 some false
def Ql4 (a:Int):Option Bool:=
 some (decide (a≤400))
def Qgk (b:Qm)(a:Int):Option Bool:=
 (Qw (fun st=>Qgj b st.1 st.2) (0,0)).bind (Sum.elim (fun q=>Ql3) (fun q=>Ql4 a))
def Qgl (b:Qm)(a:Int):Option Bool:=
 (Qw (fun st=>Qhp b st.1 st.2) (a,0)).bind (Sum.elim (fun q=>QmP) (fun q=>Qgk b q))
def Qh5 (a:Qm):Option Bool:=
 bif ((decide (40<(a.Colours.length:Int)))||((decide (70<(a.Places.length:Int)))||(decide (70<(a.Tasks.length:Int)))))then
 some false
 else
 (Qw (fun st=>Qho a st.1 st.2) (0,0)).bind (Sum.elim (fun q=>QmO) (fun q=>Qgl a q))
theorem Qrp (i){r}(h:Qh5 i=some r):Qc prog 32 [.agg (Qe i)] [] (Qh (.b r) []):=by
 refine Qc.walk 201 func32 rfl rfl rfl fun C hC=>?_
 unfold Qh5 at h
 refine tg_ hC [.n 8] rfl ?_
 refine AK.meetX (fun σ=>σ=⟨[(1,.loc 1 0 0),(31,.b ((decide (40<(i.Colours.length:Int)))||((decide (70<(i.Places.length:Int)))||(decide (70<(i.Tasks.length:Int))))))],[(1,.var (Qe i))]⟩) ?_ ?_
 ·refine Qa hC [.n 3,.o (.ln i.Colours.length),.n 2] rfl ⟨tt_,Qi⟩ ?_
  rcases QQ (decide (40<(i.Colours.length:Int)))with w | w
  ·refine Qa hC [.S 20 (.b true),.n 12,.S 31 (.b ((decide (40<(i.Colours.length:Int)))||((decide (70<(i.Places.length:Int)))||(decide (70<(i.Tasks.length:Int)))))),.K [1,31] [1]] rfl ⟨(tc_ w),(congrArg V.b (orT w rfl))⟩ ?_
   exact AK.met rfl
  refine Qa hC [.S 20 (.b false),.n 2,.o (.ln i.Places.length),.n 3] rfl ⟨(tc_ w),Qi⟩ ?_
  rcases QQ (decide (70<(i.Places.length:Int)))with x | x
  ·refine Qa hC [.S 26 (.b true),.n 6,.S 31 (.b ((decide (40<(i.Colours.length:Int)))||((decide (70<(i.Places.length:Int)))||(decide (70<(i.Tasks.length:Int)))))),.K [1,31] [1]] rfl ⟨(tc_ x),(congrArg V.b (orF w (orT x rfl)))⟩ ?_
   exact AK.met rfl
  refine Qa hC [.S 26 (.b false),.n 2,.o (.ln i.Tasks.length),.n 3,.S 31 (.b ((decide (40<(i.Colours.length:Int)))||((decide (70<(i.Places.length:Int)))||(decide (70<(i.Tasks.length:Int)))))),.K [1,31] [1]] rfl ⟨⟨(tc_ x),Qi⟩,(congrArg V.b (orF w (orF x rfl)))⟩ ?_
  exact AK.met rfl
 rintro σ rfl
 refine tg_ hC [.n 1] rfl ?_
 refine bg_ h (fun Z h=>Qa hC [.T,.n 7,.K [2] []] rfl ⟨tt_,Z⟩ ?_) fun Z h=>Qa hC [.F,.n 14,.K [1,3,4] [1]] rfl ⟨tt_,Z⟩ ?_
 ·cases h
  exact d1_ rfl rfl tt_
 obtain⟨d0,a1,h⟩:=Qd h
 refine AK.loop (body:=(fun st=>Qho i st.1 st.2)) (fun st σ=>σ=⟨[(1,.loc 1 0 0),(3,.I st.1),(4,.I st.2)],[(1,.var (Qe i))]⟩) (Sum.elim (fun q e σ=>e=.ret∧σ=⟨[(2,.b false)],[]⟩) (fun q e σ=>e=.exit 0∧σ=⟨[(1,.loc 1 0 0),(3,.I q)],[(1,.var (Qe i))]⟩)) a1 rfl ?_ ?_
 ·rintro ⟨j,i9⟩ o σ rfl h
  refine Qa hC [.n 6,.o (.ln i.Colours.length),.n 3] rfl ⟨tt_,Qi⟩ ?_
  rcases Qs h with⟨y,h⟩|⟨y,h⟩
  ·obtain⟨l,a2,h⟩:=Qd h
   refine Qa hC [.T,.n 10,.o (.row (Qv l)),.n 2,.o (.ln l.Names.length),.n 6] rfl ⟨⟨⟨tt_,y⟩,(QC a2)⟩,Qi⟩ ?_
   obtain⟨a0,a3,h⟩:=Qd h
   replace h:Qhn i i9 j l a0=some o:=h
   refine AK.meetX (fun σ=>σ=⟨[(1,.loc 1 0 0),(3,.I (w64 (j+(l.Names.length:Int)))),(4,.I i9),(59,.b a0)],[(1,.var (Qe i))]⟩) ?_ ?_
   ·replace h:=a3
    obtain⟨d1,a4,h⟩:=Qd h
    refine Qa hC [.n 4,.o (.row (Qv d1)),.n 5] rfl ⟨tt_,(QC a4)⟩ ?_
    refine bg_ h (fun z h=>Qa hC [.S 56 (.b true),.n 4,.K [1,3,4,59] [1]] rfl (tc_ z) ?_) fun z h=>Qa hC [.S 56 (.b false),.n 4,.K [1,3,4,59] [1]] rfl (tc_ z) ?_
    ·cases h
     exact AK.met rfl
    cases h
    exact AK.met rfl
   rintro σ rfl
   replace h:Qhn i i9 j l a0=some o:=h
   refine tg_ hC [.n 1] rfl ?_
   refine bg_ h (fun A h=>Qa hC [.T,.n 9,.K [2] []] rfl ⟨tt_,A⟩ ?_) fun A h=>Qa hC [.F,.n 8,.K [1,3,4,5] [1]] rfl ⟨tt_,A⟩ ?_
   ·cases h
    exact QaN rfl (an_ rfl rfl)
   obtain⟨d2,a5,h⟩:=Qd h
   refine AK.loop (body:=(fun st=>Qhm i i9 st)) (fun st σ=>σ=⟨[(1,.loc 1 0 0),(3,.I (w64 (j+(l.Names.length:Int)))),(4,.I i9),(5,.I st)],[(1,.var (Qe i))]⟩) (Sum.elim (fun q e σ=>e=.ret∧σ=⟨[(2,.b false)],[]⟩) (fun q e σ=>e=.exit 2∧σ=⟨[(1,.loc 1 0 0),(3,.I (w64 (j+(l.Names.length:Int)))),(4,.I i9)],[(1,.var (Qe i))]⟩)) a5 rfl ?_ ?_
   ·rintro e3 o σ rfl h
    obtain⟨a6,a7,h⟩:=Qd h
    refine Qa hC [.n 7,.o (.row (Qv a6)),.n 2,.o (.ln a6.Names.length),.n 3] rfl ⟨⟨tt_,(QC a7)⟩,Qi⟩ ?_
    rcases Qs h with⟨B,h⟩|⟨B,h⟩
    ·obtain⟨d3,a8,h⟩:=Qd h
     obtain⟨d4,a9,h⟩:=Qd h
     refine Qa hC [.T,.n 9,.o (.row (Qv d3)),.n 3,.o (.row (Qb7 d4)),.n 5] rfl ⟨⟨⟨tt_,B⟩,(QC a8)⟩,(QC a9)⟩ ?_
     refine bg_ h (fun D h=>Qa hC [.T,.n 8,.K [2] []] rfl ⟨tt_,D⟩ ?_) fun D h=>Qa hC [.F,.n 8,.K [1,3,4,5] [1]] rfl ⟨tt_,D⟩ ?_
     ·cases h
      exact QaN rfl (an_ rfl rfl)
     cases h
     exact QU rfl rfl
    refine Qa hC [.F,.n 2,.K [1,3,4] [1]] rfl ⟨tt_,B⟩ ?_
    cases h
    exact QV rfl (an_ rfl rfl)
   rcases d2 with(_ | _)
   ·replace h:QmM=some o:=h
    rintro e σ ⟨rfl,rfl⟩
    refine tg_ hC [.n 3,.K [2] []] rfl ?_
    cases h
    exact QaN rfl (an_ rfl rfl)
   replace h:QmN j l i9=some o:=h
   rintro e σ ⟨rfl,rfl⟩
   refine tg_ hC [.n 8,.K [1,3,4] [1]] rfl ?_
   cases h
   exact QU rfl rfl
  refine Qa hC [.F,.n 2,.K [1,3] [1]] rfl ⟨tt_,y⟩ ?_
  cases h
  exact QV rfl (an_ rfl rfl)
 rcases d0 with(_ | E)
 ·replace h:QmO=some r:=h
  rintro e σ ⟨rfl,rfl⟩
  refine tg_ hC [.n 2] rfl ?_
  cases h
  exact d1_ rfl rfl tt_
 replace h:Qgl i E=some r:=h
 rintro e σ ⟨rfl,rfl⟩
 refine tg_ hC [.n 9,.K [1,3,6] [1]] rfl ?_
 obtain⟨d5,b0,h⟩:=Qd h
 refine AK.loop (body:=(fun st=>Qhp i st.1 st.2)) (fun st σ=>σ=⟨[(1,.loc 1 0 0),(3,.I st.1),(6,.I st.2)],[(1,.var (Qe i))]⟩) (Sum.elim (fun q e σ=>e=.ret∧σ=⟨[(2,.b false)],[]⟩) (fun q e σ=>e=.exit 4∧σ=⟨[(1,.loc 1 0 0),(3,.I q)],[(1,.var (Qe i))]⟩)) b0 rfl ?_ ?_
 ·rintro ⟨b1,e4⟩ o σ rfl h
  refine Qa hC [.n 6,.o (.ln i.Places.length),.n 3] rfl ⟨tt_,Qi⟩ ?_
  rcases Qs h with⟨G,h⟩|⟨G,h⟩
  ·obtain⟨b2,b3,h⟩:=Qd h
   obtain⟨d6,b4,h⟩:=Qd h
   refine Qa hC [.T,.n 10,.o (.row (Qq b2)),.n 2,.o (.ln b2.First.length),.n 9,.o (.row (Qq d6)),.n 6] rfl ⟨⟨⟨⟨tt_,G⟩,(QC b3)⟩,Qi⟩,(QC b4)⟩ ?_
   refine bg_ h (fun H h=>Qa hC [.T,.n 8,.K [2] []] rfl ⟨tt_,H⟩ ?_) fun H h=>Qa hC [.F,.n 8,.K [1,3,6] [1]] rfl ⟨tt_,H⟩ ?_
   ·cases h
    exact QaN rfl (an_ rfl rfl)
   cases h
   exact QU rfl rfl
  refine Qa hC [.F,.n 2,.K [1,3] [1]] rfl ⟨tt_,G⟩ ?_
  cases h
  exact QV rfl (an_ rfl rfl)
 rcases d5 with(_ | g)
 ·replace h:QmP=some r:=h
  rintro e σ ⟨rfl,rfl⟩
  refine tg_ hC [.n 2] rfl ?_
  cases h
  exact d1_ rfl rfl tt_
 replace h:Qgk i g=some r:=h
 rintro e σ ⟨rfl,rfl⟩
 refine tg_ hC [.n 14,.K [1,3,7,8] [1]] rfl ?_
 obtain⟨d7,b5,h⟩:=Qd h
 refine AK.loop (body:=(fun st=>Qgj i st.1 st.2)) (fun st σ=>σ=⟨[(1,.loc 1 0 0),(3,.I g),(7,.I st.1),(8,.I st.2)],[(1,.var (Qe i))]⟩) (Sum.elim (fun q e σ=>e=.ret∧σ=⟨[(2,.b false)],[]⟩) (fun q e σ=>e=.exit 6∧σ=⟨[(3,.I g)],[]⟩)) b5 rfl ?_ ?_
 ·rintro ⟨f,k⟩ o σ rfl h
  refine Qa hC [.n 6,.o (.ln i.Tasks.length),.n 3] rfl ⟨tt_,Qi⟩ ?_
  rcases Qs h with⟨J,h⟩|⟨J,h⟩
  ·obtain⟨a,b6,h⟩:=Qd h
   refine Qa hC [.T,.n 9,.o (.row (Qf a)),.v .no [] (.agg (Qf a)),.n 2,.O 9 (.var (Qf a)),.n 7,.o (.ln a.Vars.length),.n 3,.o (.ln a.Ins.length),.n 3,.o (.ln a.Outs.length),.n 3,.o (.ln a.Cancel.length),.n 6] rfl ⟨⟨⟨⟨⟨⟨⟨⟨tt_,J⟩,(QC b6)⟩,rfl⟩,rfl⟩,Qi⟩,Qi⟩,Qi⟩,Qi⟩ ?_
   refine AK.meetX (fun σ=>σ=⟨[(1,.loc 1 0 0),(3,.I g),(7,.I (w64 ((w64 ((w64 ((w64 (f+(a.Vars.length:Int)))+(a.Ins.length:Int)))+(a.Outs.length:Int)))+(a.Cancel.length:Int)))),(8,.I k),(9,.loc 9 0 0),(142,.b ((decide (200<(w64 ((w64 ((w64 ((w64 (f+(a.Vars.length:Int)))+(a.Ins.length:Int)))+(a.Outs.length:Int)))+(a.Cancel.length:Int)))))||(decide (100<(a.Name.size:Int)))))],[(1,.var (Qe i)),(9,.var (Qf a))]⟩) ?_ ?_
   ·refine tg_ hC [.n 4] rfl ?_
    rcases QQ (decide (200<(w64 ((w64 ((w64 ((w64 (f+(a.Vars.length:Int)))+(a.Ins.length:Int)))+(a.Outs.length:Int)))+(a.Cancel.length:Int)))))with m | m
    ·refine Qa hC [.S 137 (.b true),.n 6,.S 142 (.b ((decide (200<(w64 ((w64 ((w64 ((w64 (f+(a.Vars.length:Int)))+(a.Ins.length:Int)))+(a.Outs.length:Int)))+(a.Cancel.length:Int)))))||(decide (100<(a.Name.size:Int))))),.K [1,3,7,8,9,142] [1,9]] rfl ⟨(tc_ m),(congrArg V.b (orT m rfl))⟩ ?_
     exact AK.met rfl
    refine Qa hC [.S 137 (.b false),.n 6,.S 142 (.b ((decide (200<(w64 ((w64 ((w64 ((w64 (f+(a.Vars.length:Int)))+(a.Ins.length:Int)))+(a.Outs.length:Int)))+(a.Cancel.length:Int)))))||(decide (100<(a.Name.size:Int))))),.K [1,3,7,8,9,142] [1,9]] rfl ⟨(tc_ m),(congrArg V.b (orF m rfl))⟩ ?_
    exact AK.met rfl
   rintro σ rfl
   refine tg_ hC [.n 1] rfl ?_
   refine bg_ h (fun L h=>Qa hC [.T,.n 9,.K [2] []] rfl ⟨tt_,L⟩ ?_) fun L h=>Qa hC [.F,.n 9,.K [1,3,7,8,9,10] [1,9]] rfl ⟨tt_,L⟩ ?_
   ·cases h
    exact QaN rfl (an_ rfl rfl)
   obtain⟨d8,b7,h⟩:=Qd h
   refine AK.loop (body:=(fun st=>Qgd a st)) (fun st σ=>σ=⟨[(1,.loc 1 0 0),(3,.I g),(7,.I (w64 ((w64 ((w64 ((w64 (f+(a.Vars.length:Int)))+(a.Ins.length:Int)))+(a.Outs.length:Int)))+(a.Cancel.length:Int)))),(8,.I k),(9,.loc 9 0 0),(10,.I st)],[(1,.var (Qe i)),(9,.var (Qf a))]⟩) (Sum.elim (fun q e σ=>e=.ret∧σ=⟨[(2,.b false)],[]⟩) (fun q e σ=>e=.exit 8∧σ=⟨[(1,.loc 1 0 0),(3,.I g),(7,.I (w64 ((w64 ((w64 ((w64 (f+(a.Vars.length:Int)))+(a.Ins.length:Int)))+(a.Outs.length:Int)))+(a.Cancel.length:Int)))),(8,.I k),(9,.loc 9 0 0)],[(1,.var (Qe i)),(9,.var (Qf a))]⟩)) b7 rfl ?_ ?_
   ·rintro e5 o σ rfl h
    refine Qa hC [.n 6,.o (.ln a.Vars.length),.n 3] rfl ⟨tt_,Qi⟩ ?_
    rcases Qs h with⟨M,h⟩|⟨M,h⟩
    ·obtain⟨d9,b8,h⟩:=Qd h
     refine Qa hC [.T,.n 9,.o (.row (Qx d9)),.n 6] rfl ⟨⟨tt_,M⟩,(QC b8)⟩ ?_
     refine bg_ h (fun N h=>Qa hC [.T,.n 8,.K [2] []] rfl ⟨tt_,N⟩ ?_) fun N h=>Qa hC [.F,.n 8,.K [1,3,7,8,9,10] [1,9]] rfl ⟨tt_,N⟩ ?_
     ·cases h
      exact QaN rfl (an_ rfl rfl)
     cases h
     exact QU rfl rfl
    refine Qa hC [.F,.n 2,.K [1,3,7,8,9] [1,9]] rfl ⟨tt_,M⟩ ?_
    cases h
    exact QV rfl (an_ rfl rfl)
   rcases d8 with(_ | _)
   ·replace h:Ql2=some o:=h
    rintro e σ ⟨rfl,rfl⟩
    refine tg_ hC [.n 4,.K [2] []] rfl ?_
    cases h
    exact QaN rfl (an_ rfl rfl)
   replace h:Qgi a f k=some o:=h
   rintro e σ ⟨rfl,rfl⟩
   obtain⟨e0,b9,h⟩:=Qd h
   refine Qa hC [.n 5,.v .no [] (.agg (Qo a.Guard)),.o (.c false [.d] (.b e0)),.n 10,.K [1,3,7,8,9,11,12] [1,9]] rfl ⟨⟨tt_,rfl⟩,(Qjq _ b9)⟩ ?_
   obtain⟨c0,c1,h⟩:=Qd h
   refine AK.loop (body:=(fun st=>Qge a st.1 st.2)) (fun st σ=>σ=⟨[(1,.loc 1 0 0),(3,.I g),(7,.I (w64 ((w64 ((w64 ((w64 (f+(a.Vars.length:Int)))+(a.Ins.length:Int)))+(a.Outs.length:Int)))+(a.Cancel.length:Int)))),(8,.I k),(9,.loc 9 0 0),(11,.b st.1),(12,.I st.2)],[(1,.var (Qe i)),(9,.var (Qf a))]⟩) (fun q e σ=>e=.exit 10∧σ=⟨[(1,.loc 1 0 0),(3,.I g),(7,.I (w64 ((w64 ((w64 ((w64 (f+(a.Vars.length:Int)))+(a.Ins.length:Int)))+(a.Outs.length:Int)))+(a.Cancel.length:Int)))),(8,.I k),(9,.loc 9 0 0),(11,.b q)],[(1,.var (Qe i)),(9,.var (Qf a))]⟩) c1 rfl ?_ ?_
   ·rintro ⟨t,e1⟩ o σ rfl h
    refine Qa hC [.n 6,.o (.ln a.Ins.length),.n 3] rfl ⟨tt_,Qi⟩ ?_
    rcases Qs h with⟨P,h⟩|⟨P,h⟩
    ·obtain⟨c2,c3,h⟩:=Qd h
     obtain⟨X,c4,h⟩:=Qd h
     refine Qa hC [.T,.n 9,.o (.row (QP c2)),.n 1,.v .no [] (.agg (Qo c2.Expr)),.o (.c false [.d] (.b X)),.n 3] rfl ⟨⟨⟨⟨tt_,P⟩,(QC c3)⟩,rfl⟩,(Qjq _ c4)⟩ ?_
     refine AK.meetX (fun σ=>σ=⟨[(1,.loc 1 0 0),(3,.I g),(7,.I (w64 ((w64 ((w64 ((w64 (f+(a.Vars.length:Int)))+(a.Ins.length:Int)))+(a.Outs.length:Int)))+(a.Cancel.length:Int)))),(8,.I k),(9,.loc 9 0 0),(11,.b (t&&X)),(12,.I e1)],[(1,.var (Qe i)),(9,.var (Qf a))]⟩) ?_ ?_
     ·refine tg_ hC [.n 3] rfl ?_
      rcases QQ t with p | p
      ·refine Qa hC [.S 176 (.b true),.n 4,.S 11 (.b (t&&X)),.K [1,3,7,8,9,11,12] [1,9]] rfl ⟨(tc_ p),(congrArg V.b (Qbh p rfl))⟩ ?_
       exact AK.met rfl
      refine Qa hC [.S 176 (.b false),.n 4,.S 11 (.b (t&&X)),.K [1,3,7,8,9,11,12] [1,9]] rfl ⟨(tc_ p),(congrArg V.b (Qdf p rfl))⟩ ?_
      exact AK.met rfl
     rintro σ rfl
     refine tg_ hC [.n 7,.K [1,3,7,8,9,11,12] [1,9]] rfl ?_
     cases h
     exact QU rfl rfl
    refine Qa hC [.F,.n 2,.K [1,3,7,8,9,11] [1,9]] rfl ⟨tt_,P⟩ ?_
    cases h
    exact QV rfl (an_ rfl rfl)
   replace h:Qgh a f k c0=some o:=h
   rintro e σ ⟨rfl,rfl⟩
   refine tg_ hC [.n 9,.K [1,3,7,8,9,11,14] [1,9]] rfl ?_
   obtain⟨c5,c6,h⟩:=Qd h
   refine AK.loop (body:=(fun st=>Qgf a st.1 st.2)) (fun st σ=>σ=⟨[(1,.loc 1 0 0),(3,.I g),(7,.I (w64 ((w64 ((w64 ((w64 (f+(a.Vars.length:Int)))+(a.Ins.length:Int)))+(a.Outs.length:Int)))+(a.Cancel.length:Int)))),(8,.I k),(9,.loc 9 0 0),(11,.b st.1),(14,.I st.2)],[(1,.var (Qe i)),(9,.var (Qf a))]⟩) (fun q e σ=>e=.exit 12∧σ=⟨[(1,.loc 1 0 0),(3,.I g),(7,.I (w64 ((w64 ((w64 ((w64 (f+(a.Vars.length:Int)))+(a.Ins.length:Int)))+(a.Outs.length:Int)))+(a.Cancel.length:Int)))),(8,.I k),(11,.b q)],[(1,.var (Qe i))]⟩) c6 rfl ?_ ?_
   ·rintro ⟨u,e2⟩ o σ rfl h
    refine Qa hC [.n 6,.o (.ln a.Outs.length),.n 3] rfl ⟨tt_,Qi⟩ ?_
    rcases Qs h with⟨U,h⟩|⟨U,h⟩
    ·obtain⟨c7,c8,h⟩:=Qd h
     obtain⟨Y,c9,h⟩:=Qd h
     refine Qa hC [.T,.n 9,.o (.row (QP c7)),.n 1,.v .no [] (.agg (Qo c7.Expr)),.o (.c false [.d] (.b Y)),.n 3] rfl ⟨⟨⟨⟨tt_,U⟩,(QC c8)⟩,rfl⟩,(Qjq _ c9)⟩ ?_
     refine AK.meetX (fun σ=>σ=⟨[(1,.loc 1 0 0),(3,.I g),(7,.I (w64 ((w64 ((w64 ((w64 (f+(a.Vars.length:Int)))+(a.Ins.length:Int)))+(a.Outs.length:Int)))+(a.Cancel.length:Int)))),(8,.I k),(9,.loc 9 0 0),(11,.b (u&&Y)),(14,.I e2)],[(1,.var (Qe i)),(9,.var (Qf a))]⟩) ?_ ?_
     ·refine tg_ hC [.n 3] rfl ?_
      rcases QQ u with s | s
      ·refine Qa hC [.S 194 (.b true),.n 4,.S 11 (.b (u&&Y)),.K [1,3,7,8,9,11,14] [1,9]] rfl ⟨(tc_ s),(congrArg V.b (Qbh s rfl))⟩ ?_
       exact AK.met rfl
      refine Qa hC [.S 194 (.b false),.n 4,.S 11 (.b (u&&Y)),.K [1,3,7,8,9,11,14] [1,9]] rfl ⟨(tc_ s),(congrArg V.b (Qdf s rfl))⟩ ?_
      exact AK.met rfl
     rintro σ rfl
     refine tg_ hC [.n 7,.K [1,3,7,8,9,11,14] [1,9]] rfl ?_
     cases h
     exact QU rfl rfl
    refine Qa hC [.F,.n 2,.K [1,3,7,8,11] [1]] rfl ⟨tt_,U⟩ ?_
    cases h
    exact QV rfl (an_ rfl rfl)
   replace h:Qgg f a k c5=some o:=h
   rintro e σ ⟨rfl,rfl⟩
   refine tg_ hC [.n 8] rfl ?_
   refine bg_ h (fun W h=>Qa hC [.T,.n 8,.K [2] []] rfl ⟨tt_,W⟩ ?_) fun W h=>Qa hC [.F,.n 8,.K [1,3,7,8] [1]] rfl ⟨tt_,W⟩ ?_
   ·cases h
    exact QaN rfl (an_ rfl rfl)
   cases h
   exact QU rfl rfl
  refine Qa hC [.F,.n 2,.K [3] []] rfl ⟨tt_,J⟩ ?_
  cases h
  exact QV rfl (an_ rfl rfl)
 rcases d7 with(_ | _)
 ·replace h:Ql3=some r:=h
  rintro e σ ⟨rfl,rfl⟩
  refine tg_ hC [.n 2] rfl ?_
  cases h
  exact d1_ rfl rfl tt_
 replace h:Ql4 g=some r:=h
 rintro e σ ⟨rfl,rfl⟩
 refine tg_ hC [.n 10] rfl ?_
 cases h
 exact d1_ rfl rfl tt_
def Qih (a:Qm):Option Bool:=
 some ((decide ((a.Places.length:Int)≤64))&&(decide ((a.Tasks.length:Int)≤64)))
theorem QpP (a){r}(h:Qih a=some r):Qc prog 65 [.loc 609 0 0] [(609,.var (Qe a))] (Qh (.b r) [(609,.var (Qe a))]):=by
 refine Qc.walk 12 func65 rfl rfl rfl fun C hC=>?_
 refine tg_ hC [.n 6] rfl ?_
 refine AK.meetX (fun σ=>σ=⟨[(1,.b ((decide ((a.Places.length:Int)≤64))&&(decide ((a.Tasks.length:Int)≤64))))],[(609,.var (Qe a))]⟩) ?_ ?_
 ·refine Qa hC [.n 3,.o (.ln a.Places.length),.n 2] rfl ⟨tt_,Qi⟩ ?_
  rcases QQ (decide ((a.Places.length:Int)≤64))with c | c
  ·refine Qa hC [.S 6 (.b true),.n 2,.o (.ln a.Tasks.length),.n 4,.S 1 (.b ((decide ((a.Places.length:Int)≤64))&&(decide ((a.Tasks.length:Int)≤64)))),.K [1] [609]] rfl ⟨⟨(tc_ c),Qi⟩,(congrArg V.b (Qbh c rfl))⟩ ?_
   exact AK.met rfl
  refine Qa hC [.S 6 (.b false),.n 7,.S 1 (.b ((decide ((a.Places.length:Int)≤64))&&(decide ((a.Tasks.length:Int)≤64)))),.K [1] [609]] rfl ⟨(tc_ c),(congrArg V.b (Qdf c rfl))⟩ ?_
  exact AK.met rfl
 rintro σ rfl
 refine tg_ hC [.n 2] rfl ?_
 cases h
 exact d1_ rfl rfl ⟨rfl,tt_⟩
def Q8 (b:(List QB))(a:Int):Option Bool:=
 some ((decide (0≤a))&&(decide (a<(b.length:Int))))
theorem QaY (d c){r}(h:Q8 d c=some r):Qc prog 67 [.sl 3 (d.map Qq),.I c] [] (Qh (.b r) []):=by
 refine Qc.walk 13 func67 rfl rfl rfl fun C hC=>?_
 refine tg_ hC [.n 6] rfl ?_
 refine AK.meetX (fun σ=>σ=⟨[(4,.b ((decide (0≤c))&&(decide (c<(d.length:Int)))))],[]⟩) ?_ ?_
 ·refine tg_ hC [.n 4] rfl ?_
  rcases QQ (decide (0≤c))with a | a
  ·refine Qa hC [.S 7 (.b true),.n 2,.o (.ln d.length),.n 4,.S 4 (.b ((decide (0≤c))&&(decide (c<(d.length:Int))))),.K [4] []] rfl ⟨⟨(tc_ a),Qi⟩,(congrArg V.b (Qbh a rfl))⟩ ?_
   exact AK.met rfl
  refine Qa hC [.S 7 (.b false),.n 7,.S 4 (.b ((decide (0≤c))&&(decide (c<(d.length:Int))))),.K [4] []] rfl ⟨(tc_ a),(congrArg V.b (Qdf a rfl))⟩ ?_
  exact AK.met rfl
 rintro σ rfl
 refine tg_ hC [.n 2] rfl ?_
 cases h
 exact d1_ rfl rfl tt_
def Qlc (a:Qm):Option Bool:=
 (Q8 a.Places a.From).bind fun b=>
 bif b then
 (Q8 a.Places a.To).bind fun c=>
 some c
 else
 some false
def Qfi (a:Bool):Option Bool:=
 some a
def Qii (a:Qm):Option Bool:=
 (Qlc a).bind (fun b=>Qfi b)
theorem QpQ (e){r}(h:Qii e=some r):Qc prog 66 [.loc 609 0 0] [(609,.var (Qe e))] (Qh (.b r) [(609,.var (Qe e))]):=by
 refine Qc.walk 14 func66 rfl rfl rfl fun C hC=>?_
 refine tg_ hC [.n 6] rfl ?_
 obtain⟨f,g,h⟩:=Qd h
 replace h:Qfi f=some r:=h
 refine AK.meetX (fun σ=>σ=⟨[(1,.b f)],[(609,.var (Qe e))]⟩) ?_ ?_
 ·replace h:=g
  obtain⟨k,i,h⟩:=Qd h
  refine Qa hC [.n 5,.o (.c false [.d,.d] (.b k)),.n 1] rfl ⟨tt_,(QaY _ _ i)⟩ ?_
  rcases Qs h with⟨a,h⟩|⟨a,h⟩
  ·obtain⟨l,j,h⟩:=Qd h
   refine Qa hC [.S 7 (.b true),.n 4,.o (.c false [.d,.d] (.b l)),.n 3,.K [1] [609]] rfl ⟨(tc_ a),(QaY _ _ j)⟩ ?_
   cases h
   exact AK.met rfl
  refine Qa hC [.S 7 (.b false),.n 8,.K [1] [609]] rfl (tc_ a) ?_
  cases h
  exact AK.met rfl
 rintro σ rfl
 replace h:Qfi f=some r:=h
 refine tg_ hC [.n 2] rfl ?_
 cases h
 exact d1_ rfl rfl ⟨rfl,tt_⟩
def Qij (a:Qm):Option Bool:=
 some (a.From != a.To)
theorem QpR (a){r}(h:Qij a=some r):Qc prog 68 [.loc 609 0 0] [(609,.var (Qe a))] (Qh (.b r) [(609,.var (Qe a))]):=by
 refine Qc.walk 7 func68 rfl rfl rfl fun C hC=>?_
 refine tg_ hC [.n 16] rfl ?_
 cases h
 exact d1_ rfl rfl ⟨rfl,tt_⟩
def Qik (a:Qm)(c:Int)(d:Int)(e:Int):Option Int:=
 (Qih a).bind fun f=>
 bif (!f)then
 some c
 else
 (Qii a).bind fun g=>
 bif (!g)then
 some d
 else
 (Qij a).bind fun b=>
 bif (!b)then
 some e
 else
 some 0
theorem QpS (g k l m){r}(h:Qik g k l m=some r):Qc prog 64 [.own 609 3] [(609,.var [.clo (.func 65) [] [.loc 610 0 0],.I k,.clo (.func 66) [] [.loc 610 0 0],.I l,.clo (.func 68) [] [.loc 610 0 0],.I m]),(610,.var (Qe g))] (Qh (.I r) [(609,.var [.clo (.func 65) [] [.loc 610 0 0],.I k,.clo (.func 66) [] [.loc 610 0 0],.I l,.clo (.func 68) [] [.loc 610 0 0],.I m]),(610,.var (Qe g))]):=by
 refine Qc.walk 18 func64 rfl rfl rfl fun C hC=>?_
 refine tg_ hC [.n 14] rfl ?_
 refine AK.loopN 4 (AK.rnd ?_)
 obtain⟨t,p,h⟩:=Qd h
 refine Qa hC [.n 2,.v .no [] (.b true),.n 10,.o (.any (.loc 609 0 0) none),.n 3,.O 4 (.var [.clo (.func 65) [] [.loc 610 0 0],.I k]),.n 6,.cm (.clo) [(609,610)] [(610,609)] [] [.d] [(609,.var (Qe g))] (.b t),.n 3] rfl ⟨⟨⟨⟨tt_,rfl⟩,(fun σ e i _=>Stp.idxV rfl rfl (Qz hC.n rfl) (e _ _ rfl) (e _ _ rfl) (Qp.es rfl) (i _ _ rfl) (by decide))⟩,rfl⟩,(QpP _ p)⟩ ?_
 refine bg_ h (fun f h=>Qa hC [.T,.n 13,.K [2] [609,610]] rfl ⟨tt_,f⟩ ?_) fun f h=>Qa hC [.F,.n 4,.v .no [] (.I 1),.n 2] rfl ⟨⟨tt_,f⟩,rfl⟩ ?_
 ·cases h
  exact d1_ rfl rfl ⟨rfl,rfl,tt_⟩
 refine AK.met (AK.rnd ?_)
 obtain⟨u,q,h⟩:=Qd h
 refine Qa hC [.n 2,.v .no [] (.b true),.n 10,.o (.any (.loc 609 0 2) none),.n 1,.kill 4,.n 2,.O 4 (.var [.clo (.func 66) [] [.loc 610 0 0],.I l]),.n 6,.cm (.clo) [(609,610)] [(610,609)] [] [.d] [(609,.var (Qe g))] (.b u),.n 3] rfl ⟨⟨⟨⟨tt_,rfl⟩,(fun σ e i _=>Stp.idxV rfl rfl (Qz hC.n rfl) (e _ _ rfl) (e _ _ rfl) (Qp.es rfl) (i _ _ rfl) (by decide))⟩,rfl⟩,(QpQ _ q)⟩ ?_
 refine bg_ h (fun a h=>Qa hC [.T,.n 13,.K [2] [609,610]] rfl ⟨tt_,a⟩ ?_) fun a h=>Qa hC [.F,.n 4,.v .no [] (.I 2),.n 2] rfl ⟨⟨tt_,a⟩,rfl⟩ ?_
 ·cases h
  exact d1_ rfl rfl ⟨rfl,rfl,tt_⟩
 refine AK.met (AK.rnd ?_)
 obtain⟨s,j,h⟩:=Qd h
 refine Qa hC [.n 2,.v .no [] (.b true),.n 10,.o (.any (.loc 609 0 4) none),.n 1,.kill 4,.n 2,.O 4 (.var [.clo (.func 68) [] [.loc 610 0 0],.I m]),.n 6,.cm (.clo) [(609,610)] [(610,609)] [] [.d] [(609,.var (Qe g))] (.b s),.n 3] rfl ⟨⟨⟨⟨tt_,rfl⟩,(fun σ e i _=>Stp.idxV rfl rfl (Qz hC.n rfl) (e _ _ rfl) (e _ _ rfl) (Qp.es rfl) (i _ _ rfl) (by decide))⟩,rfl⟩,(QpR _ j)⟩ ?_
 refine bg_ h (fun c h=>Qa hC [.T,.n 13,.K [2] [609,610]] rfl ⟨tt_,c⟩ ?_) fun c h=>Qa hC [.F,.n 4,.v .no [] (.I 3),.n 2] rfl ⟨⟨tt_,c⟩,rfl⟩ ?_
 ·cases h
  exact d1_ rfl rfl ⟨rfl,rfl,tt_⟩
 refine AK.met (AK.rnd ?_)
 refine Qa hC [.n 2,.v .no [] (.b false),.n 15] rfl ⟨tt_,rfl⟩ ?_
 cases h
 exact d1_ rfl rfl ⟨rfl,rfl,tt_⟩
def Qil (a:Int)(b:Int):Option Int:=
 bif (decide (b<a))then
 some 0
 else
 some (w64 ((w64 (min2 (IntKind.u64.wrap ((IntKind.u64.wrap b)-(IntKind.u64.wrap a))) 1024))+1))
theorem QpT (a b){r}(h:Qil a b=some r):Qc prog 243 [.I a,.I b] [] (Qh (.I r) []):=by
 refine Qc.walk 16 func243 rfl rfl rfl fun C hC=>?_
 refine tg_ hC [.n 13] rfl ?_
 refine bg_ h (fun c h=>Qa hC [.T,.n 7,.K [4] []] rfl ⟨tt_,c⟩ ?_) fun c h=>Qa hC [.F,.n 5,.o (.any (.i .u64 (IntKind.u64.wrap b)) none),.n 1,.o (.any (.i .u64 (IntKind.u64.wrap a)) none),.n 2,.o (.any (.I (w64 (min2 (IntKind.u64.wrap ((IntKind.u64.wrap b)-(IntKind.u64.wrap a))) 1024))) none),.n 5,.K [4] []] rfl ⟨⟨⟨⟨tt_,c⟩,(fun σ d e _=>Stp.convI rfl rfl (Qz hC.n rfl) (d _ _ rfl) QsF Qoj)⟩,(fun σ d e _=>Stp.convI rfl rfl (Qz hC.n rfl) (d _ _ rfl) QsF Qoj)⟩,(fun σ d e _=>Stp.convI rfl rfl (Qz hC.n rfl) (d _ _ rfl) Qoj QsF)⟩ ?_
 ·cases h
  exact d1_ rfl rfl tt_
 cases h
 exact d1_ rfl rfl tt_
def QcN (a:Int):Option Bool:=
 some (bif (decide (97≤a))then((decide (a≤122))||((decide (65≤a))&&(decide (a≤90))))else((decide (65≤a))&&(decide (a≤90))))
theorem QjW (a){r}(h:QcN a=some r):Qc prog 223 [.i .u8 a] [] (Qh (.b r) []):=by
 refine Qc.walk 17 func223 rfl rfl rfl fun C hC=>?_
 unfold QcN at h
 refine tg_ hC [.n 6] rfl ?_
 refine AK.meetX (fun σ=>σ=⟨[(2,.b (bif (decide (97≤a))then((decide (a≤122))||((decide (65≤a))&&(decide (a≤90))))else((decide (65≤a))&&(decide (a≤90)))))],[]⟩) ?_ ?_
 ·refine tg_ hC [.n 4] rfl ?_
  rcases QQ (decide (97≤a))with c | c
  ·refine Qa hC [.S 5 (.b true),.n 4] rfl (tc_ c) ?_
   rcases QQ (decide (a≤122))with d | d
   ·refine Qa hC [.S 9 (.b true),.n 9,.S 2 (.b (bif (decide (97≤a))then((decide (a≤122))||((decide (65≤a))&&(decide (a≤90))))else((decide (65≤a))&&(decide (a≤90))))),.K [2] []] rfl ⟨(tc_ d),(congrArg V.b (Quy c (orT d rfl)))⟩ ?_
    exact AK.met rfl
   refine Qa hC [.S 9 (.b false),.n 3] rfl (tc_ d) ?_
   rcases QQ (decide (65≤a))with e | e
   ·refine Qa hC [.S 12 (.b true),.n 6,.S 2 (.b (bif (decide (97≤a))then((decide (a≤122))||((decide (65≤a))&&(decide (a≤90))))else((decide (65≤a))&&(decide (a≤90))))),.K [2] []] rfl ⟨(tc_ e),(congrArg V.b (Quy c (orF d (Qbh e rfl))))⟩ ?_
    exact AK.met rfl
   refine Qa hC [.S 12 (.b false),.n 6,.S 2 (.b (bif (decide (97≤a))then((decide (a≤122))||((decide (65≤a))&&(decide (a≤90))))else((decide (65≤a))&&(decide (a≤90))))),.K [2] []] rfl ⟨(tc_ e),(congrArg V.b (Quy c (orF d (Qdf e rfl))))⟩ ?_
   exact AK.met rfl
  refine Qa hC [.S 5 (.b false),.n 7] rfl (tc_ c) ?_
  rcases QQ (decide (65≤a))with f | f
  ·refine Qa hC [.S 12 (.b true),.n 6,.S 2 (.b (bif (decide (97≤a))then((decide (a≤122))||((decide (65≤a))&&(decide (a≤90))))else((decide (65≤a))&&(decide (a≤90))))),.K [2] []] rfl ⟨(tc_ f),(congrArg V.b (Qvw c (Qbh f rfl)))⟩ ?_
   exact AK.met rfl
  refine Qa hC [.S 12 (.b false),.n 6,.S 2 (.b (bif (decide (97≤a))then((decide (a≤122))||((decide (65≤a))&&(decide (a≤90))))else((decide (65≤a))&&(decide (a≤90))))),.K [2] []] rfl ⟨(tc_ f),(congrArg V.b (Qvw c (Qdf f rfl)))⟩ ?_
  exact AK.met rfl
 rintro σ rfl
 refine tg_ hC [.n 2] rfl ?_
 cases h
 exact d1_ rfl rfl tt_
def Qld (a:ByteArray):Option Bool:=
 bif (Qfb a (⟨#[]⟩:ByteArray))then
 some true
 else
 bif (decide (32<(a.size:Int)))then
 some true
 else
 (sidx a 0).bind fun b=>
 (QcN b).bind fun c=>
 some (!c)
def Qle (a:Int):Option Bool:=
 (QcN a).bind fun b=>
 bif (!b)then
 bif (decide (a<48))then
 some (a != 95)
 else
 bif (decide (57<a))then
 some (a != 95)
 else
 some false
 else
 some false
def Qfj (a:Int)(b:Bool):Option (Int⊕(Unit⊕Unit)):=
 bif b then
 some (.inr (.inl ()))
 else
 some (.inl (w64 (a+1)))
def Qfk (d:ByteArray)(a:Int):Option (Int⊕(Unit⊕Unit)):=
 bif (decide (a<(d.size:Int)))then
 (sidx d a).bind fun b=>
 (Qle b).bind (fun c=>Qfj a c)
 else
 some (.inr (.inr ()))
def Qfl : Option Bool:=
 some false
def Qfm : Option Bool:=
 some true
def Qfn (a:ByteArray)(b:Bool):Option Bool:=
 bif b then
 some false
 else
 (Qw (fun st=>Qfk a st) 0).bind (Sum.elim (fun q=>Qfl) (fun q=>Qfm))
def Qd0 (a:ByteArray):Option Bool:=
 (Qld a).bind (fun b=>Qfn a b)
theorem QiE (l){r}(h:Qd0 l=some r):Qc prog 177 [.s l] [] (Qh (.b r) []):=by
 refine Qc.walk 42 func177 rfl rfl rfl fun C hC=>?_
 refine tg_ hC [.n 7] rfl ?_
 obtain⟨z,A,h⟩:=Qd h
 replace h:Qfn l z=some r:=h
 refine AK.meetX (fun σ=>σ=⟨[(0,.s l),(17,.b z)],[]⟩) ?_ ?_
 ·replace h:=A
  refine tg_ hC [.n 4] rfl ?_
  refine bg_ h (fun m h=>Qa hC [.S 7 (.b true),.n 11,.K [0,17] []] rfl (tc_ m) ?_) fun m h=>Qa hC [.S 7 (.b false),.n 5] rfl (tc_ m) ?_
  ·cases h
   exact AK.met rfl
  rcases Qs h with⟨p,h⟩|⟨p,h⟩
  ·refine Qa hC [.S 12 (.b true),.n 6,.K [0,17] []] rfl (tc_ p) ?_
   cases h
   exact AK.met rfl
  obtain⟨J,B,h⟩:=Qd h
  obtain⟨L,D,h⟩:=Qd h
  refine Qa hC [.S 12 (.b false),.n 1,.o (.num J),.o (.c false [.d] (.b L)),.n 3,.K [0,17] []] rfl ⟨⟨(tc_ p),B⟩,(QjW _ D)⟩ ?_
  cases h
  exact AK.met rfl
 rintro σ rfl
 replace h:Qfn l z=some r:=h
 refine tg_ hC [.n 1] rfl ?_
 refine bg_ h (fun a h=>Qa hC [.T,.n 7,.K [2] []] rfl ⟨tt_,a⟩ ?_) fun a h=>Qa hC [.F,.n 11,.K [0,19,20] []] rfl ⟨tt_,a⟩ ?_
 ·cases h
  exact d1_ rfl rfl tt_
 obtain⟨E,v,h⟩:=Qd h
 refine AK.loop (body:=(fun st=>Qfk l st)) (fun st σ=>σ=⟨[(0,.s l),(19,.I (l.size:Int)),(20,.I st)],[]⟩) (Sum.elim (fun q e σ=>e=.ret∧σ=⟨[(2,.b false)],[]⟩) (fun q e σ=>e=.exit 0∧σ=⟨[],[]⟩)) v rfl ?_ ?_
 ·rintro t o σ rfl h
  refine tg_ hC [.n 6] rfl ?_
  rcases Qs h with⟨f,h⟩|⟨f,h⟩
  ·obtain⟨G,w,h⟩:=Qd h
   refine Qa hC [.T,.n 14,.o (.num G),.n 4] rfl ⟨⟨tt_,f⟩,w⟩ ?_
   obtain⟨u,x,h⟩:=Qd h
   replace h:Qfj t u=some o:=h
   refine AK.meetX (fun σ=>σ=⟨[(0,.s l),(19,.I (l.size:Int)),(20,.I t),(40,.b u)],[]⟩) ?_ ?_
   ·replace h:=x
    obtain⟨H,y,h⟩:=Qd h
    refine Qa hC [.n 2,.o (.c false [.d] (.b H)),.n 2] rfl ⟨tt_,(QjW _ y)⟩ ?_
    refine bg_ h (fun g h=>Qa hC [.S 29 (.b true),.n 3] rfl (tc_ g) ?_) fun g h=>Qa hC [.S 29 (.b false),.n 12,.K [0,19,20,40] []] rfl (tc_ g) ?_
    ·refine bg_ h (fun i h=>Qa hC [.S 32 (.b true),.n 9,.K [0,19,20,40] []] rfl (tc_ i) ?_) fun i h=>Qa hC [.S 32 (.b false),.n 5] rfl (tc_ i) ?_
     ·cases h
      exact AK.met rfl
     refine bg_ h (fun j h=>Qa hC [.S 37 (.b true),.n 4,.K [0,19,20,40] []] rfl (tc_ j) ?_) fun j h=>Qa hC [.S 37 (.b false),.n 4,.K [0,19,20,40] []] rfl (tc_ j) ?_
     ·cases h
      exact AK.met rfl
     cases h
     exact AK.met rfl
    cases h
    exact AK.met rfl
   rintro σ rfl
   replace h:Qfj t u=some o:=h
   refine tg_ hC [.n 1] rfl ?_
   refine bg_ h (fun k h=>Qa hC [.T,.n 8,.K [2] []] rfl ⟨tt_,k⟩ ?_) fun k h=>Qa hC [.F,.n 7,.K [0,19,20] []] rfl ⟨tt_,k⟩ ?_
   ·cases h
    exact QaN rfl (an_ rfl rfl)
   cases h
   exact QU rfl rfl
  refine Qa hC [.F,.n 2,.K [] []] rfl ⟨tt_,f⟩ ?_
  cases h
  exact QV rfl (an_ rfl rfl)
 rcases E with(_ | _)
 ·replace h:Qfl=some r:=h
  rintro e σ ⟨rfl,rfl⟩
  refine tg_ hC [.n 2] rfl ?_
  cases h
  exact d1_ rfl rfl tt_
 replace h:Qfm=some r:=h
 rintro e σ ⟨rfl,rfl⟩
 refine tg_ hC [.n 8] rfl ?_
 cases h
 exact d1_ rfl rfl tt_
def Qkg (a:ByteArray)(c:QSB):Option Bool:=
 (Qd0 a).bind fun b=>
 bif (!b)then
 some true
 else
 some ((Qc3 c a).getD false)
def QeD (c:Int)(d:QSB)(a:ByteArray)(b:Bool):Option ((Int×QSB)⊕(Unit⊕Unit)):=
 bif b then
 some (.inr (.inl ()))
 else
 some (.inl ((w64 (c+1)),(QcE ltS d a true)))
def QeE (d:(List ByteArray))(b:Int)(e:QSB):Option ((Int×QSB)⊕(Unit⊕Unit)):=
 bif (decide (b<(d.length:Int)))then
 (idx d b).bind fun a=>
 (Qkg a e).bind (fun c=>QeD b e a c)
 else
 some (.inr (.inr ()))
def QeF : Option Bool:=
 some false
def QeG : Option Bool:=
 some true
def Qhq (a:(List ByteArray)):Option Bool:=
 (Qw (fun st=>QeE a st.1 st.2) (0,([]:QSB))).bind (Sum.elim (fun q=>QeF) (fun q=>QeG))
theorem Qo2 (j){r}(h:Qhq j=some r):Qc prog 244 [.sl 1 (j.map Qb7)] [] (Qh (.b r) []):=by
 refine Qc.walk 24 func244 rfl rfl rfl fun C hC=>?_
 refine Qa hC [.n 8,.O 6 (.map (QE V.s V.b ([]:QSB))),.n 7,.o (.ln j.length),.n 4,.K [3,7,8,9] [6]] rfl ⟨⟨tt_,rfl⟩,Qi⟩ ?_
 obtain⟨B,u,h⟩:=Qd h
 refine AK.loop (body:=(fun st=>QeE j st.1 st.2)) (fun st σ=>σ=⟨[(3,.map 6),(7,.sl 1 (j.map Qb7)),(8,.I (j.length:Int)),(9,.I st.1)],[(6,.map (QE V.s V.b st.2))]⟩) (Sum.elim (fun q e σ=>e=.ret∧σ=⟨[(2,.b false)],[]⟩) (fun q e σ=>e=.exit 0∧σ=⟨[],[]⟩)) u rfl ?_ ?_
 ·rintro ⟨D,m⟩ o σ rfl h
  refine tg_ hC [.n 6] rfl ?_
  rcases Qs h with⟨p,h⟩|⟨p,h⟩
  ·obtain⟨a,w,h⟩:=Qd h
   refine Qa hC [.T,.n 6,.o (.row (Qb7 a)),.n 6] rfl ⟨⟨tt_,p⟩,(QC w)⟩ ?_
   obtain⟨t,y,h⟩:=Qd h
   replace h:QeD D m a t=some o:=h
   refine AK.meetX (fun σ=>σ=⟨[(3,.map 6),(5,.s a),(7,.sl 1 (j.map Qb7)),(8,.I (j.length:Int)),(9,.I D),(20,.b t)],[(6,.map (QE V.s V.b m))]⟩) ?_ ?_
   ·replace h:=y
    obtain⟨E,A,h⟩:=Qd h
    refine Qa hC [.n 2,.o (.c false [.d] (.b E)),.n 2] rfl ⟨tt_,(QiE _ A)⟩ ?_
    refine bg_ h (fun g h=>Qa hC [.S 16 (.b true),.n 5,.K [3,5,7,8,9,20] [6]] rfl (tc_ g) ?_) fun g h=>Qa hC [.S 16 (.b false),.n 2,.o (.any (.b ((Qc3 m a).getD false)) none),.n 2,.K [3,5,7,8,9,20] [6]] rfl ⟨(tc_ g),(fun σ G H _=>Stp.lookup (e:=V.s) (f:=V.b) (l:=m) (k:=a) (z:=false) rfl rfl (Qz hC.n rfl) (G _ _ rfl) (H _ _ rfl) (G _ _ rfl) QqD QtI QvI rfl)⟩ ?_
    ·cases h
     exact AK.met rfl
    cases h
    exact AK.met rfl
   rintro σ rfl
   replace h:QeD D m a t=some o:=h
   refine tg_ hC [.n 1] rfl ?_
   refine bg_ h (fun i h=>Qa hC [.T,.n 9,.K [2] []] rfl ⟨tt_,i⟩ ?_) fun i h=>Qa hC [.F,.n 5,.x (fun σ=>σ.set 6 (.map (QE V.s V.b (QcE ltS m a true)))),.n 7,.K [3,7,8,9] [6]] rfl ⟨⟨tt_,i⟩,(Stp.mapUpdate (e:=V.s) (f:=V.b) (l:=m) (k:=a) (v:=true) ltS rfl rfl rfl rfl rfl rfl QqD QtI rfl)⟩ ?_
   ·cases h
    exact QaN rfl (an_ rfl rfl)
   cases h
   exact QU rfl rfl
  refine Qa hC [.F,.n 2,.K [] []] rfl ⟨tt_,p⟩ ?_
  cases h
  exact QV rfl (an_ rfl rfl)
 rcases B with(_ | _)
 ·replace h:QeF=some r:=h
  rintro e σ ⟨rfl,rfl⟩
  refine tg_ hC [.n 2] rfl ?_
  cases h
  exact d1_ rfl rfl tt_
 replace h:QeG=some r:=h
 rintro e σ ⟨rfl,rfl⟩
 refine tg_ hC [.n 8] rfl ?_
 cases h
 exact d1_ rfl rfl tt_
def Qbt : Option Int:=
 some 0
def Qim (b:QD)(a:(List Int)):Option Int:=
 bif (b.Kind==1)then
 (Qil b.Lo b.Hi).bind fun e=>
 some e
 else
 bif (b.Kind==2)then
 (Qhq b.Names).bind fun f=>
 bif f then
 some (b.Names.length:Int)
 else
 Qbt
 else
 bif (b.Kind==3)then
 bif ((decide (0≤(min2 b.First b.Then)))&&(decide ((max2 b.First b.Then)<(a.length:Int))))then
 (idx a b.First).bind fun c=>
 (idx a b.Then).bind fun d=>
 some (w64 (c*d))
 else
 Qbt
 else
 Qbt
theorem QpU (f e){r}(h:Qim f e=some r):Qc prog 226 [.agg (Qv f),.sl 1 (e.map Qb)] [] (Qh (.I r) []):=by
 refine Qc.walk 51 func226 rfl rfl rfl fun C hC=>?_
 refine tg_ hC [.n 6] rfl ?_
 refine AK.meet (fun σ=>σ=⟨[],[]⟩∧Qbt=some r) ?_ ?_
 ·refine tg_ hC [.n 13] rfl ?_
  rcases Qs h with⟨k,h⟩|⟨k,h⟩
  ·obtain⟨w,s,h⟩:=Qd h
   refine Qa hC [.T,.n 6,.o (.c false [.d,.d] (.I w)),.n 6] rfl ⟨⟨tt_,k⟩,(QpT _ _ s)⟩ ?_
   cases h
   exact d1_ rfl rfl tt_
  refine Qa hC [.F,.n 6] rfl ⟨tt_,k⟩ ?_
  rcases Qs h with⟨l,h⟩|⟨l,h⟩
  ·obtain⟨x,t,h⟩:=Qd h
   refine Qa hC [.T,.n 4,.o (.c false [.d] (.b x)),.n 2] rfl ⟨⟨tt_,l⟩,(Qo2 _ t)⟩ ?_
   refine bg_ h (fun m h=>Qa hC [.T,.n 4,.o (.ln f.Names.length),.n 6,.K [4] []] rfl ⟨⟨tt_,m⟩,Qi⟩ ?_) fun m h=>Qa hC [.F,.n 2,.K [] []] rfl ⟨tt_,m⟩ ?_
   ·cases h
    exact d1_ rfl rfl tt_
   exact AK.met (an_ rfl h)
  refine Qa hC [.F,.n 6] rfl ⟨tt_,l⟩ ?_
  refine bg_ h (fun i h=>Qa hC [.T,.n 1] rfl ⟨tt_,i⟩ ?_) fun i h=>Qa hC [.F,.n 2,.K [] []] rfl ⟨tt_,i⟩ ?_
  ·refine AK.meetX (fun σ=>σ=⟨[(1,.sl 1 (e.map Qb)),(2,.loc 2 0 0),(39,.b ((decide (0≤(min2 f.First f.Then)))&&(decide ((max2 f.First f.Then)<(e.length:Int)))))],[(2,.var (Qv f))]⟩) ?_ ?_
   ·refine tg_ hC [.n 8] rfl ?_
    rcases QQ (decide (0≤(min2 f.First f.Then)))with g | g
    ·refine Qa hC [.S 30 (.b true),.n 6,.o (.ln e.length),.n 3,.S 39 (.b ((decide (0≤(min2 f.First f.Then)))&&(decide ((max2 f.First f.Then)<(e.length:Int))))),.K [1,2,39] [2]] rfl ⟨⟨(tc_ g),Qi⟩,(congrArg V.b (Qbh g rfl))⟩ ?_
     exact AK.met rfl
    refine Qa hC [.S 30 (.b false),.n 10,.S 39 (.b ((decide (0≤(min2 f.First f.Then)))&&(decide ((max2 f.First f.Then)<(e.length:Int))))),.K [1,2,39] [2]] rfl ⟨(tc_ g),(congrArg V.b (Qdf g rfl))⟩ ?_
    exact AK.met rfl
   rintro σ rfl
   refine tg_ hC [.n 1] rfl ?_
   rcases Qs h with⟨j,h⟩|⟨j,h⟩
   ·obtain⟨u,p,h⟩:=Qd h
    obtain⟨v,q,h⟩:=Qd h
    refine Qa hC [.T,.n 1,.K [1,2] [2]] rfl ⟨tt_,j⟩ ?_
    refine AK.draw2 Qp hC mixed [.N,.N,.N,.a (.row (Qb u)) none false,.N,.N,.N,.N,.a (.row (Qb v)) none false,.N,.N,.N] [] [] [4] [] rfl rfl rfl ⟨⟨tt_,(QC p)⟩,(QC q)⟩ rfl (by kernel_rfl) rfl rfl rfl ?_
    refine tg_ hC [.n 4] rfl ?_
    cases h
    exact d1_ rfl rfl tt_
   refine Qa hC [.F,.n 2,.K [] []] rfl ⟨tt_,j⟩ ?_
   exact AK.met (an_ rfl h)
  exact AK.met (an_ rfl h)
 rintro σ ⟨rfl,h⟩
 refine tg_ hC [.n 6] rfl ?_
 cases h
 exact d1_ rfl rfl tt_
def Qkh (a:QD)(d:QSB)(b:Int):Option Bool:=
 (Qd0 a.Name).bind fun c=>
 bif (!c)then
 some true
 else
 bif ((Qc3 d a.Name).getD false)then
 some true
 else
 bif (decide (b<1))then
 some true
 else
 some (decide (1024<b))
def QeH (a:(List Int))(b:Int)(e:Int)(f:QSB)(c:QD)(d:Bool):Option ((Int×QSB×(List Int))⊕(Unit⊕(List Int))):=
 bif d then
 some (.inr (.inl ()))
 else
 (chk (decide (a.length+([b]:List Int).length≤4294967296))).bind fun _=>
 some (.inl ((w64 (e+1)),(QcE ltS f c.Name true),(a++([b]:List Int))))
def QeI (f:(List QD))(d:Int)(g:QSB)(a:(List Int)):Option ((Int×QSB×(List Int))⊕(Unit⊕(List Int))):=
 bif (decide (d<(f.length:Int)))then
 (idx f d).bind fun b=>
 (Qim b a).bind fun c=>
 (Qkh b g c).bind (fun e=>QeH a c d g b e)
 else
 some (.inr (.inr a))
def Qki : Option ((List Int)×Bool):=
 some (([]:List Int),false)
def Qkj (a:(List Int)):Option ((List Int)×Bool):=
 some (a,true)
def QeX (a:(List QD)):Option ((List Int)×Bool):=
 bif (decide (32<(a.length:Int)))then
 some (([]:List Int),false)
 else
 (Qw (fun st=>QeI a st.1 st.2.1 st.2.2) (0,([]:QSB),([]:List Int))).bind (Sum.elim (fun q=>Qki) (fun q=>Qkj q))
theorem Qkk (w){r}(h:QeX w=some r):Qc prog 180 [.sl 7 (w.map Qv)] [] (Qh (.tup [.sl 1 (r.1.map Qb),.b r.2]) []):=by
 refine Qc.walk 49 func180 rfl rfl rfl fun C hC=>?_
 refine Qa hC [.n 10,.o (.ln w.length),.n 3] rfl ⟨tt_,Qi⟩ ?_
 refine bg_ h (fun y h=>Qa hC [.T,.n 8,.denil 2 [some 1],.K [2,3] []] rfl ⟨tt_,y⟩ ?_) fun y h=>Qa hC [.F,.n 5,.O 12 (.map (QE V.s V.b ([]:QSB))),.n 12,.o (.ln w.length),.n 4,.adopt 5 43 1,.O 43 (.arr 1 (([]:List Int).map Qb)),.S 5 (.own 43 ([]:List Int).length),.K [4,5,13,14,15] [12,43]] rfl ⟨⟨⟨⟨⟨tt_,y⟩,rfl⟩,Qi⟩,rfl⟩,(congrArg (fun n=>V.own 43 n) (by simp))⟩ ?_
 ·cases h
  exact d2_ rfl rfl rfl tt_
 obtain⟨N,D,h⟩:=Qd h
 refine AK.loop (body:=(fun st=>QeI w st.1 st.2.1 st.2.2)) (fun st σ=>σ=⟨[(4,.map 12),(5,.own 43 st.2.2.length),(13,.sl 7 (w.map Qv)),(14,.I (w.length:Int)),(15,.I st.1)],[(12,.map (QE V.s V.b st.2.1)),(43,.arr 1 (st.2.2.map Qb))]⟩) (Sum.elim (fun q e σ=>e=.ret∧σ=⟨[(2,.lit (.slice none 0 0)),(3,.b false)],[]⟩) (fun q e σ=>e=.exit 0∧σ=⟨[(5,.own 43 q.length)],[(43,.arr 1 (q.map Qb))]⟩)) D rfl ?_ ?_
 ·rintro ⟨P,A,g⟩ o σ rfl h
  refine tg_ hC [.n 6] rfl ?_
  rcases Qs h with⟨j,h⟩|⟨j,h⟩
  ·obtain⟨a,E,h⟩:=Qd h
   obtain⟨i,G,h⟩:=Qd h
   refine Qa hC [.T,.n 6,.o (.row (Qv a)),.v .no [] (.agg (Qv a)),.n 2,.O 7 (.var (Qv a)),.n 4,.v .no [] (.agg (Qv a)),.n 1,.o (.c true [.d,.o (g.map Qb)] (.I i)),.n 5] rfl ⟨⟨⟨⟨⟨⟨tt_,j⟩,(QC E)⟩,rfl⟩,rfl⟩,rfl⟩,⟨(QeR rfl),(QpU _ _ G)⟩⟩ ?_
   obtain⟨B,H,h⟩:=Qd h
   replace h:QeH g i P A a B=some o:=h
   refine AK.meetX (fun σ=>σ=⟨[(4,.map 12),(5,.own 43 g.length),(7,.loc 7 0 0),(8,.I i),(13,.sl 7 (w.map Qv)),(14,.I (w.length:Int)),(15,.I P),(39,.b B)],[(7,.var (Qv a)),(12,.map (QE V.s V.b A)),(43,.arr 1 (g.map Qb))]⟩) ?_ ?_
   ·replace h:=H
    obtain⟨U,J,h⟩:=Qd h
    refine Qa hC [.n 3,.o (.c false [.d] (.b U)),.n 2] rfl ⟨tt_,(QiE _ J)⟩ ?_
    refine bg_ h (fun m h=>Qa hC [.S 26 (.b true),.n 14,.K [4,5,7,8,13,14,15,39] [7,12,43]] rfl (tc_ m) ?_) fun m h=>Qa hC [.S 26 (.b false),.n 3,.o (.any (.b ((Qc3 A a.Name).getD false)) none),.n 2] rfl ⟨(tc_ m),(fun σ W X _=>Stp.lookup (e:=V.s) (f:=V.b) (l:=A) (k:=a.Name) (z:=false) rfl rfl (Qz hC.n rfl) (W _ _ rfl) (X _ _ rfl) (W _ _ rfl) QqD QtI QvI rfl)⟩ ?_
    ·cases h
     exact AK.met rfl
    refine bg_ h (fun p h=>Qa hC [.S 32 (.b true),.n 8,.K [4,5,7,8,13,14,15,39] [7,12,43]] rfl (tc_ p) ?_) fun p h=>Qa hC [.S 32 (.b false),.n 4] rfl (tc_ p) ?_
    ·cases h
     exact AK.met rfl
    refine bg_ h (fun t h=>Qa hC [.S 36 (.b true),.n 4,.K [4,5,7,8,13,14,15,39] [7,12,43]] rfl (tc_ t) ?_) fun t h=>Qa hC [.S 36 (.b false),.n 4,.K [4,5,7,8,13,14,15,39] [7,12,43]] rfl (tc_ t) ?_
    ·cases h
     exact AK.met rfl
    cases h
    exact AK.met rfl
   rintro σ rfl
   replace h:QeH g i P A a B=some o:=h
   refine tg_ hC [.n 1] rfl ?_
   rcases Qs h with⟨u,h⟩|⟨u,h⟩
   ·refine Qa hC [.T,.n 10,.K [2,3] []] rfl ⟨tt_,u⟩ ?_
    cases h
    exact QaN rfl (an_ rfl rfl)
   obtain⟨L,h⟩:=QaO h
   refine Qa hC [.F,.n 7,.x (fun σ=>σ.set 12 (.map (QE V.s V.b (QcE ltS A a.Name true)))),.n 5,.v (.bd []) [] (.sl 1 (([i]:List Int).map Qb)),.app ((g++([i]:List Int)).map Qb) (g++([i]:List Int)).length,.n 8,.K [4,5,13,14,15] [12,43]] rfl ⟨⟨⟨⟨tt_,u⟩,(Stp.mapUpdate (e:=V.s) (f:=V.b) (l:=A) (k:=a.Name) (v:=true) ltS rfl rfl rfl rfl rfl rfl QqD QtI rfl)⟩,rfl⟩,⟨Qi,QhW L Qi,QfU,QjE Qi⟩⟩ ?_
   cases h
   exact QU rfl rfl
  refine Qa hC [.F,.n 2,.K [5] [43]] rfl ⟨tt_,j⟩ ?_
  cases h
  exact QV rfl (an_ rfl rfl)
 rcases N with(_ | M)
 ·replace h:Qki=some r:=h
  rintro e σ ⟨rfl,rfl⟩
  refine tg_ hC [.n 2,.denil 2 [some 1]] rfl ?_
  cases h
  exact d2_ rfl rfl rfl tt_
 replace h:Qkj M=some r:=h
 rintro e σ ⟨rfl,rfl⟩
 refine Qa hC [.n 10,.frz 43 (M.map Qb) [2] []] rfl ⟨tt_,⟨tt_,(QeQ Qi)⟩⟩ ?_
 cases h
 exact d2_ rfl rfl rfl tt_
def Qhr (a:(List QD)):Option Bool:=
 (QeX a).bind fun b=>
 some b.2
theorem Qo3 (e){r}(h:Qhr e=some r):Qc prog 110 [.sl 7 (e.map Qv)] [] (Qh (.b r) []):=by
 refine Qc.walk 11 func110 rfl rfl rfl fun C hC=>?_
 obtain⟨f,a,h⟩:=Qd h
 refine Qa hC [.n 8,.o (.c false [.d] (.tup [.sl 1 (f.1.map Qb),.b f.2])),.n 14] rfl ⟨tt_,(Qkk _ a)⟩ ?_
 cases h
 exact d1_ rfl rfl tt_
def QdK (b:Qm)(a:Int):Option Bool:=
 (chk (decide (0≤(w64 (a+1)))&&decide (0≤(w64 (a+1)).toNat)&&decide ((w64 (a+1)).toNat≤b.Colours.length))).bind fun _=>
 (Qhr ((b.Colours.drop 0).take ((w64 (a+1)).toNat-0))).bind fun c=>
 some c
theorem Qmm (e f){r}(h:QdK e f=some r):Qc prog 109 [.loc 609 0 0,.loc 610 0 0] [(609,.var (Qe e)),(610,.var (Qb f))] (Qh (.b r) [(609,.var (Qe e)),(610,.var (Qb f))]):=by
 refine Qc.walk 9 func109 rfl rfl rfl fun C hC=>?_
 obtain⟨a,h⟩:=QaO h
 obtain⟨j,g,h⟩:=Qd h
 refine Qa hC [.n 11,.o (.any (.sl 7 (((e.Colours.drop 0).take ((w64 (f+1)).toNat-0)).map Qv)) none),.o (.c false [.d] (.b j)),.n 4] rfl ⟨⟨tt_,(fun σ i k _=>Stp.sliceD rfl rfl (Qz hC.n rfl) (i _ _ rfl) (Qp.es rfl) Bnd.no (Bnd.val (i _ _ rfl) (Qab (Qod a)) rfl) (Qab (Qoe a)) (QcL (Qab (Qof a)) (Nat.le_of_eq Qi.symm)) QqA)⟩,(Qo3 _ g)⟩ ?_
 cases h
 exact d1_ rfl rfl ⟨rfl,rfl,tt_⟩
def Qlf (x:ByteArray):Option (List ByteArray):=(chk (QsB x)).bind fun _=>some (QdZ x)
theorem QnI (x){r}(h:Qlf x=some r):Qc prog 242 [.s x] [] (Qh (.own 600 r.length) [(600,.arr 1 (r.map Qb7))]):=by
 obtain⟨_,a,h⟩:=Qd h
 cases h
 exact QrR Quh (by kernel_rfl) (by kernel_rfl) x (Qtj a)
def QfM  : Option (List ByteArray):=
 (Qlf (⟨#[99,111,108,111,117,114,32,112,108,97,99,101,32,116,97,115,107,32,118,97,114,32,119,104,101,110,32,106,111,105,110,32,115,112,108,105,116,32,105,110,32,111,117,116,32,99,97,110,99,101,108,32,97,102,116,101,114,32,109,97,110,121,32,102,114,111,109,32,116,111,32,105,110,116,32,101,110,117,109,32,112,97,105,114,32,97,110,100,32,120,111,114,32,111,114,32,105,102]⟩:ByteArray)).bind fun a=>
 some a
theorem QpV  {r:(List ByteArray)}(h:QfM  = some r):Qc prog 225 [] [] (Qh (.own 600 r.length) [(600,.arr 1 (r.map Qb7))]):=by
 refine Qc.walk 2 func225 rfl rfl rfl fun C hC=>?_
 obtain⟨b,a,h⟩:=Qd h
 refine Qa hC [.n 7,.o (.co false [.d] 1 (b.map Qb7) b.length),.n 4,.K [0] [1],.ren 1 600] rfl ⟨tt_,⟨(QnI _ a),Qi,.inl rfl⟩⟩ ?_
 cases h
 exact d1_ rfl rfl ⟨rfl,tt_⟩
def QaZ (b:(List ByteArray))(c:ByteArray)(a:Int):Option (Int⊕(Int⊕Unit)):=
 bif (decide (a<(b.length:Int)))then
 (idx b a).bind fun d=>
 bif (Qfb c d)then
 some (.inr (.inl a))
 else
 some (.inl (w64 (a+1)))
 else
 some (.inr (.inr ()))
def Qa0 (a:Int):Option Int:=
 some a
def Qa1 : Option Int:=
 some (-1)
def Qbg (a:(List ByteArray))(b:ByteArray):Option Int:=
 (Qw (fun st=>QaZ a b st) 0).bind (Sum.elim (fun q=>Qa0 q) (fun q=>Qa1))
theorem QiO (c f){r}(h:Qbg c f=some r):Qc prog 241 [.sl 1 (c.map Qb7),.s f] [] (Qh (.I r) []):=by
 refine Qc.walk 19 func241 rfl rfl rfl fun C hC=>?_
 refine Qa hC [.n 9,.o (.ln c.length),.n 4,.K [0,1,7,8] []] rfl ⟨tt_,Qi⟩ ?_
 obtain⟨g,d,h⟩:=Qd h
 refine AK.loop (body:=(fun st=>QaZ c f st)) (fun st σ=>σ=⟨[(0,.sl 1 (c.map Qb7)),(1,.s f),(7,.I (c.length:Int)),(8,.I st)],[]⟩) (Sum.elim (fun q e σ=>e=.ret∧σ=⟨[(4,.I q)],[]⟩) (fun q e σ=>e=.exit 0∧σ=⟨[],[]⟩)) d rfl ?_ ?_
 ·rintro l o σ rfl h
  refine tg_ hC [.n 6] rfl ?_
  rcases Qs h with⟨b,h⟩|⟨b,h⟩
  ·obtain⟨j,i,h⟩:=Qd h
   refine Qa hC [.T,.n 15,.o (.row (Qb7 j)),.n 4] rfl ⟨⟨tt_,b⟩,(QC i)⟩ ?_
   refine bg_ h (fun a h=>Qa hC [.T,.n 9,.K [4] []] rfl ⟨tt_,a⟩ ?_) fun a h=>Qa hC [.F,.n 7,.K [0,1,7,8] []] rfl ⟨tt_,a⟩ ?_
   ·cases h
    exact QaN rfl (an_ rfl rfl)
   cases h
   exact QU rfl rfl
  refine Qa hC [.F,.n 2,.K [] []] rfl ⟨tt_,b⟩ ?_
  cases h
  exact QV rfl (an_ rfl rfl)
 rcases g with(k | _)
 ·replace h:Qa0 k=some r:=h
  rintro e σ ⟨rfl,rfl⟩
  refine tg_ hC [.n 2] rfl ?_
  cases h
  exact d1_ rfl rfl tt_
 replace h:Qa1=some r:=h
 rintro e σ ⟨rfl,rfl⟩
 refine tg_ hC [.n 8] rfl ?_
 cases h
 exact d1_ rfl rfl tt_
def Qa2 (a:(List ByteArray))(b:ByteArray):Option Bool:=
 (Qbg a b).bind fun c=>
 some (decide (0≤c))
theorem QhP (e f){r}(h:Qa2 e f=some r):Qc prog 224 [.sl 1 (e.map Qb7),.s f] [] (Qh (.b r) []):=by
 refine Qc.walk 9 func224 rfl rfl rfl fun C hC=>?_
 obtain⟨g,a,h⟩:=Qd h
 refine Qa hC [.n 9,.o (.c false [.d,.d] (.I g)),.n 5] rfl ⟨tt_,(QiO _ _ a)⟩ ?_
 cases h
 exact d1_ rfl rfl tt_
def Qi8 (a:ByteArray):Option Bool:=
 (QfM).bind fun b=>
 (Qa2 b a).bind fun c=>
 some c
theorem QqE (g){r}(h:Qi8 g=some r):Qc prog 178 [.s g] [] (Qh (.b r) []):=by
 refine Qc.walk 6 func178 rfl rfl rfl fun C hC=>?_
 obtain⟨a,e,h⟩:=Qd h
 obtain⟨i,f,h⟩:=Qd h
 refine Qa hC [.n 7,.o (.co false [] 1 (a.map Qb7) a.length),.n 1,.o (.c true [.o (a.map Qb7),.d] (.b i)),.n 4] rfl ⟨⟨tt_,⟨(QpV  e),Qi,.inl rfl⟩⟩,⟨(QeR rfl),(QhP _ _ f)⟩⟩ ?_
 cases h
 exact d1_ rfl rfl tt_
def Ql5 (a:ByteArray):Option Bool:=
 (Qd0 a).bind fun b=>
 bif b then
 (Qi8 a).bind fun c=>
 some (!c)
 else
 some false
def Qgm (a:Bool):Option Bool:=
 some a
def QcJ (a:ByteArray):Option Bool:=
 (Ql5 a).bind (fun b=>Qgm b)
theorem Qee (j){r}(h:QcJ j=some r):Qc prog 106 [.s j] [] (Qh (.b r) []):=by
 refine Qc.walk 10 func106 rfl rfl rfl fun C hC=>?_
 refine tg_ hC [.n 6] rfl ?_
 obtain⟨e,f,h⟩:=Qd h
 replace h:Qgm e=some r:=h
 refine AK.meetX (fun σ=>σ=⟨[(2,.b e)],[]⟩) ?_ ?_
 ·replace h:=f
  obtain⟨k,g,h⟩:=Qd h
  refine Qa hC [.n 2,.o (.c false [.d] (.b k)),.n 1] rfl ⟨tt_,(QiE _ g)⟩ ?_
  rcases Qs h with⟨a,h⟩|⟨a,h⟩
  ·obtain⟨l,i,h⟩:=Qd h
   refine Qa hC [.S 5 (.b true),.n 1,.o (.c false [.d] (.b l)),.n 4,.K [2] []] rfl ⟨(tc_ a),(QqE _ i)⟩ ?_
   cases h
   exact AK.met rfl
  refine Qa hC [.S 5 (.b false),.n 6,.K [2] []] rfl (tc_ a) ?_
  cases h
  exact AK.met rfl
 rintro σ rfl
 replace h:Qgm e=some r:=h
 refine tg_ hC [.n 2] rfl ?_
 cases h
 exact d1_ rfl rfl tt_
def QcO (a:ByteArray):Option Bool:=
 (QcJ a).bind fun b=>
 some (!b)
theorem Qlg (e){r}(h:QcO e=some r):Qc prog 108 [.s e] [] (Qh (.b r) []):=by
 refine Qc.walk 6 func108 rfl rfl rfl fun C hC=>?_
 obtain⟨f,a,h⟩:=Qd h
 refine Qa hC [.n 8,.o (.c false [.d] (.b f)),.n 5] rfl ⟨tt_,(Qee _ a)⟩ ?_
 cases h
 exact d1_ rfl rfl tt_
def Qax (b:(List ByteArray))(a:Int):Option (Int⊕(Int⊕Unit)):=
 bif (decide (a<(b.length:Int)))then
 (idx b a).bind fun c=>
 (QcO c).bind fun d=>
 bif d then
 some (.inr (.inl a))
 else
 some (.inl (w64 (a+1)))
 else
 some (.inr (.inr ()))
def Qay (a:Int):Option Int:=
 some a
def Qaz : Option Int:=
 some (-1)
def QaU (a:(List ByteArray)):Option Int:=
 (Qw (fun st=>Qax a st) 0).bind (Sum.elim (fun q=>Qay q) (fun q=>Qaz))
theorem Qhs (g){r}(h:QaU g=some r):Qc prog 179 [.sl 1 (g.map Qb7),.clo (.func 108) [] []] [] (Qh (.I r) []):=by
 refine Qc.walk 19 func179 rfl rfl rfl fun C hC=>?_
 refine Qa hC [.n 9,.o (.ln g.length),.n 4,.K [0,1,7,8] []] rfl ⟨tt_,Qi⟩ ?_
 obtain⟨j,i,h⟩:=Qd h
 refine AK.loop (body:=(fun st=>Qax g st)) (fun st σ=>σ=⟨[(0,.sl 1 (g.map Qb7)),(1,.clo (.func 108) [] []),(7,.I (g.length:Int)),(8,.I st)],[]⟩) (Sum.elim (fun q e σ=>e=.ret∧σ=⟨[(4,.I q)],[]⟩) (fun q e σ=>e=.exit 0∧σ=⟨[],[]⟩)) i rfl ?_ ?_
 ·rintro t o σ rfl h
  refine tg_ hC [.n 6] rfl ?_
  rcases Qs h with⟨f,h⟩|⟨f,h⟩
  ·obtain⟨m,k,h⟩:=Qd h
   obtain⟨p,l,h⟩:=Qd h
   refine Qa hC [.T,.n 15,.o (.row (Qb7 m)),.n 1,.o (.c false [.d] (.b p)),.n 2] rfl ⟨⟨⟨tt_,f⟩,(QC k)⟩,(Qlg _ l)⟩ ?_
   refine bg_ h (fun a h=>Qa hC [.T,.n 9,.K [4] []] rfl ⟨tt_,a⟩ ?_) fun a h=>Qa hC [.F,.n 7,.K [0,1,7,8] []] rfl ⟨tt_,a⟩ ?_
   ·cases h
    exact QaN rfl (an_ rfl rfl)
   cases h
   exact QU rfl rfl
  refine Qa hC [.F,.n 2,.K [] []] rfl ⟨tt_,f⟩ ?_
  cases h
  exact QV rfl (an_ rfl rfl)
 rcases j with(s | _)
 ·replace h:Qay s=some r:=h
  rintro e σ ⟨rfl,rfl⟩
  refine tg_ hC [.n 2] rfl ?_
  cases h
  exact d1_ rfl rfl tt_
 replace h:Qaz=some r:=h
 rintro e σ ⟨rfl,rfl⟩
 refine tg_ hC [.n 8] rfl ?_
 cases h
 exact d1_ rfl rfl tt_
def QaA (a:(List ByteArray)):Option Bool:=
 (QaU a).bind fun b=>
 some (decide (0≤b))
theorem QfZ (c){r}(h:QaA c=some r):Qc prog 107 [.sl 1 (c.map Qb7),.clo (.func 108) [] []] [] (Qh (.b r) []):=by
 refine Qc.walk 9 func107 rfl rfl rfl fun C hC=>?_
 obtain⟨e,a,h⟩:=Qd h
 refine Qa hC [.n 9,.cm (.fn) [] [] [] [.d,.d] [] (.I e),.n 5] rfl ⟨tt_,(Qhs _ a)⟩ ?_
 cases h
 exact d1_ rfl rfl tt_
def Qh6 (a:QD):Option Bool:=
 (QcJ a.Name).bind fun b=>
 bif b then
 bif (a.Kind != 2)then
 some true
 else
 (QaA a.Names).bind fun c=>
 some (!c)
 else
 some false
def Qcx (a:Bool):Option Bool:=
 some a
def QdL (a:QD):Option Bool:=
 (Qh6 a).bind (fun b=>Qcx b)
theorem Qmn (f){r}(h:QdL f=some r):Qc prog 105 [.loc 609 0 0] [(609,.var (Qv f))] (Qh (.b r) [(609,.var (Qv f))]):=by
 refine Qc.walk 16 func105 rfl rfl rfl fun C hC=>?_
 refine tg_ hC [.n 6] rfl ?_
 obtain⟨g,i,h⟩:=Qd h
 replace h:Qcx g=some r:=h
 refine AK.meetX (fun σ=>σ=⟨[(1,.b g)],[(609,.var (Qv f))]⟩) ?_ ?_
 ·replace h:=i
  obtain⟨l,j,h⟩:=Qd h
  refine Qa hC [.n 3,.o (.c false [.d] (.b l)),.n 1] rfl ⟨tt_,(Qee _ j)⟩ ?_
  refine bg_ h (fun a h=>Qa hC [.S 5 (.b true),.n 4] rfl (tc_ a) ?_) fun a h=>Qa hC [.S 5 (.b false),.n 12,.K [1] [609]] rfl (tc_ a) ?_
  ·rcases Qs h with⟨e,h⟩|⟨e,h⟩
   ·refine Qa hC [.S 9 (.b true),.n 8,.K [1] [609]] rfl (tc_ e) ?_
    cases h
    exact AK.met rfl
   obtain⟨m,k,h⟩:=Qd h
   refine Qa hC [.S 9 (.b false),.n 2,.cm (.fn) [] [] [] [.d,.d] [] (.b m),.n 5,.K [1] [609]] rfl ⟨(tc_ e),(QfZ _ k)⟩ ?_
   cases h
   exact AK.met rfl
  cases h
  exact AK.met rfl
 rintro σ rfl
 replace h:Qcx g=some r:=h
 refine tg_ hC [.n 2] rfl ?_
 cases h
 exact d1_ rfl rfl ⟨rfl,tt_⟩
def Qfo (b:Qm)(c:Int)(d:Int)(e:QD)(f:Int):Option Int:=
 (QdK b c).bind fun g=>
 bif (!g)then
 some d
 else
 (QdL e).bind fun a=>
 bif (!a)then
 some f
 else
 some 0
theorem QnJ (g i j k l){r}(h:Qfo g i j k l=some r):Qc prog 64 [.own 609 2] [(609,.var [.clo (.func 109) [] [.loc 610 0 0,.loc 611 0 0],.I j,.clo (.func 105) [] [.loc 612 0 0],.I l]),(610,.var (Qe g)),(611,.var (Qb i)),(612,.var (Qv k))] (Qh (.I r) [(609,.var [.clo (.func 109) [] [.loc 610 0 0,.loc 611 0 0],.I j,.clo (.func 105) [] [.loc 612 0 0],.I l]),(610,.var (Qe g)),(611,.var (Qb i)),(612,.var (Qv k))]):=by
 refine Qc.walk 18 func64 rfl rfl rfl fun C hC=>?_
 refine tg_ hC [.n 14] rfl ?_
 refine AK.loopN 3 (AK.rnd ?_)
 obtain⟨s,m,h⟩:=Qd h
 refine Qa hC [.n 2,.v .no [] (.b true),.n 10,.o (.any (.loc 609 0 0) none),.n 3,.O 4 (.var [.clo (.func 109) [] [.loc 610 0 0,.loc 611 0 0],.I j]),.n 6,.cm (.clo) [(609,610),(610,611)] [(610,609),(611,610)] [] [.d,.d] [(609,.var (Qe g)),(610,.var (Qb i))] (.b s),.n 3] rfl ⟨⟨⟨⟨tt_,rfl⟩,(fun σ e p _=>Stp.idxV rfl rfl (Qz hC.n rfl) (e _ _ rfl) (e _ _ rfl) (Qp.es rfl) (p _ _ rfl) (by decide))⟩,rfl⟩,(Qmm _ _ m)⟩ ?_
 refine bg_ h (fun c h=>Qa hC [.T,.n 13,.K [2] [609,610,611,612]] rfl ⟨tt_,c⟩ ?_) fun c h=>Qa hC [.F,.n 4,.v .no [] (.I 1),.n 2] rfl ⟨⟨tt_,c⟩,rfl⟩ ?_
 ·cases h
  exact d1_ rfl rfl ⟨rfl,rfl,rfl,rfl,tt_⟩
 refine AK.met (AK.rnd ?_)
 obtain⟨q,f,h⟩:=Qd h
 refine Qa hC [.n 2,.v .no [] (.b true),.n 10,.o (.any (.loc 609 0 2) none),.n 1,.kill 4,.n 2,.O 4 (.var [.clo (.func 105) [] [.loc 612 0 0],.I l]),.n 6,.cm (.clo) [(609,612)] [(612,609)] [] [.d] [(609,.var (Qv k))] (.b q),.n 3] rfl ⟨⟨⟨⟨tt_,rfl⟩,(fun σ e p _=>Stp.idxV rfl rfl (Qz hC.n rfl) (e _ _ rfl) (e _ _ rfl) (Qp.es rfl) (p _ _ rfl) (by decide))⟩,rfl⟩,(Qmn _ f)⟩ ?_
 refine bg_ h (fun a h=>Qa hC [.T,.n 13,.K [2] [609,610,611,612]] rfl ⟨tt_,a⟩ ?_) fun a h=>Qa hC [.F,.n 4,.v .no [] (.I 2),.n 2] rfl ⟨⟨tt_,a⟩,rfl⟩ ?_
 ·cases h
  exact d1_ rfl rfl ⟨rfl,rfl,rfl,rfl,tt_⟩
 refine AK.met (AK.rnd ?_)
 refine Qa hC [.n 2,.v .no [] (.b false),.n 15] rfl ⟨tt_,rfl⟩ ?_
 cases h
 exact d1_ rfl rfl ⟨rfl,rfl,rfl,rfl,tt_⟩
def QeJ (a:Int)(b:QD)(c:Qm):Option Int:=
 (Qfo c a 8 b 8).bind fun d=>
 some d
theorem Qnv (b c a){r}(h:QeJ b c a=some r):Qc prog 104 [.I b,.agg (Qv c),.loc 609 0 0] [(609,.var (Qe a))] (Qh (.I r) [(609,.var (Qe a))]):=by
 refine Qc.walk 16 func104 rfl rfl rfl fun C hC=>?_
 obtain⟨f,e,h⟩:=Qd h
 refine Qa hC [.n 22,.v .no [] (.agg [.clo (.func 109) [] [.loc 609 0 0,.loc 3 0 0],.I 8]),.n 1,.v .no [] (.agg [.clo (.func 105) [] [.loc 4 0 0],.I 8]),.o (.any (.own 14 2) (some (.var [.clo (.func 109) [] [.loc 609 0 0,.loc 3 0 0],.I 8,.clo (.func 105) [] [.loc 4 0 0],.I 8]))),.cm (.fn) [(609,14),(610,609),(611,3),(612,4)] [(14,609),(609,610),(3,611),(4,612)] [] [.d] [(609,.var [.clo (.func 109) [] [.loc 610 0 0,.loc 611 0 0],.I 8,.clo (.func 105) [] [.loc 612 0 0],.I 8]),(610,.var (Qe a)),(611,.var (Qb b)),(612,.var (Qv c))] (.I f),.n 4] rfl ⟨⟨⟨⟨tt_,rfl⟩,rfl⟩,(fun σ g i hf=>Stp.buildAny rfl rfl (Qz hC.n rfl) (Qp.es rfl) QjN rfl (by decide) (by decide) (Qdh g rfl) rfl rfl (hf rfl))⟩,(QnJ _ _ _ _ _ e)⟩ ?_
 cases h
 exact d1_ rfl rfl ⟨rfl,tt_⟩
def Qbo (d:(List QD))(e:Qm)(a:Int):Option (Int⊕((Int×Int)⊕Unit)):=
 bif (decide (a<(d.length:Int)))then
 (idx d a).bind fun c=>
 (QeJ a c e).bind fun b=>
 bif (b != 0)then
 some (.inr (.inl (a,b)))
 else
 some (.inl (w64 (a+1)))
 else
 some (.inr (.inr ()))
def Qbp (b:Int)(a:Int):Option (Int×Int):=
 some (b,a)
def Qbq : Option (Int×Int):=
 some (0,0)
def Qb9 (a:(List QD))(b:Qm):Option (Int×Int):=
 (Qw (fun st=>Qbo a b st) 0).bind (Sum.elim (fun q=>Qbp q.1 q.2) (fun q=>Qbq))
theorem Qj3 (g f){r}(h:Qb9 g f=some r):Qc prog 103 [.sl 7 (g.map Qv),.clo (.func 104) [] [.loc 609 0 0]] [(609,.var (Qe f))] (Qh (.tup [.I r.1,.I r.2]) [(609,.var (Qe f))]):=by
 refine Qc.walk 25 func103 rfl rfl rfl fun C hC=>?_
 refine Qa hC [.n 10,.o (.ln g.length),.n 4,.K [1,9,10,11] [609]] rfl ⟨tt_,Qi⟩ ?_
 obtain⟨l,i,h⟩:=Qd h
 refine AK.loop (body:=(fun st=>Qbo g f st)) (fun st σ=>σ=⟨[(1,.clo (.func 104) [] [.loc 609 0 0]),(9,.sl 7 (g.map Qv)),(10,.I (g.length:Int)),(11,.I st)],[(609,.var (Qe f))]⟩) (Sum.elim (fun q e σ=>e=.ret∧σ=⟨[(4,.I q.1),(5,.I q.2)],[(609,.var (Qe f))]⟩) (fun q e σ=>e=.exit 0∧σ=⟨[],[(609,.var (Qe f))]⟩)) i rfl ?_ ?_
 ·rintro t o σ rfl h
  refine tg_ hC [.n 6] rfl ?_
  rcases Qs h with⟨a,h⟩|⟨a,h⟩
  ·obtain⟨c,j,h⟩:=Qd h
   obtain⟨m,k,h⟩:=Qd h
   refine Qa hC [.T,.n 7,.o (.row (Qv c)),.v .no [] (.agg (Qv c)),.n 3,.O 7 (.var (Qv c)),.n 6,.v .no [] (.agg (Qv c)),.cm (.clo) [(609,609)] [(609,609)] [] [.d,.d,.d] [(609,.var (Qe f))] (.I m),.n 9] rfl ⟨⟨⟨⟨⟨⟨tt_,a⟩,(QC j)⟩,rfl⟩,rfl⟩,rfl⟩,(Qnv _ _ _ k)⟩ ?_
   refine bg_ h (fun b h=>Qa hC [.T,.n 11,.K [4,5] [609]] rfl ⟨tt_,b⟩ ?_) fun b h=>Qa hC [.F,.n 7,.K [1,9,10,11] [609]] rfl ⟨tt_,b⟩ ?_
   ·cases h
    exact QaN rfl (an_ rfl rfl)
   cases h
   exact QU rfl rfl
  refine Qa hC [.F,.n 2,.K [] [609]] rfl ⟨tt_,a⟩ ?_
  cases h
  exact QV rfl (an_ rfl rfl)
 rcases l with(⟨s,p⟩|_)
 ·replace h:Qbp s p=some r:=h
  rintro e σ ⟨rfl,rfl⟩
  refine tg_ hC [.n 2] rfl ?_
  cases h
  exact d2_ rfl rfl rfl ⟨rfl,tt_⟩
 replace h:Qbq=some r:=h
 rintro e σ ⟨rfl,rfl⟩
 refine tg_ hC [.n 9] rfl ?_
 cases h
 exact d2_ rfl rfl rfl ⟨rfl,tt_⟩
def Qef (a:Qm):Option (Int×Int):=
 (Qb9 a.Colours a).bind fun b=>
 some (b.1,b.2)
theorem QjX (a){r}(h:Qef a=some r):Qc prog 69 [.agg (Qe a)] [] (Qh (.tup [.I r.1,.I r.2]) []):=by
 refine Qc.walk 10 func69 rfl rfl rfl fun C hC=>?_
 obtain⟨c,b,h⟩:=Qd h
 refine Qa hC [.n 12,.cm (.fn) [(609,1)] [(1,609)] [] [.d,.d] [(609,.var (Qe a))] (.tup [.I c.1,.I c.2]),.n 7] rfl ⟨tt_,(Qj3 _ _ b)⟩ ?_
 cases h
 exact d2_ rfl rfl rfl tt_
def Qgn (a:QB):Option Bool:=
 (QcJ a.Name).bind fun b=>
 some b
theorem Qoo (a){r}(h:Qgn a=some r):Qc prog 112 [.loc 609 0 0] [(609,.var (Qq a))] (Qh (.b r) [(609,.var (Qq a))]):=by
 refine Qc.walk 5 func112 rfl rfl rfl fun C hC=>?_
 obtain⟨f,e,h⟩:=Qd h
 refine Qa hC [.n 9,.o (.c false [.d] (.b f)),.n 4] rfl ⟨tt_,(Qee _ e)⟩ ?_
 cases h
 exact d1_ rfl rfl ⟨rfl,tt_⟩
def Qgo (a:QB)(b:QB):Option Bool:=
 some (Qfb a.Name b.Name)
theorem Qop (c a){r}(h:Qgo c a=some r):Qc prog 111 [.agg (Qq c),.loc 609 0 0] [(609,.var (Qq a))] (Qh (.b r) [(609,.var (Qq a))]):=by
 refine Qc.walk 9 func111 rfl rfl rfl fun C hC=>?_
 refine tg_ hC [.n 17] rfl ?_
 cases h
 exact d1_ rfl rfl ⟨rfl,tt_⟩
def Qad (c:(List QB))(d:QB)(a:Int):Option (Int⊕(Int⊕Unit)):=
 bif (decide (a<(c.length:Int)))then
 (idx c a).bind fun e=>
 (Qgo e d).bind fun b=>
 bif b then
 some (.inr (.inl a))
 else
 some (.inl (w64 (a+1)))
 else
 some (.inr (.inr ()))
def Qae (a:Int):Option Int:=
 some a
def Qaf : Option Int:=
 some (-1)
def Qap (a:(List QB))(b:QB):Option Int:=
 (Qw (fun st=>Qad a b st) 0).bind (Sum.elim (fun q=>Qae q) (fun q=>Qaf))
theorem Qe4 (g c){r}(h:Qap g c=some r):Qc prog 181 [.sl 3 (g.map Qq),.clo (.func 111) [] [.loc 609 0 0]] [(609,.var (Qq c))] (Qh (.I r) [(609,.var (Qq c))]):=by
 refine Qc.walk 19 func181 rfl rfl rfl fun C hC=>?_
 refine Qa hC [.n 9,.o (.ln g.length),.n 4,.K [0,1,7,8] [609]] rfl ⟨tt_,Qi⟩ ?_
 obtain⟨k,i,h⟩:=Qd h
 refine AK.loop (body:=(fun st=>Qad g c st)) (fun st σ=>σ=⟨[(0,.sl 3 (g.map Qq)),(1,.clo (.func 111) [] [.loc 609 0 0]),(7,.I (g.length:Int)),(8,.I st)],[(609,.var (Qq c))]⟩) (Sum.elim (fun q e σ=>e=.ret∧σ=⟨[(4,.I q)],[(609,.var (Qq c))]⟩) (fun q e σ=>e=.exit 0∧σ=⟨[],[(609,.var (Qq c))]⟩)) i rfl ?_ ?_
 ·rintro t o σ rfl h
  refine tg_ hC [.n 6] rfl ?_
  rcases Qs h with⟨f,h⟩|⟨f,h⟩
  ·obtain⟨p,l,h⟩:=Qd h
   obtain⟨m,j,h⟩:=Qd h
   refine Qa hC [.T,.n 15,.o (.row (Qq p)),.v .no [] (.agg (Qq p)),.cm (.clo) [(609,609)] [(609,609)] [] [.d,.d] [(609,.var (Qq c))] (.b m),.n 2] rfl ⟨⟨⟨⟨tt_,f⟩,(QC l)⟩,rfl⟩,(Qop _ _ j)⟩ ?_
   refine bg_ h (fun a h=>Qa hC [.T,.n 9,.K [4] [609]] rfl ⟨tt_,a⟩ ?_) fun a h=>Qa hC [.F,.n 7,.K [0,1,7,8] [609]] rfl ⟨tt_,a⟩ ?_
   ·cases h
    exact QaN rfl (an_ rfl rfl)
   cases h
   exact QU rfl rfl
  refine Qa hC [.F,.n 2,.K [] [609]] rfl ⟨tt_,f⟩ ?_
  cases h
  exact QV rfl (an_ rfl rfl)
 rcases k with(s | _)
 ·replace h:Qae s=some r:=h
  rintro e σ ⟨rfl,rfl⟩
  refine tg_ hC [.n 2] rfl ?_
  cases h
  exact d1_ rfl rfl ⟨rfl,tt_⟩
 replace h:Qaf=some r:=h
 rintro e σ ⟨rfl,rfl⟩
 refine tg_ hC [.n 8] rfl ?_
 cases h
 exact d1_ rfl rfl ⟨rfl,tt_⟩
def Qag (a:(List QB))(b:QB):Option Bool:=
 (Qap a b).bind fun c=>
 some (decide (0≤c))
theorem Qeq (e a){r}(h:Qag e a=some r):Qc prog 114 [.sl 3 (e.map Qq),.clo (.func 111) [] [.loc 609 0 0]] [(609,.var (Qq a))] (Qh (.b r) [(609,.var (Qq a))]):=by
 refine Qc.walk 9 func114 rfl rfl rfl fun C hC=>?_
 obtain⟨f,c,h⟩:=Qd h
 refine Qa hC [.n 9,.cm (.fn) [(609,609)] [(609,609)] [] [.d,.d] [(609,.var (Qq a))] (.I f),.n 5] rfl ⟨tt_,(Qe4 _ _ c)⟩ ?_
 cases h
 exact d1_ rfl rfl ⟨rfl,tt_⟩
def Qgp (b:Qm)(a:Int)(c:QB):Option Bool:=
 (chk (decide (0≤a)&&decide (0≤a.toNat)&&decide (a.toNat≤b.Places.length))).bind fun _=>
 (Qag ((b.Places.drop 0).take (a.toNat-0)) c).bind fun d=>
 some (!d)
theorem Qoq (e f g){r}(h:Qgp e f g=some r):Qc prog 113 [.loc 609 0 0,.loc 610 0 0,.loc 611 0 0] [(609,.var (Qe e)),(610,.var (Qb f)),(611,.var [.clo (.func 111) [] [.loc 612 0 0]]),(612,.var (Qq g))] (Qh (.b r) [(609,.var (Qe e)),(610,.var (Qb f)),(611,.var [.clo (.func 111) [] [.loc 612 0 0]]),(612,.var (Qq g))]):=by
 refine Qc.walk 11 func113 rfl rfl rfl fun C hC=>?_
 obtain⟨c,h⟩:=QaO h
 obtain⟨k,j,h⟩:=Qd h
 refine tg_ hC [.n 6,.K [0,1,2,3] [609,610,611,612]] rfl ?_
 refine AK.draw2 Qp hC mixed [.N,.N,.N,.a (.any (.sl 3 (((e.Places.drop 0).take (f.toNat-0)).map Qq)) none) none false,.N,.a (.any (.b k) none) none false,.N,.m .s] [] [] [3] [609,610,611,612] rfl rfl rfl ⟨⟨tt_,(fun σ i l _=>Stp.sliceD rfl rfl (Qz hC.n rfl) (i _ _ rfl) (Qp.es rfl) Bnd.no (Bnd.val (i _ _ rfl) (Qab (Qod c)) rfl) (Qab (Qoe c)) (QcL (Qab (Qof c)) (Nat.le_of_eq Qi.symm)) QqA)⟩,(fun σ i l _=>Stp.callSame (md:=.cm (.fn) [(609,612)] [(612,609)] [] [.d,.d] [(609,.var (Qq g))] (.b k) [612]) Qp hC i l rfl ⟨⟨tt_,(Qeq _ _ j)⟩,⟨rfl,tt_⟩⟩)⟩ rfl (by kernel_rfl) rfl rfl rfl ?_
 refine tg_ hC [.n 2] rfl ?_
 cases h
 exact d1_ rfl rfl ⟨rfl,rfl,rfl,rfl,tt_⟩
def Qba (b:(List QD))(a:Int):Option Bool:=
 some ((decide (0≤a))&&(decide (a<(b.length:Int))))
theorem Qe8 (d c){r}(h:Qba d c=some r):Qc prog 116 [.sl 7 (d.map Qv),.I c] [] (Qh (.b r) []):=by
 refine Qc.walk 13 func116 rfl rfl rfl fun C hC=>?_
 refine tg_ hC [.n 6] rfl ?_
 refine AK.meetX (fun σ=>σ=⟨[(4,.b ((decide (0≤c))&&(decide (c<(d.length:Int)))))],[]⟩) ?_ ?_
 ·refine tg_ hC [.n 4] rfl ?_
  rcases QQ (decide (0≤c))with a | a
  ·refine Qa hC [.S 7 (.b true),.n 2,.o (.ln d.length),.n 4,.S 4 (.b ((decide (0≤c))&&(decide (c<(d.length:Int))))),.K [4] []] rfl ⟨⟨(tc_ a),Qi⟩,(congrArg V.b (Qbh a rfl))⟩ ?_
   exact AK.met rfl
  refine Qa hC [.S 7 (.b false),.n 7,.S 4 (.b ((decide (0≤c))&&(decide (c<(d.length:Int))))),.K [4] []] rfl ⟨(tc_ a),(congrArg V.b (Qdf a rfl))⟩ ?_
  exact AK.met rfl
 rintro σ rfl
 refine tg_ hC [.n 2] rfl ?_
 cases h
 exact d1_ rfl rfl tt_
def Qgq (a:Qm)(b:QB):Option Bool:=
 (Qba a.Colours b.Colour).bind fun c=>
 some c
theorem Qor (a e){r}(h:Qgq a e=some r):Qc prog 115 [.loc 609 0 0,.loc 610 0 0] [(609,.var (Qe a)),(610,.var (Qq e))] (Qh (.b r) [(609,.var (Qe a)),(610,.var (Qq e))]):=by
 refine Qc.walk 8 func115 rfl rfl rfl fun C hC=>?_
 obtain⟨g,f,h⟩:=Qd h
 refine Qa hC [.n 11,.o (.c false [.d,.d] (.b g)),.n 4] rfl ⟨tt_,(Qe8 _ _ f)⟩ ?_
 cases h
 exact d1_ rfl rfl ⟨rfl,rfl,tt_⟩
def Qgr (a:QB):Option Bool:=
 (Qh2 a.First).bind fun b=>
 some b
theorem Qos (a){r}(h:Qgr a=some r):Qc prog 117 [.loc 609 0 0] [(609,.var (Qq a))] (Qh (.b r) [(609,.var (Qq a))]):=by
 refine Qc.walk 5 func117 rfl rfl rfl fun C hC=>?_
 obtain⟨f,e,h⟩:=Qd h
 refine Qa hC [.n 9,.o (.c false [.d] (.b f)),.n 4] rfl ⟨tt_,(QmD _ e)⟩ ?_
 cases h
 exact d1_ rfl rfl ⟨rfl,tt_⟩
def QjI (a:(List QD))(b:Int):Option (Bool×Qcu):=
 (QeX a).bind fun c=>
 bif ((!c.2)||((decide (b<0))||(decide ((a.length:Int)≤b))))then
 some (false,(Qcu.mk ([]:(List QD)) ([]:(List Int)) 0))
 else
 some (true,(Qcu.mk a c.1 b))
theorem Qrq (i e){r}(h:QjI i e=some r):Qc prog 162 [.sl 7 (i.map Qv),.I e] [] (Qh (.tup [.agg (QbM r.2),.b r.1]) []):=by
 refine Qc.walk 30 func162 rfl rfl rfl fun C hC=>?_
 obtain⟨j,k,h⟩:=Qd h
 refine Qa hC [.n 9,.o (.c false [.d] (.tup [.sl 1 (j.1.map Qb),.b j.2])),.n 9] rfl ⟨tt_,(Qkk _ k)⟩ ?_
 refine AK.meetX (fun σ=>σ=⟨[(0,.sl 7 (i.map Qv)),(1,.I e),(4,.loc 4 0 0),(6,.sl 1 (j.1.map Qb)),(24,.b ((!j.2)||((decide (e<0))||(decide ((i.length:Int)≤e)))))],[(4,.var [.lit (.slice none 0 0),.lit (.slice none 0 0),.I 0])]⟩) ?_ ?_
 ·refine tg_ hC [.n 4] rfl ?_
  rcases QQ (!j.2)with f | f
  ·refine Qa hC [.S 15 (.b true),.n 10,.S 24 (.b ((!j.2)||((decide (e<0))||(decide ((i.length:Int)≤e))))),.K [0,1,4,6,24] [4]] rfl ⟨(tc_ f),(congrArg V.b (orT f rfl))⟩ ?_
   exact AK.met rfl
  refine Qa hC [.S 15 (.b false),.n 4] rfl (tc_ f) ?_
  rcases QQ (decide (e<0))with a | a
  ·refine Qa hC [.S 19 (.b true),.n 6,.S 24 (.b ((!j.2)||((decide (e<0))||(decide ((i.length:Int)≤e))))),.K [0,1,4,6,24] [4]] rfl ⟨(tc_ a),(congrArg V.b (orF f (orT a rfl)))⟩ ?_
   exact AK.met rfl
  refine Qa hC [.S 19 (.b false),.n 2,.o (.ln i.length),.n 3,.S 24 (.b ((!j.2)||((decide (e<0))||(decide ((i.length:Int)≤e))))),.K [0,1,4,6,24] [4]] rfl ⟨⟨(tc_ a),Qi⟩,(congrArg V.b (orF f (orF a rfl)))⟩ ?_
  exact AK.met rfl
 rintro σ rfl
 refine tg_ hC [.n 1] rfl ?_
 refine bg_ h (fun g h=>Qa hC [.T,.n 2,.v .no [some 7,some 1,none] (.agg (QbM (Qcu.mk ([]:(List QD)) ([]:(List Int)) 0))),.n 1,.O 4 (.var (QbM (Qcu.mk ([]:(List QD)) ([]:(List Int)) 0))),.n 5,.K [4,5] [4]] rfl ⟨⟨⟨tt_,g⟩,rfl⟩,rfl⟩ ?_) fun g h=>Qa hC [.F,.n 7,.v .no [] (.agg (QbM (Qcu.mk i j.1 e))),.n 1,.O 4 (.var (QbM (Qcu.mk i j.1 e))),.n 4,.K [4,5] [4]] rfl ⟨⟨⟨tt_,g⟩,rfl⟩,rfl⟩ ?_
 ·cases h
  exact AK.done (ex_ [_,_] (an_ (an_ (ex_ _ (ex_ _ (an_ rfl (an_ rfl (Or.inl (an_ (Qp.ag rfl) (an_ (Qp.sz rfl) rfl))))))) (an_ rfl tt_)) (Qbf tt_)))
 cases h
 exact AK.done (ex_ [_,_] (an_ (an_ (ex_ _ (ex_ _ (an_ rfl (an_ rfl (Or.inl (an_ (Qp.ag rfl) (an_ (Qp.sz rfl) rfl))))))) (an_ rfl tt_)) (Qbf tt_)))
def QfN (c:(List QD))(a:Int):Option Int:=
 (QjI c a).bind fun b=>
 bif (!b.1)then
 some 0
 else
 (idx b.2.sizes a).bind fun d=>
 some d
theorem Qlh (i j){r}(h:QfN i j=some r):Qc prog 90 [.sl 7 (i.map Qv),.I j] [] (Qh (.I r) []):=by
 refine Qc.walk 20 func90 rfl rfl rfl fun C hC=>?_
 obtain⟨e,f,h⟩:=Qd h
 refine Qa hC [.n 9,.o (.c false [.d,.d] (.tup [.agg (QbM e.2),.b e.1])),.n 5,.O 5 (.var (QbM e.2)),.n 10] rfl ⟨⟨tt_,(Qrq _ _ f)⟩,rfl⟩ ?_
 rcases Qs h with⟨a,h⟩|⟨a,h⟩
 ·refine Qa hC [.T,.n 7] rfl ⟨tt_,a⟩ ?_
  cases h
  exact d1_ rfl rfl tt_
 obtain⟨k,g,h⟩:=Qd h
 refine Qa hC [.F,.n 7,.o (.row (Qb k)),.n 5] rfl ⟨⟨tt_,a⟩,(QC g)⟩ ?_
 cases h
 exact d1_ rfl rfl tt_
def QeK (a:(Int×Int))(b:Int):Option Bool:=
 some (decide (b≤a.1))
theorem Qnw (a c){r}(h:QeK a c=some r):Qc prog 120 [.agg (Qaq a),.loc 609 0 0] [(609,.var (Qb c))] (Qh (.b r) [(609,.var (Qb c))]):=by
 refine Qc.walk 8 func120 rfl rfl rfl fun C hC=>?_
 refine tg_ hC [.n 16] rfl ?_
 cases h
 exact d1_ rfl rfl ⟨rfl,tt_⟩
def QaB (c:QBg)(d:Int)(a:Int):Option (Int⊕(Int⊕Unit)):=
 bif (decide (a<(c.length:Int)))then
 (idx c a).bind fun e=>
 (QeK e d).bind fun b=>
 bif b then
 some (.inr (.inl a))
 else
 some (.inl (w64 (a+1)))
 else
 some (.inr (.inr ()))
def QaC (a:Int):Option Int:=
 some a
def QaD : Option Int:=
 some (-1)
def QaV (a:QBg)(b:Int):Option Int:=
 (Qw (fun st=>QaB a b st) 0).bind (Sum.elim (fun q=>QaC q) (fun q=>QaD))
theorem Qht (g c){r}(h:QaV g c=some r):Qc prog 182 [.sl 2 (g.map Qaq),.clo (.func 120) [] [.loc 609 0 0]] [(609,.var (Qb c))] (Qh (.I r) [(609,.var (Qb c))]):=by
 refine Qc.walk 19 func182 rfl rfl rfl fun C hC=>?_
 refine Qa hC [.n 9,.o (.ln g.length),.n 4,.K [0,1,7,8] [609]] rfl ⟨tt_,Qi⟩ ?_
 obtain⟨k,i,h⟩:=Qd h
 refine AK.loop (body:=(fun st=>QaB g c st)) (fun st σ=>σ=⟨[(0,.sl 2 (g.map Qaq)),(1,.clo (.func 120) [] [.loc 609 0 0]),(7,.I (g.length:Int)),(8,.I st)],[(609,.var (Qb c))]⟩) (Sum.elim (fun q e σ=>e=.ret∧σ=⟨[(4,.I q)],[(609,.var (Qb c))]⟩) (fun q e σ=>e=.exit 0∧σ=⟨[],[(609,.var (Qb c))]⟩)) i rfl ?_ ?_
 ·rintro t o σ rfl h
  refine tg_ hC [.n 6] rfl ?_
  rcases Qs h with⟨f,h⟩|⟨f,h⟩
  ·obtain⟨p,l,h⟩:=Qd h
   obtain⟨m,j,h⟩:=Qd h
   refine Qa hC [.T,.n 15,.o (.row (Qaq p)),.v .no [] (.agg (Qaq p)),.cm (.clo) [(609,609)] [(609,609)] [] [.d,.d] [(609,.var (Qb c))] (.b m),.n 2] rfl ⟨⟨⟨⟨tt_,f⟩,(QC l)⟩,rfl⟩,(Qnw _ _ j)⟩ ?_
   refine bg_ h (fun a h=>Qa hC [.T,.n 9,.K [4] [609]] rfl ⟨tt_,a⟩ ?_) fun a h=>Qa hC [.F,.n 7,.K [0,1,7,8] [609]] rfl ⟨tt_,a⟩ ?_
   ·cases h
    exact QaN rfl (an_ rfl rfl)
   cases h
   exact QU rfl rfl
  refine Qa hC [.F,.n 2,.K [] [609]] rfl ⟨tt_,f⟩ ?_
  cases h
  exact QV rfl (an_ rfl rfl)
 rcases k with(s | _)
 ·replace h:QaC s=some r:=h
  rintro e σ ⟨rfl,rfl⟩
  refine tg_ hC [.n 2] rfl ?_
  cases h
  exact d1_ rfl rfl ⟨rfl,tt_⟩
 replace h:QaD=some r:=h
 rintro e σ ⟨rfl,rfl⟩
 refine tg_ hC [.n 8] rfl ?_
 cases h
 exact d1_ rfl rfl ⟨rfl,tt_⟩
def QaE (a:QBg)(b:Int):Option Bool:=
 (QaV a b).bind fun c=>
 some (decide (0≤c))
theorem Qf0 (e a){r}(h:QaE e a=some r):Qc prog 119 [.sl 2 (e.map Qaq),.clo (.func 120) [] [.loc 609 0 0]] [(609,.var (Qb a))] (Qh (.b r) [(609,.var (Qb a))]):=by
 refine Qc.walk 9 func119 rfl rfl rfl fun C hC=>?_
 obtain⟨f,c,h⟩:=Qd h
 refine Qa hC [.n 9,.cm (.fn) [(609,609)] [(609,609)] [] [.d,.d] [(609,.var (Qb a))] (.I f),.n 5] rfl ⟨tt_,(Qht _ _ c)⟩ ?_
 cases h
 exact d1_ rfl rfl ⟨rfl,tt_⟩
def Qgs (b:Qm)(a:QB):Option Bool:=
 (QfN b.Colours a.Colour).bind fun c=>
 (QaE a.First c).bind fun d=>
 some (!d)
theorem Qot (a e){r}(h:Qgs a e=some r):Qc prog 118 [.loc 609 0 0,.loc 610 0 0] [(609,.var (Qe a)),(610,.var (Qq e))] (Qh (.b r) [(609,.var (Qe a)),(610,.var (Qq e))]):=by
 refine Qc.walk 14 func118 rfl rfl rfl fun C hC=>?_
 obtain⟨f,g,h⟩:=Qd h
 obtain⟨j,i,h⟩:=Qd h
 refine Qa hC [.n 11,.o (.c false [.d,.d] (.I f)),.n 2,.O 3 (.var (Qb f)),.n 7,.cm (.fn) [(609,3)] [(3,609)] [] [.d,.d] [(609,.var (Qb f))] (.b j),.n 5] rfl ⟨⟨⟨tt_,(Qlh _ _ g)⟩,rfl⟩,(Qf0 _ _ i)⟩ ?_
 cases h
 exact d1_ rfl rfl ⟨rfl,rfl,tt_⟩

end Go.Proofs
